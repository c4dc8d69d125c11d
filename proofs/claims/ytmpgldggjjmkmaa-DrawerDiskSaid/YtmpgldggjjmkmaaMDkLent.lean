/- A call's bytes in a room's lists; the lent bytes written over. Condition: none. -/
import Derived.Test.YtmpgldggjjmkmaaMHDiskA
import Derived.Test.YtmpgldggjjmkmaaMHMade
import Derived.Test.YtmpgldggjjmkmaaML
namespace Go.Proofs.Ytmpgldggjjmkmaa.PA
open Go.RowKit Go.Maps Go.Proofs.YtmpgldggjjmkmaaW.PrintWords Go.Proofs.YtmpgldggjjmkmaaW.PrintLast Go.Proofs.YtmpgldggjjmkmaaW.PrintMore
set_option linter.unusedVariables false
set_option linter.unusedSimpArgs false
theorem noM (r : Role) (h : isP r ∨ isR r ∨ r = .other) : ¬ isM r := by
  rintro rfl
  rcases h with h | h | h
  · exact h
  · exact h
  · cases h
theorem DS.room {b : Nat} {w W : World} {col : RCol} {g gP gR q : Nat} {o : OpV} {dP dR : Dk} (h : DS b w W col g gP gR q o dP dR) :
    DS b w (W.alloc (.cells roomNil 65)) (colN col W.heap.size fun _ => .rm) g gP gR q o dP dR ∧ (W.alloc (.cells roomNil 65)).heap[W.heap.size]? = some (.cells roomNil 65 (0, 0)) ∧ (colN col W.heap.size fun _ => .rm) W.heap.size = .rm ∧ b ≤ W.heap.size :=
  ⟨h.ch (S := fun _ => False) (Ch.of_new (below_alloc (Below.refl _ _) _) h.size _) (fun _ _ h => h), blk_new W _, colN_ge (Nat.le_refl _), h.size⟩
structure DR (b : Nat) (w W : World) (col : RCol) (g gP gR q : Nat) (o : OpV) (dP dR : Dk) (G F cap : Nat) (v1 : Value) : Prop where
  ds : DS b w W col g gP gR q o dP dR
  blk : W.heap[G]? = some (.cells (roomNil.setIfInBounds 0 v1) 65 (0, 0))
  tag : col G = .rm
  rm : RmB b W col v1 [(.slice (some ⟨F, 0, none⟩) (o.data.length + 600) cap, o.data)]
section
variable {b : Nat} {w W W' : World} {col col' : RCol} {g gP gR q G F cap : Nat} {o : OpV} {dP dR d' : Dk} {v1 : Value}
theorem DR.ch (h : DR b w W col g gP gR q o dP dR G F cap v1) {S : Role → Prop} (m : Ch b W col W' col' S) (hM : ¬ S .rm) {dP' : Dk} (hd : DS b w W' col' g gP gR q o dP' d') : DR b w W' col' g gP gR q o dP' d' G F cap v1 :=
  ⟨hd, m.blk h.blk (by rw [h.tag]; exact hM), (m.same G (blk_lt h.blk)).trans h.tag, h.rm.ch m hM⟩
theorem DR.go (h : DR b w W col g gP gR q o dP dR G F cap v1) (hb : Below W.heap.size W W') : DR b w W' col g gP gR q o dP dR G F cap v1 :=
  ⟨h.ds.go hb, (hb.block G (blk_lt h.blk)).trans h.blk, h.tag, h.rm.ch (S := fun _ => False) (Ch.of_below hb h.ds.size) (fun h => h)⟩
theorem DR.drew (h : DR b w W col g gP gR q o dP dR G F cap v1) : DR b w W.drew col g gP gR q o dP dR G F cap v1 := h.go ((Drawn0.refl W).step 1).below
theorem DR.pstep (h : DR b w W col g gP gR q o dP dR G F cap v1) (hp : PPost b W col gP d' W') (hd : d'.Ok) : ∃ col', DR b w W' col' g gP gR q o d' dR G F cap v1 := by
  obtain ⟨col', h1, m⟩ := h.ds.pstep hp hd
  exact ⟨col', h1, m.blk h.blk (by rw [h.tag]; exact fun h => h), (m.same G (blk_lt h.blk)).trans h.tag, h.rm.ch m (fun h => h)⟩
theorem DR.rstep (h : DR b w W col g gP gR q o dP dR G F cap v1) (hp : RPost b W col gR d' W') (hd : d'.Ok) : ∃ col', DR b w W' col' g gP gR q o dP d' G F cap v1 := by
  obtain ⟨col', h1, m⟩ := h.ds.rstep hp hd
  exact ⟨col', h1, m.blk h.blk (by rw [h.tag]; exact fun h => h), (m.same G (blk_lt h.blk)).trans h.tag, h.rm.ch m (fun h => h)⟩
theorem DR.lent (h : DR b w W col g gP gR q o dP dR G F cap v1) : U8B W F o.data.length ∧ ReadsInt W .u8 (some ⟨F, 0, none⟩) o.data.length o.data ∧ col F = .rm ∧ b ≤ F ∧ F < W.heap.size := by
  obtain ⟨F1, c1, e, ho, ht⟩ := h.rm.rows _ (List.mem_singleton.2 rfl)
  cases e
  have hot := own_take (m := o.data.length) ho (Nat.le_add_right _ _)
  have hot2 : W.ownsRow b 5 1 (.slice (some ⟨F, 0, none⟩) o.data.length cap) o.data.length (nums .u8 o.data) := by
    rw [Nat.mul_one, show (nums .u8 (o.data ++ marksB 600)).take o.data.length = nums .u8 o.data by
      unfold nums; rw [List.map_append, List.take_left' (List.length_map _)]] at hot
    exact hot
  exact ⟨U8B.of_own hot2 rfl (Nat.le_refl _), own_reads' hot2, ht, own_base ho F rfl, own_lt ho F rfl⟩
theorem DR.xF (h : DR b w W col g gP gR q o dP dR G F cap v1) {S : Role → Prop} (hS : ¬ S .rm) : XRow W col S (some ⟨F, 0, none⟩) o.data := by
  obtain ⟨_, h1, h2, _, h3⟩ := h.lent
  exact ⟨h1, fun _ a ha => by cases ha; exact ⟨h3, by show ¬ S (col F); rw [h2]; exact hS⟩⟩
theorem room_o {j : Nat} {v : Value} (hj : j < 21) (h0 : j ≠ 0) : (roomNil.setIfInBounds 0 v)[j]? = some (.slice none 0 0) := by
  rw [Array.getElem?_setIfInBounds_ne (Ne.symm h0), room_rep, Array.getElem?_replicate, if_pos hj]
theorem room_z {v : Value} : (roomNil.setIfInBounds 0 v)[0]? = some v := by
  rw [Array.getElem?_setIfInBounds_self_of_lt (by rw [room_rep, Array.size_replicate]; omega)]
theorem DR.hold (h : DR b w W col g gP gR q o dP dR G F cap v1) : Calls Try.prog 12 #[.pointer (some ⟨G, 0, none⟩)] W fun e w' => e = .returned (.bool true) ∧ Below W.heap.size W w' :=
  hold_gen G W (blk_lt h.blk) (fun j hj h0 _ _ => (blk_cell h.blk j).trans (room_o hj h0))
    (h.rm.held h.ds.size (by simp) (fun p hp => by rw [List.mem_singleton] at hp; subst hp; exact h.ds.inn.dlen) h.blk room_z)
    (nil_ints ((blk_cell h.blk 1).trans (room_o (by decide) (by decide)))) (nil_files ((blk_cell h.blk 13).trans (room_o (by decide) (by decide))))
structure DU (b : Nat) (w W : World) (col : RCol) (g gP gR q : Nat) (o : OpV) (dP dR : Dk) (F n : Nat) : Prop where
  ds : DS b w W col g gP gR q o dP dR
  u8 : U8B W F n
  tag : col F = .rm
  le : b ≤ F
theorem DR.du (h : DR b w W col g gP gR q o dP dR G F cap v1) : DU b w W col g gP gR q o dP dR F o.data.length := by
  obtain ⟨h1, _, h2, h3, _⟩ := h.lent
  exact ⟨h.ds, h1, h2, h3⟩
variable {n : Nat}
theorem DU.go (h : DU b w W col g gP gR q o dP dR F n) (hb : Below W.heap.size W W') : DU b w W' col g gP gR q o dP dR F n := ⟨h.ds.go hb, h.u8.below hb, h.tag, h.le⟩
theorem DU.drew (h : DU b w W col g gP gR q o dP dR F n) : DU b w W.drew col g gP gR q o dP dR F n := h.go ((Drawn0.refl W).step 1).below
theorem DU.step (h : DU b w W col g gP gR q o dP dR F n) (k : Nat) (x : Int) : DU b w (W.setCell ⟨F, k, none⟩ (.int .u8 x)) col g gP gR q o dP dR F n :=
  ⟨h.ds.ch (Ch.set (S := isM) (Ch.refl h.ds.size) (p := ⟨F, k, none⟩) h.le (by show isM (col F); rw [h.tag]; rfl) _) noM, h.u8.set F k x, h.tag, h.le⟩
theorem DU.ch (h : DU b w W col g gP gR q o dP dR F n) {S : Role → Prop} (m : Ch b W col W' col' S) (hM : ¬ S .rm) {dP' dR' : Dk} (hd : DS b w W' col' g gP gR q o dP' dR') : DU b w W' col' g gP gR q o dP' dR' F n := by
  obtain ⟨cs, hF, hk⟩ := h.u8
  exact ⟨hd, ⟨cs, m.blk hF (by rw [h.tag]; exact hM), hk⟩, (m.same F (blk_lt hF)).trans h.tag, h.le⟩
theorem DU.pstep (h : DU b w W col g gP gR q o dP dR F n) (hp : PPost b W col gP d' W') (hd : d'.Ok) : ∃ col', DU b w W' col' g gP gR q o d' dR F n ∧ Ch b W col W' col' isP := by
  obtain ⟨col', h1, m⟩ := h.ds.pstep hp hd
  exact ⟨col', h.ch m (fun h => h) h1, m⟩
theorem DU.reads (h : DU b w W col g gP gR q o dP dR F n) (hn : n ≤ 9223372036854775807) : ∃ xs : List Int, xs.length = n ∧ ReadsInt W .u8 (some ⟨F, 0, none⟩) n xs := h.u8.reads hn
theorem DU.xF (h : DU b w W col g gP gR q o dP dR F n) {S : Role → Prop} (hS : ¬ S .rm) {xs : List Int} (hx : xs.length = n) (hr : ReadsInt W .u8 (some ⟨F, 0, none⟩) n xs) : XRow W col S (some ⟨F, 0, none⟩) xs := by
  obtain ⟨cs, hF, _⟩ := h.u8
  subst hx
  exact ⟨hr, fun _ a ha => by cases ha; exact ⟨blk_lt hF, by show ¬ S (col F); rw [h.tag]; exact hS⟩⟩
theorem DR.of (h : DS b w W col g gP gR q o dP dR) (hl : b ≤ W.heap.size) (m : Ch b W col W' col' isM) (hr : RmB b W' col' v1 [(.slice (some ⟨F, 0, none⟩) (o.data.length + 600) cap, o.data)]) (hG : W'.heap[G]? = some (.cells (roomNil.setIfInBounds 0 v1) 65 (0, 0))) (hL : G < W.heap.size) (ht : col G = .rm) : DR b w W' col' g gP gR q o dP dR G F cap v1 :=
  ⟨h.ch m noM, hG, (m.same G hL).trans ht, hr⟩
end
theorem xrow_new {B : Nat} {W : World} {col : RCol} {S : Role → Prop} {A : Option Addr} {c : Nat} {xs : List Int} (hB : B ≤ W.heap.size) (ho : W.ownsRow B 5 1 (.slice A xs.length c) xs.length (nums .u8 xs)) (hc : ∀ k, B ≤ k → ¬ S (col k)) : XRow W col S A xs := by
  refine ⟨own_reads' ho, fun h0 a ha => ?_⟩
  obtain ⟨A1, c1, e, _, h1⟩ := own_form ho
  cases e
  have := h1 a ha
  exact ⟨own_lt ho _ this, hc _ (own_base ho _ this)⟩
section
variable {b : Nat} {w W W' : World} {col col' : RCol} {g gP gR q G F n : Nat} {o : OpV} {dP dR d' : Dk} {v1 : Value} {cg : Array Value}
theorem grown_none {W W' : World} (h : W.grownBy W' (Value.slice none 0 0).ownBlock) : Below W.heap.size W W' := (Below.refl W.heap.size W).grown h (Nat.le_refl _) (fun j hj => by simp [Value.ownBlock] at hj)
theorem DU.fresh (h : DU b w W col g gP gR q o dP dR F n) {ys : List Int} {u : Value} (ho : W'.ownsRow W.heap.size 5 1 u ([] ++ ys).length (nums .u8 ([] ++ ys))) (hg : W.grownBy W' (Value.slice none 0 0).ownBlock) :
    ∃ A c, u = .slice A ys.length c ∧ ys.length ≤ c ∧ DU b w W' (colN col W.heap.size fun _ => .other) g gP gR q o dP dR F n ∧ XRow W' (colN col W.heap.size fun _ => .other) isR A ys := by
  have hb := grown_none hg
  have m : Ch b W col W' (colN col W.heap.size fun _ => .other) (fun _ => False) := Ch.of_new hb h.ds.size _
  obtain ⟨A, c, rfl, hc, _⟩ := own_form ho
  exact ⟨A, c, rfl, hc, h.ch m (fun h => h) (h.ds.ch m (fun _ _ h => h)), xrow_new hb.size ho (fun k hk => by rw [colN_ge hk]; exact fun h => h)⟩
theorem pappend_n {b g : Nat} {w : World} {col : RCol} {d : Dk} (n : Nat) (nm : ByteArray) (DA : Option Addr) (dc : Nat) (xs : List Int) (hn : xs.length = n) (hd : d.Ok) (hs : nm.size ≤ 140737488355328) (hX : XRow w col isP DA xs) (hdc : n ≤ dc) (hxl : n ≤ 140737488355328) (h : PD b w col g d) : Calls Try.prog 14 #[.pointer (some ⟨g, 0, none⟩), .string nm, .slice DA n dc] w fun e w' => e = .returned (.int .i64 (d.app nm xs).1) ∧ PPost b w col g (d.app nm xs).2 w' := by
  subst hn; exact pappend_d nm DA dc xs hd hs hX hdc hxl h
structure DG (b : Nat) (w W : World) (col : RCol) (g gP gR q : Nat) (o : OpV) (dP dR : Dk) (G : Nat) (cg : Array Value) : Prop where
  ds : DS b w W col g gP gR q o dP dR
  blk : W.heap[G]? = some (.cells cg 65 (0, 0))
  tag : col G = .rm
  le : b ≤ G
theorem DG.go (h : DG b w W col g gP gR q o dP dR G cg) (hb : Below W.heap.size W W') : DG b w W' col g gP gR q o dP dR G cg := ⟨h.ds.go hb, (hb.block G (blk_lt h.blk)).trans h.blk, h.tag, h.le⟩
theorem DG.drew (h : DG b w W col g gP gR q o dP dR G cg) : DG b w W.drew col g gP gR q o dP dR G cg := h.go ((Drawn0.refl W).step 1).below
structure DI (b : Nat) (w W : World) (col : RCol) (g gP gR q : Nat) (o : OpV) (dP dR : Dk) (G : Nat) (v1 : Value) : Prop where
  dg : DG b w W col g gP gR q o dP dR G (roomNil.setIfInBounds 1 v1)
  rm : RmI b W col v1 o.keep
theorem DI.go (h : DI b w W col g gP gR q o dP dR G v1) (hb : Below W.heap.size W W') : DI b w W' col g gP gR q o dP dR G v1 := ⟨h.dg.go hb, h.rm.ch (S := fun _ => False) (Ch.of_below hb h.dg.ds.size) (fun h => h)⟩
theorem DI.drew (h : DI b w W col g gP gR q o dP dR G v1) : DI b w W.drew col g gP gR q o dP dR G v1 := h.go ((Drawn0.refl W).step 1).below
theorem DI.pstep (h : DI b w W col g gP gR q o dP dR G v1) (hp : PPost b W col gP d' W') (hd : d'.Ok) : ∃ col', DI b w W' col' g gP gR q o d' dR G v1 := by
  obtain ⟨col', h1, m⟩ := h.dg.ds.pstep hp hd
  exact ⟨col', ⟨h1, m.blk h.dg.blk (by rw [h.dg.tag]; exact fun h => h), (m.same G (blk_lt h.dg.blk)).trans h.dg.tag, h.dg.le⟩, h.rm.ch m (fun h => h)⟩
theorem DI.rstep (h : DI b w W col g gP gR q o dP dR G v1) (hp : RPost b W col gR d' W') (hd : d'.Ok) : ∃ col', DI b w W' col' g gP gR q o dP d' G v1 := by
  obtain ⟨col', h1, m⟩ := h.dg.ds.rstep hp hd
  exact ⟨col', ⟨h1, m.blk h.dg.blk (by rw [h.dg.tag]; exact fun h => h), (m.same G (blk_lt h.dg.blk)).trans h.dg.tag, h.dg.le⟩, h.rm.ch m (fun h => h)⟩
theorem DG.lend (h : DG b w W col g gP gR q o dP dR G roomNil) (m : Ch b W col W' col' isM) (hr : RmI b W' col' v1 o.keep) (hG : W'.heap[G]? = some (.cells (roomNil.setIfInBounds 1 v1) 65 (0, 0))) : DI b w W' col' g gP gR q o dP dR G v1 :=
  ⟨⟨h.ds.ch m noM, hG, (m.same G (blk_lt h.blk)).trans h.tag, h.le⟩, hr⟩
theorem room_1 {v : Value} : (roomNil.setIfInBounds 1 v)[1]? = some v := by
  rw [Array.getElem?_setIfInBounds_self_of_lt (by rw [room_rep, Array.size_replicate]; omega)]
theorem room_o1 {j : Nat} {v : Value} (hj : j < 21) (h0 : j ≠ 1) : (roomNil.setIfInBounds 1 v)[j]? = some (.slice none 0 0) := by
  rw [Array.getElem?_setIfInBounds_ne (Ne.symm h0), room_rep, Array.getElem?_replicate, if_pos hj]
theorem DI.hold (h : DI b w W col g gP gR q o dP dR G v1) : Calls Try.prog 12 #[.pointer (some ⟨G, 0, none⟩)] W fun e w' => e = .returned (.bool true) ∧ Below W.heap.size W w' :=
  hold_gen G W (blk_lt h.dg.blk) (fun j hj _ h1 _ => (blk_cell h.dg.blk j).trans (room_o1 hj h1))
    (nil_bytes ((blk_cell h.dg.blk 0).trans (room_o1 (by decide) (by decide))))
    (h.rm.held h.dg.ds.size (by have := h.dg.ds.inn.klen; omega) h.dg.blk room_1)
    (nil_files ((blk_cell h.dg.blk 13).trans (room_o1 (by decide) (by decide))))
theorem xints_lent {W : World} {col : RCol} {S : Role → Prop} {F : Nat} {xs : List Int} (hr : ReadsInt W .i64 (some ⟨F, 0, none⟩) xs.length xs) (ht : col F = .rm) (hS : ¬ S .rm) : XInts W col S (some ⟨F, 0, none⟩) xs :=
  ⟨hr, fun h0 a ha => by
    cases ha
    obtain ⟨ad, e, hc⟩ := hr.2.2 h0
    cases e
    have := World.block_lt_of_cell? _ _ (hc 0 h0)
    exact ⟨this, by show ¬ S (col F); rw [ht]; exact hS⟩⟩
end
end Go.Proofs.Ytmpgldggjjmkmaa.PA
