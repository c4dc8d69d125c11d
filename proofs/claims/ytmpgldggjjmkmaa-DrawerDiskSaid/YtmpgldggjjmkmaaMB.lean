/- Several texts of this claim in one, each in a section of its own; what nothing reaches is left out. Conditions: each law's own. -/
import Derived.Test.YtmpgldggjjmkmaaMA
import Derived.BigRegion
import Derived.Test.YtmpgldggjjmkmaaML
import Derived.Deep.RegionHeld3
import Derived.BigQuiet
import Derived.StillTailTactics
set_option linter.unusedVariables false
set_option linter.unusedSimpArgs false
set_option linter.unusedSectionVars false
section
namespace Go.Proofs.Ytmpgldggjjmkmaa.PA
open Go.RowKit Go.Maps Go.Proofs.YtmpgldggjjmkmaaW.PrintWords Go.Proofs.YtmpgldggjjmkmaaW.PrintLast Go.Proofs.YtmpgldggjjmkmaaW.PrintMore
def Dk.doF (d : Dk) (nm : ByteArray) (h : Fl → Fl) : Dk := if (d.chg nm).1 = 0 then { (d.chg nm).2 with fs := setF d.fs nm (h (getF d.fs nm)) } else (d.chg nm).2
def syncF (f : Fl) : Fl := { f with f2 := f.f1.length }
theorem RDm.post {b g : Nat} {w w' : World} {col : RCol} {d d' : Dk} {v : Value} {L : List (Fl × Value)} (h : RDm b w col g d v L) (hg : w.grownBy w' (some g)) (hB : RB w' g v d'.down d'.units d'.after d'.calls) (hf : d'.fs = d.fs) : RPost b w col g d' w' :=
  ⟨col, h.ch_of hg, v, L, h.turn hg hB hf⟩
theorem RPost.go {b g : Nat} {w W W' : World} {col : RCol} {d : Dk} (h : RPost b w col g d W) (hb : Below W.heap.size W W') : RPost b w col g d W' := by
  obtain ⟨col', h1, h2⟩ := h
  have hc : Ch b W col' W' col' (fun _ => False) := Ch.of_below hb h1.le'
  exact ⟨col', h1.trans (hc.mono fun _ h => h.elim), h2.ch hc fun _ _ h => h⟩
theorem RPost.drew {b g : Nat} {w W : World} {col : RCol} {d : Dk} (h : RPost b w col g d W) : RPost b w col g d W.drew := h.go ((Drawn0.refl W).step 1).below
theorem RDm.found {b g : Nat} {w : World} {col : RCol} {d : Dk} {v : Value} {L : List (Fl × Value)} (h : RDm b w col g d v L) {nm : ByteArray} (ht : there d.fs nm = true) : ∃ p, L[place d.fs nm]? = some p ∧ p.1 = getF d.fs nm := by
  obtain ⟨h1, h2, h3⟩ := there_get ht
  obtain ⟨p, hp, he⟩ := h.get h1
  exact ⟨p, hp, by rw [h2] at he; injection he with he; exact he.symm⟩
set_option maxRecDepth 100000 in
set_option maxHeartbeats 4000000 in
theorem rsync (b g : Nat) (d : Dk) (v : Value) (L : List (Fl × Value)) (col : RCol) (nm : ByteArray) (w : World) (hR : RDm b w col g d v L) (hd : d.Ok) (hs : nm.size ≤ 140737488355328) :
    Calls Try.prog 18 #[.pointer (some ⟨g, 0, none⟩), .string nm] w fun e w' => e = .returned (.int .i64 (d.chg nm).1) ∧ RPost b w col g (d.doF nm syncF) w' := by
  have hch := changes_calls b g d v L col nm w hR hd hs
  have hpost : ∀ w2, w.grownBy w2 (some g) → RB w2 g v (d.chg nm).2.down (d.chg nm).2.units (d.chg nm).2.after (d.chg nm).2.calls → (d.chg nm).1 ≠ 0 → RPost b w col g (d.doF nm syncF) w2 := fun w2 h1 h2 h3 => by
    unfold Dk.doF
    rw [if_neg h3]
    exact hR.post h1 h2 (chg_fs d nm)
  rcases chg_lit d nm with h0 | h0 | h0 | h0 | h0
  · have ht := chg_there h0
    have hq := (there_get ht).1
    obtain ⟨p, hp, hpe⟩ := hR.found ht
    obtain ⟨ad, c, ha⟩ := hR.at hq
    have hvl := ha.v
    subst hvl
    have hdo : d.doF nm syncF = { (d.chg nm).2 with fs := d.fs.set (place d.fs nm) { p.1 with f2 := p.1.f1.length } } := by
      unfold Dk.doF setF
      rw [if_pos h0, ← hpe]
      rfl
    have hfin : ∀ w2, w.grownBy w2 (some g) → RB w2 g (.slice (some ad) d.fs.length c) (d.chg nm).2.down (d.chg nm).2.units (d.chg nm).2.after (d.chg nm).2.calls → RPost b w col g (d.doF nm syncF) (w2.setCell ⟨(ad.add (place d.fs nm * 3)).block, (ad.add (place d.fs nm * 3)).off + 2, none⟩ (.int .i64 p.1.f1.length)) := fun w2 h1 h2 => by
      have hR2 := hR.turn h1 h2 (chg_fs d nm)
      have ha2 : LAt b w2 col g (.slice (some ad) d.fs.length c) (d.chg nm).2.fs.length ad c := by rw [chg_fs]; exact ⟨rfl, ha.le, ha.eq, ha.tag, ha.base, Nat.lt_of_lt_of_le ha.lt h1.size⟩
      obtain ⟨hR3, hc3⟩ := hR2.sync ha2 hp p.1.f1.length
      rw [hdo]
      rw [chg_fs] at hR3
      exact ⟨col, (hR.ch_of h1).trans (hc3.mono fun r h => h ▸ trivial), _, _, hR3⟩
    have hcell : ∀ w2, w.grownBy w2 (some g) → RB w2 g (.slice (some ad) d.fs.length c) (d.chg nm).2.down (d.chg nm).2.units (d.chg nm).2.after (d.chg nm).2.calls → _ := fun w2 h1 h2 =>
      (hR.turn h1 h2 (chg_fs d nm)).cells (ad := ad) (c := c) (by rw [chg_fs]; exact ⟨rfl, ha.le, ha.eq, ha.tag, ha.base, Nat.lt_of_lt_of_le ha.lt h1.size⟩) hp
    have k1 : (place d.fs nm : Int) < (d.fs.length : Int) := by omega
    have k2 : (0 : Int) ≤ (place d.fs nm : Int) := by omega
    obtain ⟨Ab, cb, hbv, hbc, _⟩ := (hR.list.rows p (List.mem_of_getElem? hp)).reads
    have HC := Aside0.mk hch
    have HF := Aside0.mk hfin
    have HCe := Aside0.mk hcell
    rw [h0, if_pos rfl] at HC
    clear hch hpost hR hd hs hdo hfin hcell ha hp hpe ht hq
    rw [h0]
    go_enter Try.func18, Try.ntmps18
    go_wp2_with (go_at_call 69; refine HC.out.mono ?_; rintro e w2 ⟨rfl, hg, hB⟩; have HG := Aside0.mk hg; have HB := Aside0.mk hB; have c0 : World.cell? w2 ⟨g, 0, none⟩ = some (.slice (some ad) d.fs.length c) := (blk_cell hB 0).trans rfl; obtain ⟨x0, x1, x2, x3, x4⟩ := HCe.out w2 hg hB; rw [hbv] at x1; clear hg hB)
    go_region
    go_wp2
    go_ret
    exact ⟨rfl, (HF.out _ HG.out HB.out).drew⟩
  all_goals
    rw [h0]
    have HC := Aside0.mk hch
    have HP : Aside0 (∀ w2, w.grownBy w2 (some g) → RB w2 g v (d.chg nm).2.down (d.chg nm).2.units (d.chg nm).2.after (d.chg nm).2.calls → RPost b w col g (d.doF nm syncF) w2) := ⟨fun w2 h1 h2 => hpost w2 h1 h2 (by rw [h0]; omega)⟩
    rw [h0, if_neg (by omega)] at HC
    clear hch hpost hR hd hs
    go_enter Try.func18, Try.ntmps18
    go_wp2_with (go_at_call 69; refine HC.out.mono ?_; rintro e w2 ⟨rfl, hg, hB⟩; have HG := Aside0.mk hg; have HB := Aside0.mk hB; clear hg hB)
    go_ret
    exact ⟨rfl, HP.out _ HG.out HB.out⟩
def Dk.rem (d : Dk) (nm : ByteArray) : Dk := if (d.chg nm).1 = 0 then { (d.chg nm).2 with fs := remF d.fs nm } else (d.chg nm).2
theorem rem_end {b g : Nat} {d : Dk} {v v3 : Value} {L : List (Fl × Value)} {col : RCol} {w W : World} {q n : Nat} (hR : RDm b w col g d v L) (hB : Below w.heap.size w W) (hql : q < d.fs.length)
    (hn : n + 1 = d.fs.length) (ho : W.ownsRow w.heap.size 74 3 v3 n ((flatL L).take (q * 3) ++ (flatL L).drop ((q + 1) * 3))) :
    RPost b w col g { d with fs := d.fs.take q ++ d.fs.drop (q + 1) } (W.setCell ⟨g, 0, none⟩ v3) := by
  have hgl := blk_lt hR.blk
  have hb : b ≤ w.heap.size := Nat.le_trans hR.le (Nat.le_of_lt hgl)
  have hc0 : Ch b w col W (colN col w.heap.size fun _ => .rl) (fun _ => False) := Ch.of_new hB hb _
  have hc := hc0.mono (S' := isR) (fun _ h => h.elim)
  have htag : colN col w.heap.size (fun _ => .rl) g = .rd := (colN_lt hgl).trans hR.tag
  have hL1 : (L.take q ++ L.drop (q + 1)).map (·.1) = d.fs.take q ++ d.fs.drop (q + 1) := by rw [List.map_append, List.map_take, List.map_drop, hR.list.fst]
  have hflat : (flatL L).take (q * 3) ++ (flatL L).drop ((q + 1) * 3) = flatL (L.take q ++ L.drop (q + 1)) := by rw [flatL_take, flatL_drop, flatL_append]
  rw [hflat] at ho
  have hs : Ch b W (colN col w.heap.size fun _ => .rl) (W.setCell ⟨g, 0, none⟩ v3) (colN col w.heap.size fun _ => .rl) (fun r => r = .rd) := htag ▸ Ch.one_set (Nat.le_trans hb hB.size) hR.le 0 v3
  have hg1 : W.heap[g]? = some (.cells #[v, .bool d.down, .int .i64 d.units, .int .i64 d.after, .int .i64 d.calls] 100 (0, 0)) := (hB.block _ hgl).trans hR.blk
  refine ⟨colN col w.heap.size fun _ => .rl, hc.trans (hs.mono fun r h => h ▸ trivial), v3, L.take q ++ L.drop (q + 1), blk_to hg1 (by simp), htag, hR.le, hL1, ?_, ?_, ?_⟩
  · refine own_move (own_lower (by rw [show (d.fs.take q ++ d.fs.drop (q + 1)).length = n by simp; omega]; exact ho) hb) (fun k hk => ?_)
    have := own_base ho k hk
    exact Below.heap_setCell W _ v3 k (fun e => by have : k = g := e; omega)
  · exact fun k hk => colN_ge (own_base ho k hk)
  · intro p hp
    have hp' : p ∈ L := by
      rw [List.mem_append] at hp
      rcases hp with h | h
      · exact List.mem_of_mem_take h
      · exact List.mem_of_mem_drop h
    exact ((hR.list.rows p hp').ch hc0 (fun h => h)).ch hs (fun h => by cases h)
theorem RPost.base {b g : Nat} {w w1 W : World} {col : RCol} {d : Dk} (h : RPost b w1 col g d W) (hc : Ch b w col w1 col isR) : RPost b w col g d W := by
  obtain ⟨col', h1, h2⟩ := h
  exact ⟨col', hc.trans h1, h2⟩
set_option maxRecDepth 100000 in
set_option maxHeartbeats 4000000 in
theorem rremove (b g : Nat) (d : Dk) (v : Value) (L : List (Fl × Value)) (col : RCol) (nm : ByteArray) (w : World) (hR : RDm b w col g d v L) (hd : d.Ok) (hs : nm.size ≤ 140737488355328) :
    Calls Try.prog 22 #[.pointer (some ⟨g, 0, none⟩), .string nm] w fun e w' => e = .returned (.int .i64 (d.chg nm).1) ∧ RPost b w col g (d.rem nm) w' := by
  have hch := changes_calls b g d v L col nm w hR hd hs
  have hpost : ∀ w2, w.grownBy w2 (some g) → RB w2 g v (d.chg nm).2.down (d.chg nm).2.units (d.chg nm).2.after (d.chg nm).2.calls → (d.chg nm).1 ≠ 0 → RPost b w col g (d.rem nm) w2 := fun w2 h1 h2 h3 => by
    unfold Dk.rem
    rw [if_neg h3]
    exact hR.post h1 h2 (chg_fs d nm)
  rcases chg_lit d nm with h0 | h0 | h0 | h0 | h0
  · have ht := chg_there h0
    have hq := (there_get ht).1
    obtain ⟨ad, c, ha⟩ := hR.at hq
    have hvl := ha.v
    have hnc := ha.le
    subst hvl
    have hdo : d.rem nm = { (d.chg nm).2 with fs := d.fs.take (place d.fs nm) ++ d.fs.drop (place d.fs nm + 1) } := by
      unfold Dk.rem remF
      rw [if_pos h0]
    have hturn : ∀ w2, w.grownBy w2 (some g) → RB w2 g (.slice (some ad) d.fs.length c) (d.chg nm).2.down (d.chg nm).2.units (d.chg nm).2.after (d.chg nm).2.calls → RDm b w2 col g (d.chg nm).2 (.slice (some ad) d.fs.length c) L := fun w2 h1 h2 => hR.turn h1 h2 (chg_fs d nm)
    have hfin : ∀ w2 W v3, w.grownBy w2 (some g) → RB w2 g (.slice (some ad) d.fs.length c) (d.chg nm).2.down (d.chg nm).2.units (d.chg nm).2.after (d.chg nm).2.calls → Below w2.heap.size w2 W →
        W.ownsRow w2.heap.size 74 3 v3 (d.fs.length - 1) ((flatL L).take (place d.fs nm * 3) ++ (flatL L).drop ((place d.fs nm + 1) * 3)) → RPost b w col g (d.rem nm) (W.setCell ⟨g, 0, none⟩ v3) := fun w2 W v3 h1 h2 h3 h4 => by
      have := (rem_end (hturn w2 h1 h2) h3 (by rw [chg_fs]; exact hq) (by rw [chg_fs]; omega) h4).base (hR.ch_of h1)
      rw [chg_fs] at this
      rw [hdo]
      exact this
    have hLl := hR.len
    have hfew := hd.few
    have H1 := Aside0.mk (flatL_one' hR.list.rows)
    have HC := Aside0.mk hch
    have HF := Aside0.mk hfin
    have HTu : Aside0 (∀ w2, w.grownBy w2 (some g) → RB w2 g (.slice (some ad) d.fs.length c) (d.chg nm).2.down (d.chg nm).2.units (d.chg nm).2.after (d.chg nm).2.calls → w2.ownsRow b 74 3 (.slice (some ad) d.fs.length c) d.fs.length (flatL L)) := ⟨fun w2 h1 h2 => by have := (hturn w2 h1 h2).list.own; rwa [chg_fs] at this⟩
    have HFew := Aside0.mk hfew
    rw [h0, if_pos rfl] at HC
    clear hch hpost hR hd hs hdo hfin hturn ha ht hfew
    rw [h0]
    generalize place d.fs nm = q at *
    generalize d.fs.length = n at *
    have k1 : (q : Int) < (n : Int) := by omega
    have k2 : (0 : Int) ≤ (q : Int) := by omega
    have k3 : wrap64 ((q : Int) + 1) = ((q + 1 : Nat) : Int) := by have := HFew.out; rw [PA.wr (by omega) (by omega)]; rfl
    have k4 : ((q + 1 : Nat) : Int) ≤ (n : Int) := by omega
    have HT : Aside0 (((flatL L).take (q * 3)).length = q * 3) := ⟨by rw [List.length_take, flatL_len]; omega⟩
    have HT2 : Aside0 (((flatL L).drop ((q + 1) * 3)).length = (n - (q + 1)) * 3) := ⟨by rw [List.length_drop, flatL_len]; omega⟩
    clear hLl
    go_enter Try.func22, Try.ntmps22
    go_wp2_with (first
      | (go_at_call 69; refine HC.out.mono ?_; rintro e w2 ⟨rfl, hg, hB⟩; have HG := Aside0.mk hg; have HB := Aside0.mk hB; have c0 : World.cell? w2 ⟨g, 0, none⟩ = some (.slice (some ad) n c) := (blk_cell hB 0).trans rfl; clear hg hB)
      | ((with_reducible refine gate_builtin (b := .append) (xs := #[.tmp 16, .tmp 22]) rfl ?_); at_builtin; refine append_rows (w0 := w2) w2.heap.size rfl (.tmp 16) (.tmp 22) 22 74 (.agg #[.string ⟨#[]⟩, .slice none 0 0, .int .i64 0]) 3 48 rfl Try.underlying22 infoF rfl (by decide) (by decide) (.slice none 0 0) 0 q _ [] ((flatL L).take (q * 3)) (some ad) rfl rfl ?aO ?aY ?a0 ?aR ?a1 ?aB ?aS ?aL ?_; (case aO => exact own_nil _ _ _ _); (case aY => exact HT.out); (case a0 => exact (fun h => by cases h)); (case aR => exact take_news (HTu.out _ HG.out HB.out)); (case a1 => exact (fun u hu => H1.out u (List.mem_of_mem_take hu))); (case aB => exact Below.refl _ _); (case aS => exact Nat.le_refl _); (case aL => have := HFew.out; omega); intro v1 w3 ho hb3 _ _; rw [Nat.zero_add, List.nil_append] at ho; obtain ⟨A1, C1, rfl, _, _⟩ := own_form ho; have c3 : World.cell? w3 ⟨g, 0, none⟩ = some (.slice (some ad) n c) := (hb3.cell (blk_lt HB.out)).trans c0; have HB3 := Aside0.mk hb3; have HO3 := Aside0.mk ho; clear ho hb3)
      | ((with_reducible refine gate_builtin (b := .append) (xs := #[.tmp 24, .tmp 31]) rfl ?_); at_builtin; refine append_rows (w0 := w2) w2.heap.size rfl (.tmp 24) (.tmp 31) 22 74 (.agg #[.string ⟨#[]⟩, .slice none 0 0, .int .i64 0]) 3 48 rfl Try.underlying22 infoF rfl (by decide) (by decide) _ q (n - (q + 1)) _ ((flatL L).take (q * 3)) ((flatL L).drop ((q + 1) * 3)) _ rfl rfl ?aO ?aY ?a0 ?aR ?a1 ?aB ?aS ?aL ?_; (case aO => exact HO3.out); (case aY => exact HT2.out); (case a0 => exact (fun h => by split at h <;> cases h)); (case aR => exact if_news (own_move (HTu.out _ HG.out HB.out) (fun k hk => HB3.out.block _ (own_lt (HTu.out _ HG.out HB.out) k hk))) hnc (q + 1)); (case a1 => exact (fun u hu => H1.out u (List.mem_of_mem_drop hu))); (case aB => exact HB3.out); (case aS => exact HB3.out.size); (case aL => have := HFew.out; omega); intro v2 w4 ho4 hb4 _ _; rw [show q + (n - (q + 1)) = n - 1 by omega] at ho4; obtain ⟨A2, C2, rfl, _, _⟩ := own_form ho4; have c4 : World.cell? w4 ⟨g, 0, none⟩ = some (.slice (some ad) n c) := (hb4.cell (blk_lt HB.out)).trans c0; have f4 : World.frozen? w4 ⟨g, 0, none⟩ = false := blk_frozen ((hb4.block g (blk_lt HB.out)).trans HB.out) 0; have HB4 := Aside0.mk hb4; have HO4 := Aside0.mk ho4; clear ho4 hb4 HB3 HO3))
    all_goals (go_ret; exact ⟨rfl, HF.out _ _ _ HG.out HB.out HB4.out HO4.out⟩)
  all_goals
    rw [h0]
    have HC := Aside0.mk hch
    have HP : Aside0 (∀ w2, w.grownBy w2 (some g) → RB w2 g v (d.chg nm).2.down (d.chg nm).2.units (d.chg nm).2.after (d.chg nm).2.calls → RPost b w col g (d.rem nm) w2) := ⟨fun w2 h1 h2 => hpost w2 h1 h2 (by rw [h0]; omega)⟩
    rw [h0, if_neg (by omega)] at HC
    clear hch hpost hR hd hs
    go_enter Try.func22, Try.ntmps22
    go_wp2_with (go_at_call 69; refine HC.out.mono ?_; rintro e w2 ⟨rfl, hg, hB⟩; have HG := Aside0.mk hg; have HB := Aside0.mk hB; clear hg hB)
    go_ret
    exact ⟨rfl, HP.out _ HG.out HB.out⟩
def trimF (n : Int) (f : Fl) : Fl := { f with f1 := f.f1.take (max n 0).toNat, f2 := min f.f2 (f.f1.take (max n 0).toNat).length }
theorem Ch.alloc {b : Nat} {W : World} {col : RCol} {S : Role → Prop} (hb : b ≤ W.heap.size) (o : Obj) : Ch b W col (W.alloc o) col S := Ch.of_below (below_alloc (Below.refl _ _) o) hb
theorem LAt.go {b g n c : Nat} {w w' : World} {col : RCol} {v : Value} {ad : Addr} (h : LAt b w col g v n ad c) (hb : w.heap.size ≤ w'.heap.size) {col' : RCol} (hc : col' ad.block = col ad.block) : LAt b w' col' g v n ad c := ⟨h.v, h.le, h.eq, hc.trans h.tag, h.base, Nat.lt_of_lt_of_le h.lt hb⟩
theorem rp_mk {b g : Nat} {w W : World} {col col' : RCol} {d d' : Dk} {v : Value} {L : List (Fl × Value)} (hc : Ch b w col W col' isR) (h : RDm b W col' g d' v L) (e : d' = d) : RPost b w col g d W := ⟨col', hc, v, L, e ▸ h⟩
theorem trim_box {b g c : Nat} {w W1 : World} {col : RCol} {d : Dk} {v : Value} {L : List (Fl × Value)} {ad : Addr} {x y z : Value} (h : RDm b w col g d v L) (ha : LAt b w col g v d.fs.length ad c) (hW : W1 = w.alloc (.cells #[x, y, z] 74)) :
    Aside0 (RDm b W1 col g d v L ∧ Ch b w col W1 col isR) ∧ Aside0 (LAt b W1 col g v d.fs.length ad c) ∧ W1.cell? ⟨w.heap.size, 0, none⟩ = some x ∧ W1.cell? ⟨w.heap.size, 1, none⟩ = some y ∧ W1.cell? ⟨w.heap.size, 2, none⟩ = some z ∧ W1.cell? ⟨g, 0, none⟩ = some v ∧ W1.heap.size = w.heap.size + 1 := by
  subst hW
  have hb : b ≤ w.heap.size := Nat.le_trans h.le (Nat.le_of_lt (blk_lt h.blk))
  have hc : Ch b w col (w.alloc (.cells #[x, y, z] 74)) col (fun _ => False) := Ch.alloc hb _
  have hx := heap_alloc_new w (.cells #[x, y, z] 74)
  have hR := h.ch hc (fun _ _ h => h)
  exact ⟨⟨hR, hc.mono fun _ h => h.elim⟩, ⟨ha.go (by simp) rfl⟩, (blk_cell hx 0).trans rfl, (blk_cell hx 1).trans rfl, (blk_cell hx 2).trans rfl, (blk_cell hR.blk 0).trans rfl, by simp⟩
section
variable {b g c q gx : Nat} {W1 w3 : World} {col : RCol} {d : Dk} {v : Value} {L : List (Fl × Value)} {ad : Addr} {p : Fl × Value}
theorem mid_cells (h : RDm b W1 col g d v L) (ha : LAt b W1 col g v d.fs.length ad c) (hp : L[q]? = some p) (hb : Below W1.heap.size W1 w3) (hx : gx < W1.heap.size) (hxa : ad.block ≠ gx) (hag : ad.block ≠ g) :
    w3.cell? ⟨g, 0, none⟩ = some v ∧ (∀ i, w3.cell? ⟨gx, i, none⟩ = W1.cell? ⟨gx, i, none⟩) ∧ w3.frozen? ⟨(ad.add (q * 3)).block, (ad.add (q * 3)).off + 1, none⟩ = false ∧ w3.cell? ⟨(ad.add (q * 3)).block, (ad.add (q * 3)).off + 1, none⟩ = some p.2 ∧
    ∀ u, (w3.setCell ⟨(ad.add (q * 3)).block, (ad.add (q * 3)).off + 1, none⟩ u).cell? ⟨g, 0, none⟩ = some v ∧ ∀ i, (w3.setCell ⟨(ad.add (q * 3)).block, (ad.add (q * 3)).off + 1, none⟩ u).cell? ⟨gx, i, none⟩ = W1.cell? ⟨gx, i, none⟩ := by
  have hR3 : RDm b w3 col g d v L := h.ch (Ch.of_below (S := fun _ => False) hb (Nat.le_trans h.le (Nat.le_of_lt (blk_lt h.blk)))) (fun _ _ h => h)
  have ha3 := ha.go hb.size rfl
  obtain ⟨x0, x1, x2, x3, x4⟩ := hR3.cells ha3 hp
  have e0 : ad.add (q * 3) = ⟨ad.block, q * 3, none⟩ := by rw [ha.eq, add_at]
  have e1 : w3.cell? ⟨g, 0, none⟩ = some v := (blk_cell hR3.blk 0).trans rfl
  have e2 : ∀ i, w3.cell? ⟨gx, i, none⟩ = W1.cell? ⟨gx, i, none⟩ := fun i => hb.cell (p := ⟨gx, i, none⟩) hx
  have hset : ∀ (u : Value) (k i : Nat), k ≠ ad.block → (w3.setCell ⟨(ad.add (q * 3)).block, (ad.add (q * 3)).off + 1, none⟩ u).cell? ⟨k, i, none⟩ = w3.cell? ⟨k, i, none⟩ := fun u k i hk => by
    unfold World.cell?
    rw [Below.heap_setCell w3 _ u k (by rw [e0]; exact hk)]
  exact ⟨e1, e2, x3, x1, fun u => ⟨(hset u g 0 (Ne.symm hag)).trans e1, fun i => (hset u gx i (Ne.symm hxa)).trans (e2 i)⟩⟩
theorem mid_data (h : RDm b W1 col g d v L) (ha : LAt b W1 col g v d.fs.length ad c) (hp : L[q]? = some p) (hb : Below W1.heap.size W1 w3) {v3 : Value} {xs : List Int} (ho : w3.ownsRow W1.heap.size 5 1 v3 xs.length (nums .u8 xs)) :
    ∃ col4 L4, RDm b (w3.setCell ⟨(ad.add (q * 3)).block, (ad.add (q * 3)).off + 1, none⟩ v3) col4 g { d with fs := d.fs.set q { p.1 with f1 := xs } } v L4 ∧ L4[q]? = some ({ p.1 with f1 := xs }, v3) ∧
      LAt b (w3.setCell ⟨(ad.add (q * 3)).block, (ad.add (q * 3)).off + 1, none⟩ v3) col4 g v d.fs.length ad c ∧ Ch b W1 col (w3.setCell ⟨(ad.add (q * 3)).block, (ad.add (q * 3)).off + 1, none⟩ v3) col4 isR := by
  have hbW : b ≤ W1.heap.size := Nat.le_trans h.le (Nat.le_of_lt (blk_lt h.blk))
  have hc3 : Ch b W1 col w3 (colN col W1.heap.size fun _ => .rb) (fun _ => False) := Ch.of_new hb hbW _
  have hR3 := h.ch hc3 (fun _ _ h => h)
  have ha3 : LAt b w3 (colN col W1.heap.size fun _ => .rb) g v d.fs.length ad c := ha.go hb.size (colN_lt ha.lt)
  have hn := BRow.fresh ho hbW col (fun _ => .rb) .rb (fun _ _ => rfl)
  obtain ⟨h4, hc4⟩ := hR3.data ha3 hp hn
  have hql : q < L.length := (List.getElem?_eq_some_iff.1 hp).1
  exact ⟨_, _, h4, by rw [List.getElem?_set_self hql], ha3.go hc4.size rfl, (hc3.mono fun _ h => h.elim).trans (hc4.mono fun r h => h ▸ trivial)⟩
end
set_option maxRecDepth 100000 in
set_option maxHeartbeats 4000000 in
theorem rtrim (b g : Nat) (d : Dk) (v : Value) (L : List (Fl × Value)) (col : RCol) (nm : ByteArray) (z : Int) (hz0 : -9223372036854775808 ≤ z) (hz1 : z ≤ 9223372036854775807) (w : World) (hR : RDm b w col g d v L) (hd : d.Ok) (hs : nm.size ≤ 140737488355328) :
    Calls Try.prog 20 #[.pointer (some ⟨g, 0, none⟩), .string nm, .int .i64 z] w fun e w' => e = .returned (.int .i64 (d.chg nm).1) ∧ RPost b w col g (d.doF nm (trimF z)) w' := by
  have hch := changes_calls b g d v L col nm w hR hd hs
  have hpost : ∀ w2, w.grownBy w2 (some g) → RB w2 g v (d.chg nm).2.down (d.chg nm).2.units (d.chg nm).2.after (d.chg nm).2.calls → (d.chg nm).1 ≠ 0 → RPost b w col g (d.doF nm (trimF z)) w2 := fun w2 h1 h2 h3 => by
    unfold Dk.doF
    rw [if_neg h3]
    exact hR.post h1 h2 (chg_fs d nm)
  rcases chg_lit d nm with h0 | h0 | h0 | h0 | h0
  · have ht := chg_there h0
    have hq := (there_get ht).1
    obtain ⟨p, hp, hpe⟩ := hR.found ht
    obtain ⟨ad, c, ha⟩ := hR.at hq
    have hvl := ha.v
    have hnc := ha.le
    subst hvl
    have HC := Aside0.mk hch
    rw [h0, if_pos rfl] at HC
    have hfs := chg_fs d nm
    have hnone := fun w2 h1 h2 => hR.turn (w' := w2) h1 h2 hfs
    have hlist : ∀ w2, w.grownBy w2 (some g) → RB w2 g (.slice (some ad) d.fs.length c) (d.chg nm).2.down (d.chg nm).2.units (d.chg nm).2.after (d.chg nm).2.calls → LAt b w2 col g (.slice (some ad) d.fs.length c) (d.chg nm).2.fs.length ad c := fun w2 h1 h2 => by
      rw [hfs]; exact ⟨rfl, ha.le, ha.eq, ha.tag, ha.base, Nat.lt_of_lt_of_le ha.lt h1.size⟩
    have k1 : (place d.fs nm : Int) < (d.fs.length : Int) := by omega
    have k2 : (0 : Int) ≤ (place d.fs nm : Int) := by omega
    obtain ⟨Ab, cb, hbv, hbc, hbr, hbl⟩ := (hR.list.rows p (List.mem_of_getElem? hp)).reads
    obtain ⟨hsz, hs0, hs1⟩ := hd.size p.1 (by rw [hpe]; exact there_mem ht)
    have hdo : ∀ (m : Nat), (max z 0).toNat = m → d.doF nm (trimF z) = { (d.chg nm).2 with fs := d.fs.set (place d.fs nm) { p.1 with f1 := p.1.f1.take m, f2 := min p.1.f2 (p.1.f1.take m).length } } := fun m hm => by
      unfold Dk.doF setF
      rw [if_pos h0, ← hpe]
      unfold trimF
      rw [hm]
    have hch0 := fun w2 h1 => hR.ch_of (w' := w2) h1
    have HDo := Aside0.mk hdo
    have HTn := Aside0.mk hnone
    have HLa := Aside0.mk hlist
    have HCh := Aside0.mk hch0
    have HPp := Aside0.mk hp
    have HBC := Aside0.mk hbc
    have HS0 := Aside0.mk hs0
    have HS1 := Aside0.mk hs1
    have HSZ := Aside0.mk hsz
    have HFs := Aside0.mk hfs
    clear hch hpost hR hd hs ha hp hpe ht hq hnc hbr hbl hbc hs0 hs1 hsz hdo hnone hlist hch0 hfs
    rw [h0]
    generalize place d.fs nm = q at *
    by_cases hz : z < 0
    · have kz : decide (z < 0) = true := decide_eq_true hz
      have HMX : Aside0 ((max z 0).toNat = 0) := ⟨by omega⟩
      by_cases hzl : 0 < p.1.f1.length
      · have kl : decide ((0 : Int) < (p.1.f1.length : Int)) = true := decide_eq_true (by omega)
        have HML : Aside0 (0 < p.1.f1.length) := ⟨hzl⟩
        go_enter Try.func20, Try.ntmps20
        go_wp2_with (go_at_call 69; refine HC.out.mono ?_; rintro e w2 ⟨rfl, hg, hB⟩; have HG := Aside0.mk hg; have HB := Aside0.mk hB; have HR2 := Aside0.mk (HTn.out w2 hg hB); have HA2 := Aside0.mk (HLa.out w2 hg hB); have c0 : World.cell? w2 ⟨g, 0, none⟩ = some (.slice (some ad) d.fs.length c) := (blk_cell hB 0).trans rfl; obtain ⟨x0, x1, x2, x3, x4⟩ := HR2.out.cells HA2.out HPp.out; rw [hbv] at x1; clear hg hB)
        obtain ⟨W1, hW1⟩ : ∃ W1, W1 = w2.alloc (.cells #[.string p.1.f0, .slice Ab p.1.f1.length cb, .int .i64 p.1.f2] 74) := ⟨_, rfl⟩
        rw [← hW1]
        obtain ⟨HR3, HA3, y0, y1, y2, c0', hN⟩ := trim_box HR2.out HA2.out hW1
        clear hW1 x0 x1 x2 x3 x4 c0
        have hag : ad.block ≠ g := fun e => by have := HA3.out.tag; rw [e, HR3.out.1.tag] at this; cases this
        have hxa : ad.block ≠ w2.heap.size := fun e => by have := HA2.out.lt; omega
        obtain ⟨ys, hys⟩ : ∃ ys, ys = p.1.f1.take 0 := ⟨_, rfl⟩
        have hyl : ys.length = 0 := by have := HML.out; rw [hys, List.length_take]; omega
        have HCP : Aside0 (Calls Try.prog 36 #[.slice Ab 0 cb] W1.drew fun e w' => NewB W1.drew w' e ys) := ⟨by
          have hrd := (HR3.out.1.list.rows p (List.mem_of_getElem? HPp.out)).reads
          obtain ⟨Ab', cb', e1, _, hr, _⟩ := hrd
          rw [hbv] at e1
          injection e1 with e1
          subst e1
          have := copied_calls Ab cb ys W1.drew (by have := HSZ.out; have := HML.out; omega) (by rw [hys]; exact reads_take hr 0 (Nat.le_of_lt HML.out))
          rwa [hyl] at this⟩
        have HK : Aside0 (∀ w3, Below W1.drew.heap.size W1.drew w3 → _) := ⟨fun w3 hb => mid_cells HR3.out.1 HA3.out HPp.out (((Drawn0.refl W1).step 1).below.trans hb) (by omega) hxa hag⟩
        have HM : Aside0 (∀ w3, Below W1.drew.heap.size W1.drew w3 → ∀ v3 : Value, _ → _) := ⟨fun w3 hb v3 ho => mid_data (xs := ys) (v3 := v3) HR3.out.1 HA3.out HPp.out (((Drawn0.refl W1).step 1).below.trans hb) ho⟩
        have HY1 := Aside0.mk y1
        have HY2 := Aside0.mk y2
        have HYS := Aside0.mk hys
        have HYL := Aside0.mk hyl
        clear hag hxa hys hyl
        go_region_held3 (fun w' => w'.cell? ⟨g, 0, none⟩ = some (.slice (some ad) d.fs.length c) ∧ w'.cell? ⟨w2.heap.size, 1, none⟩ = some (.slice Ab p.1.f1.length cb)) (first | go_keep | exact ⟨s1, (s2 1).trans HY1.out⟩ | exact ⟨(s5 _).1, ((s5 _).2 1).trans HY1.out⟩)
          (first | (go_at_call 36; refine Calls.mono HCP.out ?_; rintro e w3 ⟨v3, rfl, ho, hb⟩; obtain ⟨s1, s2, s3, s4, s5⟩ := HK.out w3 hb; obtain ⟨A3, C3, rfl, _⟩ := own_form ho; have HO3 := Aside0.mk (HM.out w3 hb _ ho); have HS := Aside0.mk s5; clear ho hb))
        have HS6 := Aside0.mk (((HS.out (.slice A3 ys.length C3)).2 2).trans HY2.out)
        obtain ⟨col4, L4, hR4, hp4, ha4, hc4⟩ := HO3.out
        have ha4' : LAt b (w3.setCell ⟨(ad.add (q * 3)).block, (ad.add (q * 3)).off + 1, none⟩ (.slice A3 ys.length C3)) col4 g (.slice (some ad) d.fs.length c) (((d.chg nm).2.fs.set q { p.1 with f1 := ys }).length) ad c := by rw [List.length_set]; exact ha4
        obtain ⟨z0, z1, z2, z3, z4⟩ := hR4.cells ha4' hp4
        have hg4 := (blk_cell hR4.blk 0).trans rfl
        have HR4 := Aside0.mk hR4
        have HP4 := Aside0.mk hp4
        have HA4 := Aside0.mk ha4'
        have HC4 := Aside0.mk hc4
        have z6 := HS6.out
        clear hR4 hp4 ha4 ha4' hc4 s1 s2 s3 s4 s5 HS HO3 HM HK y0 y1 y2 c0' HS6
        generalize (w3.setCell ⟨(ad.add (q * 3)).block, (ad.add (q * 3)).off + 1, none⟩ (.slice A3 ys.length C3)) = W4 at *
        go_wp2
        go_region
        go_wp2
        go_ret
        have hD := HDo.out 0 HMX.out
        rw [← HYS.out] at hD
        have hE := HR4.out.sync HA4.out HP4.out (min p.1.f2 ys.length)
        exact ⟨rfl, (rp_mk ((((HCh.out w2 HG.out).trans HR3.out.2).trans HC4.out).trans (hE.2.mono fun r h => h ▸ trivial)) hE.1 (by rw [hD]; simp only [List.set_set, HFs.out])).drew⟩
      · have kl : decide ((0 : Int) < (p.1.f1.length : Int)) = false := decide_eq_false (by omega)
        have HML : Aside0 (p.1.f1.length ≤ 0) := ⟨by omega⟩
        go_enter Try.func20, Try.ntmps20
        go_wp2_with (go_at_call 69; refine HC.out.mono ?_; rintro e w2 ⟨rfl, hg, hB⟩; have HG := Aside0.mk hg; have HB := Aside0.mk hB; have HR2 := Aside0.mk (HTn.out w2 hg hB); have HA2 := Aside0.mk (HLa.out w2 hg hB); have c0 : World.cell? w2 ⟨g, 0, none⟩ = some (.slice (some ad) d.fs.length c) := (blk_cell hB 0).trans rfl; obtain ⟨x0, x1, x2, x3, x4⟩ := HR2.out.cells HA2.out HPp.out; rw [hbv] at x1; clear hg hB)
        obtain ⟨W1, hW1⟩ : ∃ W1, W1 = w2.alloc (.cells #[.string p.1.f0, .slice Ab p.1.f1.length cb, .int .i64 p.1.f2] 74) := ⟨_, rfl⟩
        rw [← hW1]
        obtain ⟨HR3, HA3, y0, y1, y2, c0', hN⟩ := trim_box HR2.out HA2.out hW1
        clear hW1 x0 x1 x2 x3 x4 c0
        clear c0'
        obtain ⟨z0, z1, z2, z3, z4⟩ := HR3.out.1.cells HA3.out HPp.out
        rw [hbv] at z1
        have hg4 : W1.cell? ⟨g, 0, none⟩ = some (.slice (some ad) d.fs.length c) := (blk_cell HR3.out.1.blk 0).trans rfl
        go_wp2
        go_region
        go_wp2
        go_ret
        have hD := HDo.out 0 HMX.out
        rw [List.take_of_length_le HML.out] at hD
        have hE := HR3.out.1.sync HA3.out HPp.out (min p.1.f2 p.1.f1.length)
        exact ⟨rfl, (rp_mk (((HCh.out w2 HG.out).trans HR3.out.2).trans (hE.2.mono fun r h => h ▸ trivial)) hE.1 (by rw [hD]; simp only [HFs.out])).drew⟩
    · obtain ⟨m, rfl⟩ : ∃ m : Nat, z = m := ⟨z.toNat, by omega⟩
      have kz : decide ((m : Int) < 0) = false := decide_eq_false hz
      have kz0 : (0 : Int) ≤ (m : Int) := by omega
      have HMX : Aside0 ((max (m : Int) 0).toNat = m) := ⟨by omega⟩
      clear hz
      by_cases hzl : m < p.1.f1.length
      · have kl : (m : Int) < (p.1.f1.length : Int) := by omega
        have kl2 : (m : Int) ≤ (cb : Int) := by have := HBC.out; omega
        have HML : Aside0 (m < p.1.f1.length) := ⟨hzl⟩
        go_enter Try.func20, Try.ntmps20
        go_wp2_with (go_at_call 69; refine HC.out.mono ?_; rintro e w2 ⟨rfl, hg, hB⟩; have HG := Aside0.mk hg; have HB := Aside0.mk hB; have HR2 := Aside0.mk (HTn.out w2 hg hB); have HA2 := Aside0.mk (HLa.out w2 hg hB); have c0 : World.cell? w2 ⟨g, 0, none⟩ = some (.slice (some ad) d.fs.length c) := (blk_cell hB 0).trans rfl; obtain ⟨x0, x1, x2, x3, x4⟩ := HR2.out.cells HA2.out HPp.out; rw [hbv] at x1; clear hg hB)
        obtain ⟨W1, hW1⟩ : ∃ W1, W1 = w2.alloc (.cells #[.string p.1.f0, .slice Ab p.1.f1.length cb, .int .i64 p.1.f2] 74) := ⟨_, rfl⟩
        rw [← hW1]
        obtain ⟨HR3, HA3, y0, y1, y2, c0', hN⟩ := trim_box HR2.out HA2.out hW1
        clear hW1 x0 x1 x2 x3 x4 c0
        have hag : ad.block ≠ g := fun e => by have := HA3.out.tag; rw [e, HR3.out.1.tag] at this; cases this
        have hxa : ad.block ≠ w2.heap.size := fun e => by have := HA2.out.lt; omega
        obtain ⟨ys, hys⟩ : ∃ ys, ys = p.1.f1.take m := ⟨_, rfl⟩
        have hyl : ys.length = m := by have := HML.out; rw [hys, List.length_take]; omega
        have HCP : Aside0 (Calls Try.prog 36 #[.slice Ab m cb] W1.drew fun e w' => NewB W1.drew w' e ys) := ⟨by
          have hrd := (HR3.out.1.list.rows p (List.mem_of_getElem? HPp.out)).reads
          obtain ⟨Ab', cb', e1, _, hr, _⟩ := hrd
          rw [hbv] at e1
          injection e1 with e1
          subst e1
          have := copied_calls Ab cb ys W1.drew (by have := HSZ.out; have := HML.out; omega) (by rw [hys]; exact reads_take hr m (Nat.le_of_lt HML.out))
          rwa [hyl] at this⟩
        have HK : Aside0 (∀ w3, Below W1.drew.heap.size W1.drew w3 → _) := ⟨fun w3 hb => mid_cells HR3.out.1 HA3.out HPp.out (((Drawn0.refl W1).step 1).below.trans hb) (by omega) hxa hag⟩
        have HM : Aside0 (∀ w3, Below W1.drew.heap.size W1.drew w3 → ∀ v3 : Value, _ → _) := ⟨fun w3 hb v3 ho => mid_data (xs := ys) (v3 := v3) HR3.out.1 HA3.out HPp.out (((Drawn0.refl W1).step 1).below.trans hb) ho⟩
        have HY1 := Aside0.mk y1
        have HY2 := Aside0.mk y2
        have HYS := Aside0.mk hys
        have HYL := Aside0.mk hyl
        clear hag hxa hys hyl
        go_region_held3 (fun w' => w'.cell? ⟨g, 0, none⟩ = some (.slice (some ad) d.fs.length c) ∧ w'.cell? ⟨w2.heap.size, 1, none⟩ = some (.slice Ab p.1.f1.length cb)) (first | go_keep | exact ⟨s1, (s2 1).trans HY1.out⟩ | exact ⟨(s5 _).1, ((s5 _).2 1).trans HY1.out⟩)
          (first | (go_at_call 36; refine Calls.mono HCP.out ?_; rintro e w3 ⟨v3, rfl, ho, hb⟩; obtain ⟨s1, s2, s3, s4, s5⟩ := HK.out w3 hb; obtain ⟨A3, C3, rfl, _⟩ := own_form ho; have HO3 := Aside0.mk (HM.out w3 hb _ ho); have HS := Aside0.mk s5; clear ho hb))
        have HS6 := Aside0.mk (((HS.out (.slice A3 ys.length C3)).2 2).trans HY2.out)
        obtain ⟨col4, L4, hR4, hp4, ha4, hc4⟩ := HO3.out
        have ha4' : LAt b (w3.setCell ⟨(ad.add (q * 3)).block, (ad.add (q * 3)).off + 1, none⟩ (.slice A3 ys.length C3)) col4 g (.slice (some ad) d.fs.length c) (((d.chg nm).2.fs.set q { p.1 with f1 := ys }).length) ad c := by rw [List.length_set]; exact ha4
        obtain ⟨z0, z1, z2, z3, z4⟩ := hR4.cells ha4' hp4
        have hg4 := (blk_cell hR4.blk 0).trans rfl
        have HR4 := Aside0.mk hR4
        have HP4 := Aside0.mk hp4
        have HA4 := Aside0.mk ha4'
        have HC4 := Aside0.mk hc4
        have z6 := HS6.out
        clear hR4 hp4 ha4 ha4' hc4 s1 s2 s3 s4 s5 HS HO3 HM HK y0 y1 y2 c0' HS6
        generalize (w3.setCell ⟨(ad.add (q * 3)).block, (ad.add (q * 3)).off + 1, none⟩ (.slice A3 ys.length C3)) = W4 at *
        go_wp2
        go_region
        go_wp2
        go_ret
        have hD := HDo.out m HMX.out
        rw [← HYS.out] at hD
        have hE := HR4.out.sync HA4.out HP4.out (min p.1.f2 ys.length)
        exact ⟨rfl, (rp_mk ((((HCh.out w2 HG.out).trans HR3.out.2).trans HC4.out).trans (hE.2.mono fun r h => h ▸ trivial)) hE.1 (by rw [hD]; simp only [List.set_set, HFs.out])).drew⟩
      · have kl : decide ((m : Int) < (p.1.f1.length : Int)) = false := decide_eq_false (by omega)
        have kl' : decide (m < p.1.f1.length) = false := decide_eq_false (by omega)
        have HML : Aside0 (p.1.f1.length ≤ m) := ⟨by omega⟩
        go_enter Try.func20, Try.ntmps20
        go_wp2_with (go_at_call 69; refine HC.out.mono ?_; rintro e w2 ⟨rfl, hg, hB⟩; have HG := Aside0.mk hg; have HB := Aside0.mk hB; have HR2 := Aside0.mk (HTn.out w2 hg hB); have HA2 := Aside0.mk (HLa.out w2 hg hB); have c0 : World.cell? w2 ⟨g, 0, none⟩ = some (.slice (some ad) d.fs.length c) := (blk_cell hB 0).trans rfl; obtain ⟨x0, x1, x2, x3, x4⟩ := HR2.out.cells HA2.out HPp.out; rw [hbv] at x1; clear hg hB)
        obtain ⟨W1, hW1⟩ : ∃ W1, W1 = w2.alloc (.cells #[.string p.1.f0, .slice Ab p.1.f1.length cb, .int .i64 p.1.f2] 74) := ⟨_, rfl⟩
        rw [← hW1]
        obtain ⟨HR3, HA3, y0, y1, y2, c0', hN⟩ := trim_box HR2.out HA2.out hW1
        clear hW1 x0 x1 x2 x3 x4 c0
        clear c0'
        obtain ⟨z0, z1, z2, z3, z4⟩ := HR3.out.1.cells HA3.out HPp.out
        rw [hbv] at z1
        have hg4 : W1.cell? ⟨g, 0, none⟩ = some (.slice (some ad) d.fs.length c) := (blk_cell HR3.out.1.blk 0).trans rfl
        go_wp2
        go_region
        go_wp2
        go_ret
        have hD := HDo.out m HMX.out
        rw [List.take_of_length_le HML.out] at hD
        have hE := HR3.out.1.sync HA3.out HPp.out (min p.1.f2 p.1.f1.length)
        exact ⟨rfl, (rp_mk (((HCh.out w2 HG.out).trans HR3.out.2).trans (hE.2.mono fun r h => h ▸ trivial)) hE.1 (by rw [hD]; simp only [HFs.out])).drew⟩
  all_goals
    rw [h0]
    have HC := Aside0.mk hch
    have HP : Aside0 (∀ w2, w.grownBy w2 (some g) → RB w2 g v (d.chg nm).2.down (d.chg nm).2.units (d.chg nm).2.after (d.chg nm).2.calls → RPost b w col g (d.doF nm (trimF z)) w2) := ⟨fun w2 h1 h2 => hpost w2 h1 h2 (by rw [h0]; omega)⟩
    rw [h0, if_neg (by omega)] at HC
    clear hch hpost hR hd hs
    go_enter Try.func20, Try.ntmps20
    go_wp2_with (go_at_call 69; refine HC.out.mono ?_; rintro e w2 ⟨rfl, hg, hB⟩; have HG := Aside0.mk hg; have HB := Aside0.mk hB; clear hg hB)
    go_ret
    exact ⟨rfl, HP.out _ HG.out HB.out⟩
section
variable {P : Program} {ops : Array Oper} {o : Oper} {a : Act} {K : Act → World → Prop} {Q : Exit → Act → World → Prop} {E : Prop}
theorem reads_news {W : World} {A : Option Addr} {m : Nat} {ys : List Int} (h : ReadsInt W .u8 A m ys) : (A = none → m = 0) ∧ ∀ ad, A = some ad → ∀ j u, (nums .u8 ys)[j]? = some u → W.cell? (ad.add j) = some u := by
  refine ⟨fun e => ?_, fun ad e j u hu => ?_⟩
  · rcases Nat.eq_zero_or_pos m with h0 | h0
    · exact h0
    · obtain ⟨ad, h1, _⟩ := h.2.2 h0
      rw [e] at h1; cases h1
  · have hj : j < ys.length := by
      rcases Nat.lt_or_ge j ys.length with h1 | h1
      · exact h1
      · simp [nums, List.getElem?_eq_none h1] at hu
    obtain ⟨ad', h', hc⟩ := h.2.2 (by have := h.1; omega)
    rw [e] at h'
    injection h' with h'
    subst h'
    have := hc j (by have := h.1; omega)
    simp [nums, List.getElem?_eq_getElem hj] at hu
    subst hu
    rw [this]
    simp [List.getD_eq_getElem?_getD, List.getElem?_eq_getElem hj]
theorem step_append_row {W : World} (hgd : o.guard = none) (s x : Operand) (t e : TypeId)
    (ho : o.op = .call { callee := .builtin .append, args := #[s, x], argTypes := #[t, t] })
    (ht : P.underlying t = some (.slice e)) (hinfo : (P.info? e).map (fun i => (i.zero, i.size, i.bytes)) = some (some (.int .u8 0), 1, 1)) (base : Nat)
    (v : Value) (xs ys : List Int) (A : Option Addr) (m c : Nat) (hs : a.eval s = v) (hx : a.eval x = .slice A m c)
    (HO : W.ownsRow base e 1 v xs.length (nums .u8 xs)) (HR : ReadsInt W .u8 A m ys) (hbase : base ≤ W.heap.size) (hl : xs.length + m ≤ 140737488355328)
    (h : ∀ v1 w1, w1.ownsRow base e 1 v1 (xs ++ ys).length (nums .u8 (xs ++ ys)) → W.grownBy w1 v.ownBlock → (v1.ownBlock = v.ownBlock ∨ v1.ownBlock = some W.heap.size) → K (a.put o.dst v1) w1) :
    if Region.wanted o (yielded ops a.tmps) = true then Oper.wp P o a W K Q else E := by
  have hw : Region.wanted o (yielded ops a.tmps) = true := by simp [Region.wanted, hgd]
  rw [if_pos hw]
  obtain ⟨i0, hi, hzz⟩ := Option.map_eq_some_iff.1 hinfo
  simp only [Prod.mk.injEq] at hzz
  obtain ⟨hz0, hz1, hz2⟩ := hzz
  have hm : ys.length = m := HR.1
  obtain ⟨h0, hnews⟩ := reads_news HR
  have hrun : ∃ v1 w1, (Builtin.append_ #[t, t] o.type #[v, .slice A m c]).run P W = .ok v1 w1 ∧ w1.ownsRow base e 1 v1 (xs ++ ys).length (nums .u8 (xs ++ ys)) ∧ W.grownBy w1 v.ownBlock ∧ (v1.ownBlock = v.ownBlock ∨ v1.ownBlock = some W.heap.size) := by
    rcases A with _ | ad
    · obtain rfl := h0 rfl
      obtain rfl : ys = [] := List.eq_nil_of_length_eq_zero hm
      refine ⟨v, W, ?_, by simpa using HO, World.grownBy.refl W _, .inl rfl⟩
      rcases HO.2 with ⟨rfl, hn⟩ | ⟨g, cap, cur, rfl, _, _, hnc, _⟩
      · simp [Builtin.append_, run_underlying ht, sizeOf, typeInfo, hi, Builtin.lenOf, Builtin.firstCells, loadCells, loadCellsFrom]
      · simp [Builtin.append_, run_underlying ht, sizeOf, typeInfo, hi, Builtin.lenOf, Builtin.firstCells, hnc, storeCells, loadCells, loadCellsFrom]
    · obtain ⟨v1, w1, hr, h2, h3, _, h5⟩ := run_append_own_at (P := P) W base t o.type e i0 (.int .u8 0) 1 1 ht hi hz0 hz1 hz2 rfl (by omega) v xs.length (nums .u8 xs) HO ad m c (nums .u8 ys) (by simp [nums, hm]) (hnews ad rfl)
        (by intro u hu; simp only [nums, List.mem_map] at hu; obtain ⟨q, _, rfl⟩ := hu; rfl) (by simp only [maxLen]; omega) (by omega) hbase
      exact ⟨v1, w1, hr, by simpa [nums, hm] using h2, h3, h5⟩
  obtain ⟨v1, w1, hr, hown, hg, hat⟩ := hrun
  unfold Oper.wp execOp
  simp only [ho, resolve, invoke, builtin, Sem.run_bind, Sem.run_pure, Result.andThen_ok, List.map_toArray, List.map_cons, List.map_nil, hs, hx, hr]
  exact h v1 w1 hown hg hat
end
structure XRow (W : World) (col : RCol) (S : Role → Prop) (A : Option Addr) (xs : List Int) : Prop where
  rd : ReadsInt W .u8 A xs.length xs
  lt : 0 < xs.length → ∀ a, A = some a → a.block < W.heap.size ∧ ¬ S (col a.block)
theorem reads_move {W W' : World} {A : Option Addr} {xs : List Int} (h : ReadsInt W .u8 A xs.length xs) (hb : 0 < xs.length → ∀ a, A = some a → W'.heap[a.block]? = W.heap[a.block]?) : ReadsInt W' .u8 A xs.length xs := by
  obtain ⟨h1, h2, h3⟩ := h
  refine ⟨h1, h2, fun h0 => ?_⟩
  obtain ⟨ad, e, hc⟩ := h3 h0
  refine ⟨ad, e, fun j hj => ?_⟩
  have e1 : (ad.add j).block = ad.block := by unfold Addr.add; split <;> rfl
  rw [← hc j hj]
  unfold World.cell?
  rw [e1, hb h0 ad e]
theorem XRow.ch {b : Nat} {W W' : World} {col col' : RCol} {S S' : Role → Prop} {A : Option Addr} {xs : List Int} (h : XRow W col S A xs) (m : Ch b W col W' col' S') (hS : ∀ r, S' r → S r) : XRow W' col' S A xs :=
  ⟨reads_move h.rd fun h0 a ha => m.block _ (h.lt h0 a ha).1 (fun hs => (h.lt h0 a ha).2 (hS _ hs)), fun h0 a ha => ⟨Nat.lt_of_lt_of_le (h.lt h0 a ha).1 m.size, by rw [m.same _ (h.lt h0 a ha).1]; exact (h.lt h0 a ha).2⟩⟩
def Dk.sz (d : Dk) (nm : ByteArray) : Nat := if there d.fs nm = true then (getF d.fs nm).f1.length else 0
def Dk.full (d : Dk) (nm : ByteArray) (n : Nat) : Prop := 2097152 < d.sz nm + n ∨ (there d.fs nm = false ∧ 40 ≤ d.fs.length)
instance (d : Dk) (nm : ByteArray) (n : Nat) : Decidable (d.full nm n) := by unfold Dk.full; exact inferInstance
def Dk.have (d : Dk) (nm : ByteArray) : List Fl := if there d.fs nm = true then d.fs else addF d.fs { f0 := nm, f1 := [], f2 := 0 }
def layF (xs : List Int) (f : Fl) : Fl := { f with f1 := f.f1 ++ xs }
def Dk.app (d : Dk) (nm : ByteArray) (xs : List Int) : Int × Dk :=
  if (d.fst nm).1 ≠ 0 then d.fst nm else if d.full nm xs.length then (194, (d.fst nm).2)
  else if ((d.fst nm).2.pay (xs.length + 1)).1 = true then (0, { ((d.fst nm).2.pay (xs.length + 1)).2.2 with fs := setF (d.have nm) nm (layF xs (getF (d.have nm) nm)) })
  else (190, { ((d.fst nm).2.pay (xs.length + 1)).2.2 with fs := setF (d.have nm) nm (layF (xs.take d.units.toNat) (getF (d.have nm) nm)) })
theorem app_err {d : Dk} {nm : ByteArray} {xs : List Int} {e : Int} (h1 : (firstS (Nm nm) d.down d.after d.calls).1 = e) (h2 : e ≠ 0) : d.app nm xs = (e, (d.fst nm).2) := by
  unfold Dk.app
  rw [if_pos (show (d.fst nm).1 ≠ 0 by show (firstS (Nm nm) d.down d.after d.calls).1 ≠ 0; rw [h1]; exact h2)]
  exact Prod.ext h1 rfl
theorem app_full {d : Dk} {nm : ByteArray} {xs : List Int} (h1 : (firstS (Nm nm) d.down d.after d.calls).1 = 0) (h2 : d.full nm xs.length) : d.app nm xs = (194, (d.fst nm).2) := by
  unfold Dk.app
  rw [if_neg (show ¬ (d.fst nm).1 ≠ 0 by show ¬ (firstS (Nm nm) d.down d.after d.calls).1 ≠ 0; rw [h1]; simp), if_pos h2]
theorem app_done {d : Dk} {nm : ByteArray} {xs : List Int} (h1 : (firstS (Nm nm) d.down d.after d.calls).1 = 0) (h2 : ¬ d.full nm xs.length) (h3 : ((d.fst nm).2.pay (xs.length + 1)).1 = true) :
    d.app nm xs = (0, { ((d.fst nm).2.pay (xs.length + 1)).2.2 with fs := setF (d.have nm) nm (layF xs (getF (d.have nm) nm)) }) := by
  unfold Dk.app
  rw [if_neg (show ¬ (d.fst nm).1 ≠ 0 by show ¬ (firstS (Nm nm) d.down d.after d.calls).1 ≠ 0; rw [h1]; simp), if_neg h2, if_pos h3]
theorem app_fell {d : Dk} {nm : ByteArray} {xs : List Int} (h1 : (firstS (Nm nm) d.down d.after d.calls).1 = 0) (h2 : ¬ d.full nm xs.length) (h3 : ((d.fst nm).2.pay (xs.length + 1)).1 = false) :
    d.app nm xs = (190, { ((d.fst nm).2.pay (xs.length + 1)).2.2 with fs := setF (d.have nm) nm (layF (xs.take d.units.toNat) (getF (d.have nm) nm)) }) := by
  unfold Dk.app
  rw [if_neg (show ¬ (d.fst nm).1 ≠ 0 by show ¬ (firstS (Nm nm) d.down d.after d.calls).1 ≠ 0; rw [h1]; simp), if_neg h2, if_neg (by rw [h3]; simp)]
theorem pay_fell {d : Dk} {cost : Int} (h : (d.pay cost).1 = false) : ∃ k : Nat, d.units = k ∧ (d.pay cost).2.1 = k ∧ (k : Int) < cost := by
  unfold Dk.pay at h ⊢
  split at h
  · cases h
  rename_i h1
  rw [if_neg h1]
  split at h
  · cases h
  rename_i h2
  rw [if_neg h2]
  exact ⟨d.units.toNat, by omega, by show d.units = _; omega, by omega⟩
theorem have_there (d : Dk) (nm : ByteArray) : there (d.have nm) nm = true := by
  unfold Dk.have
  split
  · assumption
  · exact (there_add d.fs { f0 := nm, f1 := [], f2 := 0 }).1
theorem have_len (d : Dk) (nm : ByteArray) : (getF (d.have nm) nm).f1.length = d.sz nm := by
  unfold Dk.have Dk.sz
  split
  · rfl
  · rw [(there_add d.fs { f0 := nm, f1 := [], f2 := 0 }).2]; rfl
theorem app_added {b g : Nat} {w3 w4 : World} {col : RCol} {d d3 : Dk} {nm : ByteArray} (h : RPost b w3 col g { d3 with fs := addF d3.fs { f0 := nm, f1 := [], f2 := 0 } } w4) (e : d3.fs = d.fs) (ht : there d.fs nm = false) (hfew : d.fs.length ≤ 40) :
    ∃ col4 L4 ad c4 p Ab cb q, Ch b w3 col w4 col4 isR ∧ RDm b w4 col4 g { d3 with fs := d.have nm } (.slice (some ad) (d.have nm).length c4) L4 ∧ LAt b w4 col4 g (.slice (some ad) (d.have nm).length c4) (d.have nm).length ad c4 ∧ L4[q]? = some p ∧ p.1 = getF (d.have nm) nm ∧ p.1.f1 = [] ∧
      p.2 = .slice Ab p.1.f1.length cb ∧ q = place (d.have nm) nm ∧ q < (d.have nm).length ∧
      Calls Try.prog 38 #[.pointer (some ⟨g, 0, none⟩), .string nm] w4 fun e w' => e = .returned (.tuple #[.int .i64 q, .bool true]) ∧ Drawn0 w4 w' := by
  have hh : d.have nm = addF d.fs { f0 := nm, f1 := [], f2 := 0 } := by unfold Dk.have; rw [if_neg (by rw [ht]; simp)]
  rw [e, ← hh] at h
  obtain ⟨col4, hc4, v4, L4, hR4⟩ := h
  have hth := have_there d nm
  have hq := (there_get hth).1
  obtain ⟨p, hp, hpe⟩ := hR4.found hth
  obtain ⟨ad, c4, ha⟩ := hR4.at (q := place (d.have nm) nm) hq
  have hv := ha.v
  subst hv
  obtain ⟨Ab, cb, hbv, _⟩ := (hR4.list.rows p (List.mem_of_getElem? hp)).reads
  have hl : (d.have nm).length ≤ 100 := by rw [hh, addF_len]; omega
  have hpl := hR4.placed hl nm
  refine ⟨col4, L4, ad, c4, p, Ab, cb, _, hc4, hR4, ha, hp, hpe, ?_, hbv, rfl, hq, ?_⟩
  · rw [hpe, hh]
    exact congrArg (·.f1) (there_add d.fs { f0 := nm, f1 := [], f2 := 0 }).2
  · refine hpl.mono ?_
    rintro e w' ⟨rfl, hd⟩
    exact ⟨by rw [hth], hd⟩
set_option maxRecDepth 100000 in
set_option maxHeartbeats 8000000 in
theorem rappend (b g : Nat) (d : Dk) (v : Value) (L : List (Fl × Value)) (col : RCol) (nm : ByteArray) (DA : Option Addr) (dc : Nat) (xs : List Int) (w : World) (hR : RDm b w col g d v L) (hd : d.Ok) (hs : nm.size ≤ 140737488355328)
    (hX : XRow w col isR DA xs) (hdc : xs.length ≤ dc) (hxl : xs.length ≤ 140737488355328) :
    Calls Try.prog 16 #[.pointer (some ⟨g, 0, none⟩), .string nm, .slice DA xs.length dc] w fun e w' => e = .returned (.int .i64 (d.app nm xs).1) ∧ RPost b w col g (d.app nm xs).2 w' := by
  have hl : d.fs.length ≤ 100 := Nat.le_trans hd.few (by omega)
  have hfirst := rfirst g v d.down d.units d.after d.calls nm hs hd.a1 hd.c1 w hR.blk
  have hlit := firstS_lit (Nm nm) d.down d.after d.calls
  have hturn : ∀ w1, w.grownBy w1 (some g) → RB w1 g v (d.fst nm).2.down (d.fst nm).2.units (d.fst nm).2.after (d.fst nm).2.calls → RDm b w1 col g (d.fst nm).2 v L := fun w1 h1 h2 => hR.turn (d' := (d.fst nm).2) h1 h2 rfl
  have hplace : ∀ w1, w.grownBy w1 (some g) → RB w1 g v (d.fst nm).2.down (d.fst nm).2.units (d.fst nm).2.after (d.fst nm).2.calls → Calls Try.prog 38 #[.pointer (some ⟨g, 0, none⟩), .string nm] w1 fun e w' => e = .returned (.tuple #[.int .i64 (place d.fs nm), .bool (there d.fs nm)]) ∧ Drawn0 w1 w' := fun w1 h1 h2 => (hturn w1 h1 h2).placed hl nm
  have hpay : ∀ w1, RB w1 g v (d.fst nm).2.down (d.fst nm).2.units (d.fst nm).2.after (d.fst nm).2.calls → _ := fun w1 h => rpays g v (d.fst nm).2 (xs.length + 1) (by omega) (hd.fst nm) w1 h
  have hpost : ∀ w1, w.grownBy w1 (some g) → RB w1 g v (d.fst nm).2.down (d.fst nm).2.units (d.fst nm).2.after (d.fst nm).2.calls → RPost b w col g (d.fst nm).2 w1 := fun w1 h1 h2 => hR.post h1 h2 rfl
  have HF := Aside0.mk hfirst
  have HL := Aside0.mk hplace
  have HTu := Aside0.mk hturn
  have HPay := Aside0.mk hpay
  have HPo := Aside0.mk hpost
  have HX := Aside0.mk hX
  have hR0 := Aside0.mk hR
  have hd0 := Aside0.mk hd
  have hs0 := Aside0.mk hs
  have hkx := Aside0.mk (show wrap64 ((xs.length : Int) + 1) = (xs.length : Int) + 1 from PA.wr (by omega) (by omega))
  clear hfirst hplace hturn hpay hpost hX
  rcases hlit with h0 | h0 | h0 | h0
  · by_cases hf : d.full nm xs.length
    · rw [app_full h0 hf]
      cases ht : there d.fs nm
      · by_cases hbig : 2097152 < xs.length
        · have b1 : decide (2097152 < (xs.length : Int)) = true := decide_eq_true (by omega)
          have b2 : (2097152 : Int) < (xs.length : Int) := by omega
          have kz : wrap64 (0 + (xs.length : Int)) = (xs.length : Int) := by rw [Int.zero_add]; exact PA.wr (by omega) (by omega)
          clear hR hd hs hf hl
          go_enter Try.func16, Try.ntmps16
          go_wp2_with (first | (go_at_call 65; refine HF.out.mono ?_; rintro e w1 ⟨rfl, hg, hB⟩; rw [h0]; have HG1 := Aside0.mk hg; have HB1 := Aside0.mk hB; clear hg hB) | (go_at_call 38; refine (HL.out _ HG1.out HB1.out).mono ?_; rintro e w2 ⟨rfl, hb⟩; have hR2 := HTu.out w2 (gb_drawn HG1.out hb) (blk_drawn HB1.out hb); have HG := Aside0.mk (gb_drawn HG1.out hb); have c0 : World.cell? w2 ⟨g, 0, none⟩ = some v := (blk_cell hR2.blk 0).trans rfl;  have HR2 := Aside0.mk hR2; clear hb hR2; rw [ht]))
          go_ret
          exact ⟨rfl, RPost.go (hR0.out.post HG.out HR2.out.blk rfl) (by first | exact Below.refl _ _ | exact ((Drawn0.refl _).step 1).below)⟩
        · have hfew : 40 ≤ d.fs.length := by
            unfold Dk.full Dk.sz at hf
            rw [ht] at hf
            simp only [Bool.false_eq_true, if_false, Nat.zero_add, true_and] at hf
            rcases hf with h | h
            · exact absurd h hbig
            · exact h
          have b1 : ¬ (2097152 : Int) < (xs.length : Int) := by omega
          have b3 : (40 : Int) ≤ (d.fs.length : Int) := by omega
          have b4 : decide (2097152 < (xs.length : Int)) = false := decide_eq_false b1
          have b5 : decide (2097152 < xs.length) = false := decide_eq_false hbig
          have kz : wrap64 (0 + (xs.length : Int)) = (xs.length : Int) := by rw [Int.zero_add]; exact PA.wr (by omega) (by omega)
          obtain ⟨A, c, rfl, hnc, _⟩ := hR.list.reads
          clear hR hd hs hf hl hbig hnc
          go_enter Try.func16, Try.ntmps16
          go_wp2_with (first | (go_at_call 65; refine HF.out.mono ?_; rintro e w1 ⟨rfl, hg, hB⟩; rw [h0]; have HG1 := Aside0.mk hg; have HB1 := Aside0.mk hB; clear hg hB) | (go_at_call 38; refine (HL.out _ HG1.out HB1.out).mono ?_; rintro e w2 ⟨rfl, hb⟩; have hR2 := HTu.out w2 (gb_drawn HG1.out hb) (blk_drawn HB1.out hb); have HG := Aside0.mk (gb_drawn HG1.out hb); have c0 : World.cell? w2 ⟨g, 0, none⟩ = some (.slice A d.fs.length c) := (blk_cell hR2.blk 0).trans rfl;  have HR2 := Aside0.mk hR2; clear hb hR2; rw [ht]))
          go_ret
          exact ⟨rfl, RPost.go (hR0.out.post HG.out HR2.out.blk rfl) (by first | exact Below.refl _ _ | exact ((Drawn0.refl _).step 1).below)⟩
      · have hq := (there_get ht).1
        obtain ⟨p, hp, hpe⟩ := hR.found ht
        obtain ⟨ad, c, ha⟩ := hR.at hq
        have hvl := ha.v
        have hnc := ha.le
        subst hvl
        obtain ⟨Ab, cb, hbv, hbc, hbr, hbl⟩ := (hR.list.rows p (List.mem_of_getElem? hp)).reads
        have hsz := (hd.size p.1 (by rw [hpe]; exact there_mem ht)).1
        have hszp : d.sz nm = p.1.f1.length := by unfold Dk.sz; rw [if_pos ht, ← hpe]
        have HLa : Aside0 (∀ w2 n, w.heap.size ≤ w2.heap.size → n = d.fs.length → LAt b w2 col g (.slice (some ad) d.fs.length c) n ad c) := ⟨fun w2 n h1 h2 => h2 ▸ ha.go h1 rfl⟩
        have HPp := Aside0.mk hp
        have HPe := Aside0.mk hpe
        have HSZ := Aside0.mk hsz
        have hszn := hsz
        have k1 : (place d.fs nm : Int) < (d.fs.length : Int) := by omega
        have k2 : (0 : Int) ≤ (place d.fs nm : Int) := by omega
        have hbig : 2097152 < p.1.f1.length + xs.length := by
          unfold Dk.full at hf
          rw [hszp, ht] at hf
          rcases hf with h | h
          · exact h
          · cases h.1
        have b1 : decide (2097152 < (p.1.f1.length : Int) + (xs.length : Int)) = true := decide_eq_true (by omega)
        have b2 : (2097152 : Int) < (p.1.f1.length : Int) + (xs.length : Int) := by omega
        have kz : wrap64 ((p.1.f1.length : Int) + (xs.length : Int)) = (p.1.f1.length : Int) + (xs.length : Int) := PA.wr (by omega) (by omega)
        clear hR hd hs hf hl hp hpe ha hq hbc hbr hbl hszp hnc hsz hszn hbig
        go_enter Try.func16, Try.ntmps16
        go_wp2_with (first | (go_at_call 65; refine HF.out.mono ?_; rintro e w1 ⟨rfl, hg, hB⟩; rw [h0]; have HG1 := Aside0.mk hg; have HB1 := Aside0.mk hB; clear hg hB) | (go_at_call 38; refine (HL.out _ HG1.out HB1.out).mono ?_; rintro e w2 ⟨rfl, hb⟩; have hR2 := HTu.out w2 (gb_drawn HG1.out hb) (blk_drawn HB1.out hb); have HG := Aside0.mk (gb_drawn HG1.out hb); have c0 : World.cell? w2 ⟨g, 0, none⟩ = some (.slice (some ad) d.fs.length c) := (blk_cell hR2.blk 0).trans rfl; have hA2 := HLa.out w2 _ HG.out.size rfl; obtain ⟨x0, x1, x2, x3, x4⟩ := hR2.cells hA2 HPp.out; rw [hbv] at x1; clear hA2; have HR2 := Aside0.mk hR2; clear hb hR2; rw [ht]))
        go_ret
        exact ⟨rfl, RPost.go (hR0.out.post HG.out HR2.out.blk rfl) (by first | exact Below.refl _ _ | exact ((Drawn0.refl _).step 1).below)⟩
    · cases ht : there d.fs nm
      · obtain ⟨A, c, rfl, hnc, hrk⟩ := hR.list.reads
        have hfew : d.fs.length < 40 := by
          unfold Dk.full at hf
          exact Nat.lt_of_not_le (fun h => hf (.inr ⟨ht, h⟩))
        have hbig : xs.length ≤ 2097152 := by
          unfold Dk.full Dk.sz at hf
          rw [ht] at hf
          simp only [Bool.false_eq_true, if_false, Nat.zero_add] at hf
          have := fun h => hf (.inl h)
          omega
        have hlit2 : d.fs.length ≤ 40 := by omega
        have HFew := Aside0.mk hlit2
        have HBX := Aside0.mk hbig
        have HT := Aside0.mk ht
        obtain ⟨T, hT⟩ : ∃ T : Int, T = (xs.length : Int) := ⟨_, rfl⟩
        have b1 : decide (2097152 < T) = false := decide_eq_false (by omega)
        have b6 : decide ((40 : Int) ≤ (d.fs.length : Int)) = false := decide_eq_false (by omega)
        have b7 : decide (40 ≤ d.fs.length) = false := decide_eq_false (by omega)
        have b2 : ¬ (2097152 : Int) < (xs.length : Int) := by omega
        have b4 : decide (2097152 < (xs.length : Int)) = false := decide_eq_false b2
        have b5 : decide (2097152 < xs.length) = false := decide_eq_false (by omega)
        clear hlit2
        cases hpy : ((d.fst nm).2.pay (xs.length + 1)).1
        · rw [app_fell h0 hf hpy]
          obtain ⟨k, hk1, hk2, hk3⟩ := pay_fell hpy
          have hk4 : d.units.toNat = k := by have : d.units = k := hk1; omega
          have hk5 : k ≤ xs.length := by omega
          have k5 : (0 : Int) ≤ (k : Int) := by omega
          have k6 : (k : Int) ≤ (dc : Int) := by omega
          have HYL : Aside0 ((xs.take k).length = k) := ⟨by rw [List.length_take]; omega⟩
          have HK5 := Aside0.mk hk5
          rw [hk4]
          clear hk1 hk3
          have kz : wrap64 (0 + (xs.length : Int)) = (xs.length : Int) := by rw [Int.zero_add]; exact PA.wr (by omega) (by omega)
          clear hR hd hs hf hl hnc hrk hfew hbig
          go_enter Try.func16, Try.ntmps16
          go_wp2_with (first | (go_at_call 65; refine HF.out.mono ?_; rintro e w1 ⟨rfl, hg, hB⟩; rw [h0]; have HG1 := Aside0.mk hg; have HB1 := Aside0.mk hB; clear hg hB) | (go_at_call 38; refine (HL.out _ HG1.out HB1.out).mono ?_; rintro e w2 ⟨rfl, hb⟩; have hR2 := HTu.out w2 (gb_drawn HG1.out hb) (blk_drawn HB1.out hb); have HG := Aside0.mk (gb_drawn HG1.out hb); have c0 : World.cell? w2 ⟨g, 0, none⟩ = some (.slice A d.fs.length c) := (blk_cell hR2.blk 0).trans rfl;  have HR2 := Aside0.mk hR2; clear hb hR2; rw [ht]) | (go_at_call 66; refine (HPay.out _ HR2.out.blk).mono ?_; rintro e w3 ⟨rfl, hg, hB⟩; rw [hpy]; rw [hk2];  have hR3 := HR2.out.turn (d' := ((d.fst nm).2.pay (xs.length + 1)).2.2) hg hB (pay_fs _ _); have HG3 := Aside0.mk (HG.out.trans hg); have hX3 := HX.out.ch (hR0.out.ch_of HG3.out) (fun _ h => h);  have HR3 := Aside0.mk hR3; have HX3 := Aside0.mk hX3; clear hg hB hR3 hX3) | (go_at_call 39; go_loud (refine (add_calls b g ((d.fst nm).2.pay (xs.length + 1)).2.2 (.slice A d.fs.length c) L col { f0 := nm, f1 := [], f2 := 0 } (.slice none 0 0) w3 HR3.out (BRow.nil _ _ _ _) (by rw [pay_fs]; exact Nat.le_trans HFew.out (by omega))).mono ?_; rintro e w4 ⟨rfl, hpst⟩; obtain ⟨col4, L4, ad, c4, p, Ab, cb, q, hc4, hR4, hA4, hp4, hpe4, hpn, hbv, hq4, hql, hpl4⟩ := app_added (d := d) hpst (pay_fs _ _) HT.out HFew.out; have HPl := Aside0.mk hpl4; have HPp := Aside0.mk hp4; have HPe := Aside0.mk hpe4; have HPn := Aside0.mk hpn; have HQ := Aside0.mk hq4; have HR4 := Aside0.mk hR4; have HA4 := Aside0.mk hA4; have HC4 := Aside0.mk ((hR0.out.ch_of HG3.out).trans hc4); have k1 : (q : Int) < ((d.have nm).length : Int) := (Int.ofNat_lt.2 hql); have k2 : (0 : Int) ≤ (q : Int) := Int.natCast_nonneg q; clear hpst hc4 hR4 hA4 hp4 hpe4 hpn hq4 hql hpl4)) | (go_at_call 38; refine HPl.out.mono ?_; rintro e w5 ⟨rfl, hb⟩; have hc5 : Ch b w4 col4 w5 col4 isR := Ch.of_below hb.below (Nat.le_trans HR4.out.le (Nat.le_of_lt (blk_lt HR4.out.blk))); have hR5 := HR4.out.ch (S := fun _ => False) (Ch.of_below hb.below hc5.le) (fun _ _ h => h); have hA5 := HA4.out.go hb.below.size rfl; obtain ⟨y0, y1, y2, y3, y4⟩ := hR5.cells hA5 HPp.out; rw [hbv] at y1; have c5 : World.cell? w5 ⟨g, 0, none⟩ = some (.slice (some ad) (d.have nm).length c4) := (blk_cell hR5.blk 0).trans rfl; have hag : ad.block ≠ g := (fun e => by (have := hA5.tag; rw [e, hR5.tag] at this; cases this)); have HAG := Aside0.mk hag; have HA5 := Aside0.mk hA5; have HR5 := Aside0.mk hR5; have HC5 := Aside0.mk (HC4.out.trans hc5); have HX5 := Aside0.mk (HX.out.ch HC5.out (fun _ h => h)); clear hb hc5 hR5 hA5 hag) | (go_at_call 36; refine (copied_calls Ab cb p.1.f1 w5 (by rw [HPn.out]; decide) (by (obtain ⟨Ab', cb', e1, _, hr, _⟩ := (HR5.out.list.rows p (List.mem_of_getElem? HPp.out)).reads; rw [hbv] at e1; injection e1 with e1; subst e1; exact hr))).mono ?_; rintro e w6 ⟨v6, rfl, ho, hb⟩; obtain ⟨A6, C6, rfl, _⟩ := own_form ho; obtain ⟨s1, _, s3, s4, _⟩ := mid_cells HR5.out HA5.out HPp.out hb (blk_lt HR5.out.blk) HAG.out HAG.out; have HO6 := Aside0.mk ho; have HB6 := Aside0.mk hb; clear ho hb))
          have HX6 := Aside0.mk (HX5.out.ch (Ch.of_below (b := b) (col := col4) (S := isR) (HB6.out) (Nat.le_trans HR5.out.le (Nat.le_of_lt (blk_lt HR5.out.blk)))) (fun _ h => h))
          obtain ⟨zs, hzs⟩ : ∃ zs, zs = p.1.f1 ++ (xs.take k) := ⟨_, rfl⟩
          have HZS := Aside0.mk hzs
          clear hzs
          have HRD : Aside0 (ReadsInt w6.drew .u8 DA k (xs.take k)) := ⟨(by have := reads_take HX6.out.rd k HK5.out; rwa [HYL.out] at this)⟩
          have HLL : Aside0 (p.1.f1.length + k ≤ 140737488355328) := ⟨by have := HBX.out; have := congrArg List.length HPn.out; simp only [List.length_nil] at this; have := HK5.out; omega⟩
          have HGr : Aside0 (∀ w7, w6.drew.grownBy w7 (Value.slice A6 p.1.f1.length C6).ownBlock → Below w5.heap.size w5 w7) := ⟨fun w7 h => (HB6.out.trans (((Drawn0.refl w6).step 1).below.mono HB6.out.size)).grown h HB6.out.size (own_base HO6.out)⟩
          go_region_held3 (fun w' => w'.cell? ⟨g, 0, none⟩ = some (.slice (some ad) (d.have nm).length c4)) (first | go_keep | exact s1 | exact t1 | exact (t5 _).1)
            (first | (refine step_append_row rfl (.tmp 90) (.tmp 93) 34 5 rfl Try.underlying34 infoB w5.heap.size (.slice A6 p.1.f1.length C6) p.1.f1 (xs.take k) DA k dc rfl rfl HO6.out HRD.out HB6.out.size HLL.out ?_; intro v7 w7 ho7 hg7 _; rw [← HZS.out] at ho7; obtain ⟨A7, C7, rfl, _⟩ := own_form ho7; have hb7 := HGr.out w7 hg7; obtain ⟨t1, _, t3, t4, t5⟩ := mid_cells HR5.out HA5.out HPp.out hb7 (blk_lt HR5.out.blk) HAG.out HAG.out; have HO7 := Aside0.mk ho7; have HB7 := Aside0.mk hb7; clear ho7 hb7 hg7))
          go_wp2
          go_ret
          obtain ⟨col8, L8, hR8, hp8, ha8, hc8⟩ := mid_data (xs := zs) HR5.out HA5.out HPp.out HB7.out HO7.out
          exact ⟨rfl, rp_mk (HC5.out.trans hc8) hR8 (by rw [HZS.out]; unfold setF layF; rw [← HPe.out, ← HQ.out])⟩
        · rw [app_done h0 hf hpy]
          have k5 : (0 : Int) ≤ (xs.length : Int) := by omega
          have k6 : (xs.length : Int) ≤ (dc : Int) := by omega
          have kz : wrap64 (0 + (xs.length : Int)) = (xs.length : Int) := by rw [Int.zero_add]; exact PA.wr (by omega) (by omega)
          clear hR hd hs hf hl hnc hrk hfew hbig
          go_enter Try.func16, Try.ntmps16
          go_wp2_with (first | (go_at_call 65; refine HF.out.mono ?_; rintro e w1 ⟨rfl, hg, hB⟩; rw [h0]; have HG1 := Aside0.mk hg; have HB1 := Aside0.mk hB; clear hg hB) | (go_at_call 38; refine (HL.out _ HG1.out HB1.out).mono ?_; rintro e w2 ⟨rfl, hb⟩; have hR2 := HTu.out w2 (gb_drawn HG1.out hb) (blk_drawn HB1.out hb); have HG := Aside0.mk (gb_drawn HG1.out hb); have c0 : World.cell? w2 ⟨g, 0, none⟩ = some (.slice A d.fs.length c) := (blk_cell hR2.blk 0).trans rfl;  have HR2 := Aside0.mk hR2; clear hb hR2; rw [ht]) | (go_at_call 66; refine (HPay.out _ HR2.out.blk).mono ?_; rintro e w3 ⟨rfl, hg, hB⟩; rw [hpy];  have hR3 := HR2.out.turn (d' := ((d.fst nm).2.pay (xs.length + 1)).2.2) hg hB (pay_fs _ _); have HG3 := Aside0.mk (HG.out.trans hg); have hX3 := HX.out.ch (hR0.out.ch_of HG3.out) (fun _ h => h);  have HR3 := Aside0.mk hR3; have HX3 := Aside0.mk hX3; clear hg hB hR3 hX3) | (go_at_call 39; go_loud (refine (add_calls b g ((d.fst nm).2.pay (xs.length + 1)).2.2 (.slice A d.fs.length c) L col { f0 := nm, f1 := [], f2 := 0 } (.slice none 0 0) w3 HR3.out (BRow.nil _ _ _ _) (by rw [pay_fs]; exact Nat.le_trans HFew.out (by omega))).mono ?_; rintro e w4 ⟨rfl, hpst⟩; obtain ⟨col4, L4, ad, c4, p, Ab, cb, q, hc4, hR4, hA4, hp4, hpe4, hpn, hbv, hq4, hql, hpl4⟩ := app_added (d := d) hpst (pay_fs _ _) HT.out HFew.out; have HPl := Aside0.mk hpl4; have HPp := Aside0.mk hp4; have HPe := Aside0.mk hpe4; have HPn := Aside0.mk hpn; have HQ := Aside0.mk hq4; have HR4 := Aside0.mk hR4; have HA4 := Aside0.mk hA4; have HC4 := Aside0.mk ((hR0.out.ch_of HG3.out).trans hc4); have k1 : (q : Int) < ((d.have nm).length : Int) := (Int.ofNat_lt.2 hql); have k2 : (0 : Int) ≤ (q : Int) := Int.natCast_nonneg q; clear hpst hc4 hR4 hA4 hp4 hpe4 hpn hq4 hql hpl4)) | (go_at_call 38; refine HPl.out.mono ?_; rintro e w5 ⟨rfl, hb⟩; have hc5 : Ch b w4 col4 w5 col4 isR := Ch.of_below hb.below (Nat.le_trans HR4.out.le (Nat.le_of_lt (blk_lt HR4.out.blk))); have hR5 := HR4.out.ch (S := fun _ => False) (Ch.of_below hb.below hc5.le) (fun _ _ h => h); have hA5 := HA4.out.go hb.below.size rfl; obtain ⟨y0, y1, y2, y3, y4⟩ := hR5.cells hA5 HPp.out; rw [hbv] at y1; have c5 : World.cell? w5 ⟨g, 0, none⟩ = some (.slice (some ad) (d.have nm).length c4) := (blk_cell hR5.blk 0).trans rfl; have hag : ad.block ≠ g := (fun e => by (have := hA5.tag; rw [e, hR5.tag] at this; cases this)); have HAG := Aside0.mk hag; have HA5 := Aside0.mk hA5; have HR5 := Aside0.mk hR5; have HC5 := Aside0.mk (HC4.out.trans hc5); have HX5 := Aside0.mk (HX.out.ch HC5.out (fun _ h => h)); clear hb hc5 hR5 hA5 hag) | (go_at_call 36; refine (copied_calls Ab cb p.1.f1 w5 (by rw [HPn.out]; decide) (by (obtain ⟨Ab', cb', e1, _, hr, _⟩ := (HR5.out.list.rows p (List.mem_of_getElem? HPp.out)).reads; rw [hbv] at e1; injection e1 with e1; subst e1; exact hr))).mono ?_; rintro e w6 ⟨v6, rfl, ho, hb⟩; obtain ⟨A6, C6, rfl, _⟩ := own_form ho; obtain ⟨s1, _, s3, s4, _⟩ := mid_cells HR5.out HA5.out HPp.out hb (blk_lt HR5.out.blk) HAG.out HAG.out; have HO6 := Aside0.mk ho; have HB6 := Aside0.mk hb; clear ho hb))
          have HX6 := Aside0.mk (HX5.out.ch (Ch.of_below (b := b) (col := col4) (S := isR) (HB6.out) (Nat.le_trans HR5.out.le (Nat.le_of_lt (blk_lt HR5.out.blk)))) (fun _ h => h))
          obtain ⟨zs, hzs⟩ : ∃ zs, zs = p.1.f1 ++ xs := ⟨_, rfl⟩
          have HZS := Aside0.mk hzs
          clear hzs
          have HRD : Aside0 (ReadsInt w6.drew .u8 DA xs.length xs) := ⟨HX6.out.rd⟩
          have HLL : Aside0 (p.1.f1.length + xs.length ≤ 140737488355328) := ⟨by have := HBX.out; have := congrArg List.length HPn.out; simp only [List.length_nil] at this; omega⟩
          have HGr : Aside0 (∀ w7, w6.drew.grownBy w7 (Value.slice A6 p.1.f1.length C6).ownBlock → Below w5.heap.size w5 w7) := ⟨fun w7 h => (HB6.out.trans (((Drawn0.refl w6).step 1).below.mono HB6.out.size)).grown h HB6.out.size (own_base HO6.out)⟩
          go_region_held3 (fun w' => w'.cell? ⟨g, 0, none⟩ = some (.slice (some ad) (d.have nm).length c4)) (first | go_keep | exact s1 | exact t1 | exact (t5 _).1)
            (first | (refine step_append_row rfl (.tmp 90) (.tmp 93) 34 5 rfl Try.underlying34 infoB w5.heap.size (.slice A6 p.1.f1.length C6) p.1.f1 xs DA xs.length dc rfl rfl HO6.out HRD.out HB6.out.size HLL.out ?_; intro v7 w7 ho7 hg7 _; rw [← HZS.out] at ho7; obtain ⟨A7, C7, rfl, _⟩ := own_form ho7; have hb7 := HGr.out w7 hg7; obtain ⟨t1, _, t3, t4, t5⟩ := mid_cells HR5.out HA5.out HPp.out hb7 (blk_lt HR5.out.blk) HAG.out HAG.out; have HO7 := Aside0.mk ho7; have HB7 := Aside0.mk hb7; clear ho7 hb7 hg7))
          go_wp2
          go_ret
          obtain ⟨col8, L8, hR8, hp8, ha8, hc8⟩ := mid_data (xs := zs) HR5.out HA5.out HPp.out HB7.out HO7.out
          exact ⟨rfl, rp_mk (HC5.out.trans hc8) hR8 (by rw [HZS.out]; unfold setF layF; rw [← HPe.out, ← HQ.out])⟩
      · have hq := (there_get ht).1
        obtain ⟨p, hp, hpe⟩ := hR.found ht
        obtain ⟨ad, c, ha⟩ := hR.at hq
        have hvl := ha.v
        have hnc := ha.le
        subst hvl
        obtain ⟨Ab, cb, hbv, hbc, hbr, hbl⟩ := (hR.list.rows p (List.mem_of_getElem? hp)).reads
        have hsz := (hd.size p.1 (by rw [hpe]; exact there_mem ht)).1
        have hszp : d.sz nm = p.1.f1.length := by unfold Dk.sz; rw [if_pos ht, ← hpe]
        have HLa : Aside0 (∀ w2 n, w.heap.size ≤ w2.heap.size → n = d.fs.length → LAt b w2 col g (.slice (some ad) d.fs.length c) n ad c) := ⟨fun w2 n h1 h2 => h2 ▸ ha.go h1 rfl⟩
        have HPp := Aside0.mk hp
        have HPe := Aside0.mk hpe
        have HSZ := Aside0.mk hsz
        have hszn := hsz
        have k1 : (place d.fs nm : Int) < (d.fs.length : Int) := by omega
        have k2 : (0 : Int) ≤ (place d.fs nm : Int) := by omega
        have hbig : p.1.f1.length + xs.length ≤ 2097152 := by
          unfold Dk.full at hf
          rw [hszp] at hf
          have := fun h => hf (.inl h)
          omega
        obtain ⟨T, hT⟩ : ∃ T : Int, T = (p.1.f1.length : Int) + (xs.length : Int) := ⟨_, rfl⟩
        have b1 : decide (2097152 < T) = false := decide_eq_false (by omega)
        have hdo : d.have nm = d.fs := by unfold Dk.have; rw [if_pos ht]
        have HBig := Aside0.mk hbig
        have HDo := Aside0.mk hdo
        have hRb : ∀ w3 d3, RDm b w3 col g d3 (.slice (some ad) d.fs.length c) L → ReadsInt w3 .u8 Ab p.1.f1.length p.1.f1 := fun w3 d3 h => by
          obtain ⟨Ab', cb', e1, _, hr, _⟩ := (h.list.rows p (List.mem_of_getElem? hp)).reads
          rw [hbv] at e1
          injection e1 with e1
          subst e1
          exact hr
        have HRb := Aside0.mk hRb
        cases hpy : ((d.fst nm).2.pay (xs.length + 1)).1
        · rw [app_fell h0 hf hpy]
          obtain ⟨k, hk1, hk2, hk3⟩ := pay_fell hpy
          have hk4 : d.units.toNat = k := by have : d.units = k := hk1; omega
          have hk5 : k ≤ xs.length := by omega
          have k5 : (0 : Int) ≤ (k : Int) := by omega
          have k6 : (k : Int) ≤ (dc : Int) := by omega
          have HYL : Aside0 ((xs.take k).length = k) := ⟨by rw [List.length_take]; omega⟩
          have HK5 := Aside0.mk hk5
          rw [hk4]
          have kz : wrap64 ((p.1.f1.length : Int) + (xs.length : Int)) = T := (PA.wr (by omega) (by omega)).trans hT.symm
          clear hT
          clear hR hd hs hf hl hp hpe ha hq hbr hbl hszp hnc hsz hszn hbig hdo hRb hk1 hk3 hk4 hk5
          go_enter Try.func16, Try.ntmps16
          go_wp2_with (first | (go_at_call 65; refine HF.out.mono ?_; rintro e w1 ⟨rfl, hg, hB⟩; rw [h0]; have HG1 := Aside0.mk hg; have HB1 := Aside0.mk hB; clear hg hB) | (go_at_call 38; refine (HL.out _ HG1.out HB1.out).mono ?_; rintro e w2 ⟨rfl, hb⟩; have hR2 := HTu.out w2 (gb_drawn HG1.out hb) (blk_drawn HB1.out hb); have HG := Aside0.mk (gb_drawn HG1.out hb); have c0 : World.cell? w2 ⟨g, 0, none⟩ = some (.slice (some ad) d.fs.length c) := (blk_cell hR2.blk 0).trans rfl; have hA2 := HLa.out w2 _ HG.out.size rfl; obtain ⟨x0, x1, x2, x3, x4⟩ := hR2.cells hA2 HPp.out; rw [hbv] at x1; clear hA2; have HR2 := Aside0.mk hR2; clear hb hR2; rw [ht]) | (go_at_call 66; go_loud (refine (HPay.out _ HR2.out.blk).mono ?_; rintro e w3 ⟨rfl, hg, hB⟩; rw [hpy]; rw [hk2];  have hR3 := HR2.out.turn (d' := ((d.fst nm).2.pay (xs.length + 1)).2.2) hg hB (pay_fs _ _); have HG3 := Aside0.mk (HG.out.trans hg); have hX3 := HX.out.ch (hR0.out.ch_of HG3.out) (fun _ h => h); have hA3 := HLa.out w3 _ HG3.out.size (congrArg List.length (pay_fs (d.fst nm).2 (xs.length + 1))); obtain ⟨y0, y1, y2, y3, y4⟩ := hR3.cells hA3 HPp.out; rw [hbv] at y1; have c3 : World.cell? w3 ⟨g, 0, none⟩ = some (.slice (some ad) d.fs.length c) := (blk_cell hR3.blk 0).trans rfl; have hag : ad.block ≠ g := (fun e => by (have := hA3.tag; rw [e, hR3.tag] at this; cases this)); have HAG := Aside0.mk hag; have HA3 := Aside0.mk hA3; clear hA3 hag; have HR3 := Aside0.mk hR3; have HX3 := Aside0.mk hX3; clear hg hB hR3 hX3)) | (go_at_call 36; refine (copied_calls Ab cb p.1.f1 w3 (by have := HSZ.out; omega) (HRb.out w3 _ HR3.out)).mono ?_; rintro e w6 ⟨v6, rfl, ho, hb⟩; obtain ⟨A6, C6, rfl, _⟩ := own_form ho; obtain ⟨s1, _, s3, s4, _⟩ := mid_cells HR3.out HA3.out HPp.out hb (blk_lt HR3.out.blk) HAG.out HAG.out; have HO6 := Aside0.mk ho; have HB6 := Aside0.mk hb; clear ho hb))
          have HX6 := Aside0.mk (HX3.out.ch (Ch.of_below (b := b) (col := col) (S := isR) (HB6.out) (Nat.le_trans HR3.out.le (Nat.le_of_lt (blk_lt HR3.out.blk)))) (fun _ h => h))
          obtain ⟨zs, hzs⟩ : ∃ zs, zs = p.1.f1 ++ (xs.take k) := ⟨_, rfl⟩
          have HZS := Aside0.mk hzs
          clear hzs
          have HRD : Aside0 (ReadsInt w6.drew .u8 DA k (xs.take k)) := ⟨(by have := reads_take HX6.out.rd k HK5.out; rwa [HYL.out] at this)⟩
          have HLL : Aside0 (p.1.f1.length + k ≤ 140737488355328) := ⟨by have := HBig.out; have := HK5.out; omega⟩
          have HGr : Aside0 (∀ w7, w6.drew.grownBy w7 (Value.slice A6 p.1.f1.length C6).ownBlock → Below w3.heap.size w3 w7) := ⟨fun w7 h => (HB6.out.trans (((Drawn0.refl w6).step 1).below.mono HB6.out.size)).grown h HB6.out.size (own_base HO6.out)⟩
          go_region_held3 (fun w' => w'.cell? ⟨g, 0, none⟩ = some (.slice (some ad) d.fs.length c)) (first | go_keep | exact s1 | exact t1 | exact (t5 _).1)
            (first | (refine step_append_row rfl (.tmp 90) (.tmp 93) 34 5 rfl Try.underlying34 infoB w3.heap.size (.slice A6 p.1.f1.length C6) p.1.f1 (xs.take k) DA k dc rfl rfl HO6.out HRD.out HB6.out.size HLL.out ?_; intro v7 w7 ho7 hg7 _; rw [← HZS.out] at ho7; obtain ⟨A7, C7, rfl, _⟩ := own_form ho7; have hb7 := HGr.out w7 hg7; obtain ⟨t1, _, t3, t4, t5⟩ := mid_cells HR3.out HA3.out HPp.out hb7 (blk_lt HR3.out.blk) HAG.out HAG.out; have HO7 := Aside0.mk ho7; have HB7 := Aside0.mk hb7; clear ho7 hb7 hg7))
          go_wp2
          go_ret
          obtain ⟨col8, L8, hR8, hp8, ha8, hc8⟩ := mid_data (xs := zs) HR3.out HA3.out HPp.out HB7.out HO7.out
          exact ⟨rfl, rp_mk ((hR0.out.ch_of HG3.out).trans hc8) hR8 (by rw [HDo.out, HZS.out]; unfold setF layF; rw [← HPe.out, pay_fs]; try rfl)⟩
        · rw [app_done h0 hf hpy]
          have k5 : (0 : Int) ≤ (xs.length : Int) := by omega
          have k6 : (xs.length : Int) ≤ (dc : Int) := by omega
          have kz : wrap64 ((p.1.f1.length : Int) + (xs.length : Int)) = T := (PA.wr (by omega) (by omega)).trans hT.symm
          clear hT
          clear hR hd hs hf hl hp hpe ha hq hbr hbl hszp hnc hsz hszn hbig hdo hRb
          go_enter Try.func16, Try.ntmps16
          go_wp2_with (first | (go_at_call 65; refine HF.out.mono ?_; rintro e w1 ⟨rfl, hg, hB⟩; rw [h0]; have HG1 := Aside0.mk hg; have HB1 := Aside0.mk hB; clear hg hB) | (go_at_call 38; refine (HL.out _ HG1.out HB1.out).mono ?_; rintro e w2 ⟨rfl, hb⟩; have hR2 := HTu.out w2 (gb_drawn HG1.out hb) (blk_drawn HB1.out hb); have HG := Aside0.mk (gb_drawn HG1.out hb); have c0 : World.cell? w2 ⟨g, 0, none⟩ = some (.slice (some ad) d.fs.length c) := (blk_cell hR2.blk 0).trans rfl; have hA2 := HLa.out w2 _ HG.out.size rfl; obtain ⟨x0, x1, x2, x3, x4⟩ := hR2.cells hA2 HPp.out; rw [hbv] at x1; clear hA2; have HR2 := Aside0.mk hR2; clear hb hR2; rw [ht]) | (go_at_call 66; go_loud (refine (HPay.out _ HR2.out.blk).mono ?_; rintro e w3 ⟨rfl, hg, hB⟩; rw [hpy];  have hR3 := HR2.out.turn (d' := ((d.fst nm).2.pay (xs.length + 1)).2.2) hg hB (pay_fs _ _); have HG3 := Aside0.mk (HG.out.trans hg); have hX3 := HX.out.ch (hR0.out.ch_of HG3.out) (fun _ h => h); have hA3 := HLa.out w3 _ HG3.out.size (congrArg List.length (pay_fs (d.fst nm).2 (xs.length + 1))); obtain ⟨y0, y1, y2, y3, y4⟩ := hR3.cells hA3 HPp.out; rw [hbv] at y1; have c3 : World.cell? w3 ⟨g, 0, none⟩ = some (.slice (some ad) d.fs.length c) := (blk_cell hR3.blk 0).trans rfl; have hag : ad.block ≠ g := (fun e => by (have := hA3.tag; rw [e, hR3.tag] at this; cases this)); have HAG := Aside0.mk hag; have HA3 := Aside0.mk hA3; clear hA3 hag; have HR3 := Aside0.mk hR3; have HX3 := Aside0.mk hX3; clear hg hB hR3 hX3)) | (go_at_call 36; refine (copied_calls Ab cb p.1.f1 w3 (by have := HSZ.out; omega) (HRb.out w3 _ HR3.out)).mono ?_; rintro e w6 ⟨v6, rfl, ho, hb⟩; obtain ⟨A6, C6, rfl, _⟩ := own_form ho; obtain ⟨s1, _, s3, s4, _⟩ := mid_cells HR3.out HA3.out HPp.out hb (blk_lt HR3.out.blk) HAG.out HAG.out; have HO6 := Aside0.mk ho; have HB6 := Aside0.mk hb; clear ho hb))
          have HX6 := Aside0.mk (HX3.out.ch (Ch.of_below (b := b) (col := col) (S := isR) (HB6.out) (Nat.le_trans HR3.out.le (Nat.le_of_lt (blk_lt HR3.out.blk)))) (fun _ h => h))
          obtain ⟨zs, hzs⟩ : ∃ zs, zs = p.1.f1 ++ xs := ⟨_, rfl⟩
          have HZS := Aside0.mk hzs
          clear hzs
          have HRD : Aside0 (ReadsInt w6.drew .u8 DA xs.length xs) := ⟨HX6.out.rd⟩
          have HLL : Aside0 (p.1.f1.length + xs.length ≤ 140737488355328) := ⟨by have := HBig.out; omega⟩
          have HGr : Aside0 (∀ w7, w6.drew.grownBy w7 (Value.slice A6 p.1.f1.length C6).ownBlock → Below w3.heap.size w3 w7) := ⟨fun w7 h => (HB6.out.trans (((Drawn0.refl w6).step 1).below.mono HB6.out.size)).grown h HB6.out.size (own_base HO6.out)⟩
          go_region_held3 (fun w' => w'.cell? ⟨g, 0, none⟩ = some (.slice (some ad) d.fs.length c)) (first | go_keep | exact s1 | exact t1 | exact (t5 _).1)
            (first | (refine step_append_row rfl (.tmp 90) (.tmp 93) 34 5 rfl Try.underlying34 infoB w3.heap.size (.slice A6 p.1.f1.length C6) p.1.f1 xs DA xs.length dc rfl rfl HO6.out HRD.out HB6.out.size HLL.out ?_; intro v7 w7 ho7 hg7 _; rw [← HZS.out] at ho7; obtain ⟨A7, C7, rfl, _⟩ := own_form ho7; have hb7 := HGr.out w7 hg7; obtain ⟨t1, _, t3, t4, t5⟩ := mid_cells HR3.out HA3.out HPp.out hb7 (blk_lt HR3.out.blk) HAG.out HAG.out; have HO7 := Aside0.mk ho7; have HB7 := Aside0.mk hb7; clear ho7 hb7 hg7))
          go_wp2
          go_ret
          obtain ⟨col8, L8, hR8, hp8, ha8, hc8⟩ := mid_data (xs := zs) HR3.out HA3.out HPp.out HB7.out HO7.out
          exact ⟨rfl, rp_mk ((hR0.out.ch_of HG3.out).trans hc8) hR8 (by rw [HDo.out, HZS.out]; unfold setF layF; rw [← HPe.out, pay_fs]; try rfl)⟩
  all_goals
    rw [app_err h0 (by omega)]
    clear hR hd hs
    go_enter Try.func16, Try.ntmps16
    go_wp2_with (go_at_call 65; refine HF.out.mono ?_; rintro e w1 ⟨rfl, hg, hB⟩; rw [h0]; have HG1 := Aside0.mk hg; have HB1 := Aside0.mk hB; clear hg hB)
    go_ret
    exact ⟨rfl, HPo.out _ HG1.out HB1.out⟩
def Dk.rdS (d : Dk) (nm : ByteArray) : Int × List Int := if Nm nm = false then (192, []) else if d.down = true then (190, []) else if there d.fs nm = false then (193, []) else (0, (getF d.fs nm).f1)
def RdPost (w w' : World) (e : Ending) (r : Int × List Int) : Prop := ∃ v, e = .returned (.tuple #[v, .int .i64 r.1]) ∧ w'.ownsRow w.heap.size 5 1 v r.2.length (nums .u8 r.2) ∧ Below w.heap.size w w'
set_option maxRecDepth 100000 in
set_option maxHeartbeats 4000000 in
theorem rread (b g : Nat) (d : Dk) (v : Value) (L : List (Fl × Value)) (col : RCol) (nm : ByteArray) (w : World) (hR : RDm b w col g d v L) (hd : d.Ok) (hs : nm.size ≤ 140737488355328) :
    Calls Try.prog 24 #[.pointer (some ⟨g, 0, none⟩), .string nm] w fun e w' => RdPost w w' e (d.rdS nm) := by
  have hl : d.fs.length ≤ 100 := Nat.le_trans hd.few (by omega)
  have HN := Aside0.mk (rnamed_calls nm hs w)
  have HR := Aside0.mk hR
  have HL := Aside0.mk hl
  have hD : ∀ {w1}, Drawn0 w w1 → RDm b w1 col g d v L := fun {w1} h => hR.ch (Ch.of_below (S := fun _ => False) h.below (Nat.le_trans hR.le (Nat.le_of_lt (blk_lt hR.blk)))) (fun _ _ h => h)
  have HD := Aside0.mk (fun w1 => @hD w1)
  cases hn : Nm nm
  · have hr : d.rdS nm = (192, []) := by unfold Dk.rdS; rw [if_pos hn]
    rw [hr]
    clear hR hd hs hl hD
    go_enter Try.func24, Try.ntmps24
    go_wp2_with (go_at_call 37; refine HN.out.mono ?_; rintro e w1 ⟨rfl, hb⟩; rw [hn]; have HB := Aside0.mk hb; clear hb)
    go_ret2
    exact ⟨_, rfl, own_nil _ _ _ _, HB.out.below⟩
  cases hdn : d.down
  · cases ht : there d.fs nm
    · have hr : d.rdS nm = (193, []) := by unfold Dk.rdS; rw [if_neg (by rw [hn]; simp), if_neg (by rw [hdn]; simp), if_pos ht]
      rw [hr]
      clear hR hd hs hl hD
      go_enter Try.func24, Try.ntmps24
      go_wp2_with (first
        | (go_at_call 37; refine HN.out.mono ?_; rintro e w1 ⟨rfl, hb⟩; rw [hn]; have hR1 := HD.out w1 hb; have c1 : World.cell? w1 ⟨g, 1, none⟩ = some (.bool false) := (blk_cell hR1.blk 1).trans (by rw [← hdn]; rfl); have HR1 := Aside0.mk hR1; have HB := Aside0.mk hb; clear hb hR1)
        | (go_at_call 38; refine (HR1.out.placed HL.out nm).mono ?_; rintro e w2 ⟨rfl, hb⟩; rw [ht]; have HB2 := Aside0.mk (HB.out.below.trans (hb.below.mono HB.out.below.size)); clear hb))
      go_ret2
      exact ⟨_, rfl, own_nil _ _ _ _, HB2.out⟩
    · have hr : d.rdS nm = (0, (getF d.fs nm).f1) := by unfold Dk.rdS; rw [if_neg (by rw [hn]; simp), if_neg (by rw [hdn]; simp), if_neg (by rw [ht]; simp)]
      rw [hr]
      have hq := (there_get ht).1
      obtain ⟨p, hp, hpe⟩ := hR.found ht
      obtain ⟨ad, c, ha⟩ := hR.at hq
      have hvl := ha.v
      subst hvl
      obtain ⟨Ab, cb, hbv, hbc, hbr, hbl⟩ := (hR.list.rows p (List.mem_of_getElem? hp)).reads
      have hsz := (hd.size p.1 (by rw [hpe]; exact there_mem ht)).1
      have HLa : Aside0 (∀ w2, w.heap.size ≤ w2.heap.size → LAt b w2 col g (.slice (some ad) d.fs.length c) d.fs.length ad c) := ⟨fun w2 h1 => ha.go h1 rfl⟩
      have HPp := Aside0.mk hp
      have HSZ := Aside0.mk hsz
      have HRb := Aside0.mk hbr
      have HB0 := Aside0.mk (Nat.le_trans hR.le (Nat.le_of_lt (blk_lt hR.blk)))
      have k1 : (place d.fs nm : Int) < (d.fs.length : Int) := by omega
      have k2 : (0 : Int) ≤ (place d.fs nm : Int) := by omega
      rw [← hpe]
      clear hR hd hs hl hD hp hpe ha hq hbc hbr hbl hsz
      go_enter Try.func24, Try.ntmps24
      go_wp2_with (first
        | (go_at_call 37; refine HN.out.mono ?_; rintro e w1 ⟨rfl, hb⟩; rw [hn]; have hR1 := HD.out w1 hb; have c1 : World.cell? w1 ⟨g, 1, none⟩ = some (.bool false) := (blk_cell hR1.blk 1).trans (by rw [← hdn]; rfl); have HR1 := Aside0.mk hR1; have HB := Aside0.mk hb.below; clear hb hR1)
        | (go_at_call 38; refine (HR1.out.placed HL.out nm).mono ?_; rintro e w2 ⟨rfl, hb⟩; rw [ht]; have hB2 := HB.out.trans (hb.below.mono HB.out.size); have hR2 := HR.out.ch (Ch.of_below (S := fun _ => False) hB2 HB0.out) (fun _ _ h => h); have c0 : World.cell? w2 ⟨g, 0, none⟩ = some (.slice (some ad) d.fs.length c) := (blk_cell hR2.blk 0).trans rfl; obtain ⟨x0, x1, x2, x3, x4⟩ := hR2.cells (HLa.out w2 hB2.size) HPp.out; rw [hbv] at x1; have HB2 := Aside0.mk hB2; clear hb hB2 hR2)
        | (go_at_call 36; refine (copied_calls Ab cb p.1.f1 w2 (by have := HSZ.out; omega) (HRb.out.below HB2.out)).mono ?_; rintro e w6 ⟨v6, rfl, ho, hb⟩; have HO6 := Aside0.mk (own_lower ho HB2.out.size); have HB6 := Aside0.mk (HB2.out.trans (hb.mono HB2.out.size)); clear ho hb))
      go_ret2
      exact ⟨_, rfl, HO6.out, HB6.out⟩
  · have hr : d.rdS nm = (190, []) := by unfold Dk.rdS; rw [if_neg (by rw [hn]; simp), if_pos hdn]
    rw [hr]
    clear hR hd hs hl hD
    go_enter Try.func24, Try.ntmps24
    go_wp2_with (go_at_call 37; refine HN.out.mono ?_; rintro e w1 ⟨rfl, hb⟩; rw [hn]; have hR1 := HD.out w1 hb; have c1 : World.cell? w1 ⟨g, 1, none⟩ = some (.bool true) := (blk_cell hR1.blk 1).trans (by rw [← hdn]; rfl); have HB := Aside0.mk hb; clear hb hR1)
    go_ret2
    exact ⟨_, rfl, own_nil _ _ _ _, HB.out.below⟩
structure FL (b : Nat) (W : World) (v : Value) (L : List (Fl × Value)) : Prop where
  own : W.ownsRow b 74 3 v L.length (flatL L)
  rows : ∀ p ∈ L, W.ownsRow b 5 1 p.2 p.1.f1.length (nums .u8 p.1.f1)
theorem FL.nil (b : Nat) (W : World) : FL b W (.slice none 0 0) [] := ⟨own_nil _ _ _ _, fun p hp => by cases hp⟩
theorem FL.below {b : Nat} {W W' : World} {v : Value} {L : List (Fl × Value)} (h : FL b W v L) (hb : Below W.heap.size W W') : FL b W' v L :=
  ⟨own_move h.own fun k hk => hb.block _ (own_lt h.own k hk), fun p hp => own_move (h.rows p hp) fun k hk => hb.block _ (own_lt (h.rows p hp) k hk)⟩
theorem FL.snoc {b : Nat} {W w1 : World} {v v1 : Value} {L : List (Fl × Value)} (h : FL b W v L) {p : Fl × Value} (hp : W.ownsRow b 5 1 p.2 p.1.f1.length (nums .u8 p.1.f1)) (hg : W.grownBy w1 v.ownBlock)
    (ho : w1.ownsRow b 74 3 v1 (L.length + 1) (flatL L ++ [.string p.1.f0, p.2, .int .i64 p.1.f2])) : FL b w1 v1 (L ++ [p]) := by
  rw [flatL_one] at ho
  refine ⟨by rw [List.length_append]; exact ho, fun q hq => ?_⟩
  rw [List.mem_append, List.mem_singleton] at hq
  rcases hq with hq | rfl
  · exact own_other (h.rows q hq) hg (own_type_ne (h.rows q hq) h.own (by decide))
  · exact own_other hp hg (own_type_ne hp h.own (by decide))
theorem FL.reads {b : Nat} {W : World} {v : Value} {L : List (Fl × Value)} (h : FL b W v L) : ∃ A c, v = .slice A L.length c ∧ L.length ≤ c ∧ Kd.C k74 W A L.length (L.map (·.1)) := by
  have hR : Reps (k74.K W) 3 (L.map (·.1)) (flatL L) := by
    have hrows := h.rows
    clear h
    induction L with
    | nil => exact Reps.none _ _
    | cons p r ih =>
      obtain ⟨A, c, hv, hc, _⟩ := own_form (hrows p (by simp))
      have hrd := hrows p (by simp)
      rw [hv] at hrd
      have h1 : k74.K W p.1 [.string p.1.f0, p.2, .int .i64 p.1.f2] := by rw [hv]; exact k74_mk W p.1 hc (Kd.C_of_reads (d := (0 : Int)) (readsInt_of.1 (own_reads' hrd)))
      have := Kd.reps_append ((Reps.none (k74.K W) 3).snoc h1 rfl) (ih (fun q hq => hrows q (List.mem_cons_of_mem _ hq)))
      simpa [flatL_cons] using this
  obtain ⟨A, c, hv, hc⟩ := own_le_cap h.own
  obtain ⟨A', c', hv', hrd⟩ := own_reads_row h.own hR (by simp)
  rw [hv] at hv'
  injection hv' with e1 e2 e3
  subst e1
  exact ⟨A, c, hv, hc, hrd⟩
def FlPost (w w' : World) (e : Ending) (fs : List Fl) : Prop := ∃ v L, e = .returned v ∧ L.map (·.1) = fs ∧ FL w.heap.size w' v L ∧ Below w.heap.size w w'
theorem meas_lt2 {i q : Nat} (h : i < q) : q - (intOf (.int .i64 ((i : Int) + 1))).toNat < q - (intOf (.int .i64 (i : Int))).toNat := by
  show q - ((i : Int) + 1).toNat < q - (i : Int).toNat
  omega
theorem fs_snoc {fs : List Fl} {i : Nat} {f : Fl} (h : fs[i]? = some f) : fs.take (i + 1) = fs.take i ++ [f] := by rw [List.take_add_one, h]; rfl
theorem box_behind {wr w3 : World} {cs : Array Value} {t : TypeId} {v : Value} {xs : List Int} (ho : w3.ownsRow (wr.alloc (.cells cs t)).heap.size 5 1 v xs.length (nums .u8 xs)) (hb : Below (wr.alloc (.cells cs t)).heap.size (wr.alloc (.cells cs t)) w3) :
    w3.heap[wr.heap.size]? = some (.cells cs t (0, 0)) ∧ Below wr.heap.size wr w3 ∧ w3.ownsRow (wr.heap.size + 1) 5 1 v xs.length (nums .u8 xs) :=
  ⟨(hb.block wr.heap.size (by simp)).trans (heap_alloc_new wr _), (below_alloc (Below.refl _ _) _).trans (hb.mono (by simp)), own_lower ho (by simp)⟩
theorem box_turned {wr w3 W4 : World} {x y z v : Value} {xs : List Int} (hx : w3.heap[wr.heap.size]? = some (.cells #[x, y, z] 74 (0, 0))) (hb : Below wr.heap.size wr w3) (ho : w3.ownsRow (wr.heap.size + 1) 5 1 v xs.length (nums .u8 xs)) (hW : W4 = w3.setCell ⟨wr.heap.size, 1, none⟩ v) :
    W4.heap[wr.heap.size]? = some (.cells #[x, v, z] 74 (0, 0)) ∧ Below wr.heap.size wr W4 ∧ W4.ownsRow (wr.heap.size + 1) 5 1 v xs.length (nums .u8 xs) := by
  subst hW
  refine ⟨blk_to hx (by simp), hb.setCell (Nat.le_refl _) v, own_move ho fun k hk => Below.heap_setCell w3 _ v k (fun e => ?_)⟩
  have := own_base ho k hk
  have : k = wr.heap.size := e
  omega
set_option maxRecDepth 100000 in
set_option maxHeartbeats 4000000 in
theorem rfiles (b g : Nat) (d : Dk) (v : Value) (L : List (Fl × Value)) (col : RCol) (w : World) (hR : RDm b w col g d v L) (hd : d.Ok) :
    Calls Try.prog 8 #[.pointer (some ⟨g, 0, none⟩)] w fun e w' => FlPost w w' e d.fs := by
  obtain ⟨A, c, hvs, hnc, hKC⟩ := hR.list.reads
  subst hvs
  have hcell : ∀ W, Below w.heap.size w W → W.cell? ⟨g, 0, none⟩ = some (.slice A d.fs.length c) := fun W h => (h.cell (p := ⟨g, 0, none⟩) (blk_lt hR.blk)).trans ((blk_cell hR.blk 0).trans rfl)
  have helt : ∀ (i : Nat) (f : Fl), d.fs[i]? = some f → ∀ W, Below w.heap.size w W → ∃ ad Ab cb, A = some ad ∧ W.cell? (ad.add (i * 3)) = some (.string f.f0) ∧ W.cell? ⟨(ad.add (i * 3)).block, (ad.add (i * 3)).off + 1, none⟩ = some (.slice Ab f.f1.length cb) ∧ W.cell? ⟨(ad.add (i * 3)).block, (ad.add (i * 3)).off + 2, none⟩ = some (.int .i64 f.f2) ∧ ReadsInt W .u8 Ab f.f1.length f.f1 := fun i f hf W h => by
    have hi : i < d.fs.length := (List.getElem?_eq_some_iff.1 hf).1
    obtain ⟨ad, hq⟩ := hR.at hi
    obtain ⟨c', ha⟩ := hq
    obtain ⟨p, hp, he⟩ := hR.get hi
    obtain ⟨Ab, cb, hbv, _, hr, _⟩ := (hR.list.rows p (List.mem_of_getElem? hp)).reads
    rw [hf] at he
    injection he with he
    subst he
    have hv := ha.v
    injection hv with hv
    have hRW := hR.ch (Ch.of_below (S := fun _ => False) h (Nat.le_trans hR.le (Nat.le_of_lt (blk_lt hR.blk)))) (fun _ _ h => h)
    obtain ⟨x0, x1, x2, _⟩ := hRW.cells (ha.go h.size rfl) hp
    rw [hbv] at x1
    exact ⟨ad, Ab, cb, hv, x0, x1, x2, hr.below h⟩
  have hsz : ∀ f ∈ d.fs, f.f1.length ≤ 2097152 := fun f hf => (hd.size f hf).1
  have hl := hd.few
  have HC := Aside0.mk hcell
  have HE := Aside0.mk helt
  have HS := Aside0.mk hsz
  have HL := Aside0.mk hl
  clear hR hd hcell helt hsz hKC hnc
  generalize d.fs = fs at *
  go_enter Try.func8, Try.ntmps8
  go_wp2
  go_loopw [3, 4, 5] (fun v3 v4 v5 wq => ∃ (i : Nat) (M : List (Fl × Value)), i ≤ fs.length ∧ v4 = .int .i64 i ∧ M.map (·.1) = fs.take i ∧ FL w.heap.size wq v3 M ∧ Below w.heap.size w wq) (fun _ v4 _ _ => fs.length - (intOf v4).toNat)
  case atStart => exact ⟨0, [], by omega, rfl, rfl, FL.nil _ _, Below.refl _ _⟩
  case round =>
    obtain ⟨i, M, hi, rfl, hM, hF, hB⟩ := hrel
    have c0 := HC.out _ hB
    have hMl : M.length = i := by rw [← List.length_map (f := (·.1)), hM, List.length_take]; omega
    by_cases h1 : i < fs.length
    · obtain ⟨f, hf⟩ : ∃ f, fs[i]? = some f := ⟨_, List.getElem?_eq_getElem h1⟩
      obtain ⟨ad, Ab, cb, rfl, x0, x1, x2, hr⟩ := HE.out i f hf _ hB
      have k2 : (i : Int) < (fs.length : Int) := by omega
      have k3 : wrap64 ((i : Int) + 1) = ((i : Int) + 1) := PA.wr (by omega) (by omega)
      have H1 := Aside0.mk (Nat.succ_le_of_lt h1)
      have HEQ := Aside0.mk (congrArg (Value.int .i64) (show wrap64 ((i : Int) + 1) = ((i + 1 : Nat) : Int) from k3))
      have HMS := Aside0.mk (meas_lt h1 k3)
      have HEQ2 := Aside0.mk (show Value.int .i64 ((i : Int) + 1) = Value.int .i64 ((i + 1 : Nat) : Int) from rfl)
      have HMS2 := Aside0.mk (meas_lt2 h1)
      have HFS := Aside0.mk (show ∀ v5 : Value, (M ++ [(f, v5)]).map (·.1) = fs.take (i + 1) by intro v5; rw [List.map_append, hM, fs_snoc hf]; rfl)
      have HF := Aside0.mk hF
      have HB := Aside0.mk hB
      have HR := Aside0.mk hr
      have HFl := Aside0.mk (HS.out f (List.mem_of_getElem? hf))
      have HML := Aside0.mk hMl
      clear hf h1 hi hM hF hB hr hMl
      go_upto_region 7 with (go_at_call 36; refine (copied_calls Ab cb f.f1 _ (by have := HFl.out; omega) (HR.out.below (below_alloc (Below.refl _ _) _))).mono ?_; rintro e w3 ⟨v3, rfl, ho, hb⟩; obtain ⟨hx3, hb3, ho3⟩ := box_behind ho hb; obtain ⟨A3, C3, rfl, _⟩ := own_form ho3; have z0 : World.cell? w3 ⟨wr.heap.size, 0, none⟩ = some (.string f.f0) := (blk_cell hx3 0).trans rfl; have z1 : World.cell? w3 ⟨wr.heap.size, 1, none⟩ = some (.slice Ab f.f1.length cb) := (blk_cell hx3 1).trans rfl; have z2 : World.cell? w3 ⟨wr.heap.size, 2, none⟩ = some (.int .i64 f.f2) := (blk_cell hx3 2).trans rfl; have z3 := blk_frozen hx3 1; have HX3 := Aside0.mk hx3; have HB3 := Aside0.mk hb3; have HO3 := Aside0.mk ho3; clear ho hb hx3 hb3 ho3)
      obtain ⟨W4, hW4⟩ : ∃ W4, W4 = w3.setCell ⟨wr.heap.size, 1, none⟩ (.slice A3 f.f1.length C3) := ⟨_, rfl⟩
      rw [← hW4]
      obtain ⟨hx4, hb4, ho4⟩ := box_turned HX3.out HB3.out HO3.out hW4
      have y0 : W4.cell? ⟨wr.heap.size, 0, none⟩ = some (.string f.f0) := (blk_cell hx4 0).trans rfl
      have y1 : W4.cell? ⟨wr.heap.size, 1, none⟩ = some (.slice A3 f.f1.length C3) := (blk_cell hx4 1).trans rfl
      have y2 : W4.cell? ⟨wr.heap.size, 2, none⟩ = some (.int .i64 f.f2) := (blk_cell hx4 2).trans rfl
      have HF4 := Aside0.mk (HF.out.below hb4)
      have HO4 := Aside0.mk (own_lower ho4 (Nat.le_succ_of_le HB.out.size))
      have HB4 := Aside0.mk (HB.out.trans (hb4.mono HB.out.size))
      have HON := Aside0.mk (show (M.length + 1) = i + 1 by rw [HML.out])
      clear hx4 hb4 ho4 hW4 z0 z1 z2 z3
      go_wp2_with ((with_reducible refine gate_builtin (b := .append) (xs := #[.tmp 26, .tmp 28]) rfl ?_); at_builtin; refine print_append_cells (w0 := w) (W := W4) w.heap.size rfl (.tmp 26) (.tmp 28) 22 74 (.agg #[.string ⟨#[]⟩, .slice none 0 0, .int .i64 0]) 3 48 rfl Try.underlying22 infoF rfl (by decide) (by decide) _ M.length (flatL M) [.string f.f0, .slice A3 f.f1.length C3, .int .i64 f.f2] rfl rfl rfl ?b1 HF4.out.own HB4.out HB4.out.size ?bL ?_; (case b1 => intro u hu; simp only [List.mem_cons, List.not_mem_nil, or_false] at hu; rcases hu with rfl | rfl | rfl <;> rfl); (case bL => have := HML.out; have := HL.out; have := H1.out; omega); intro v5 w5 ho5 hb5 hg5 _; have HF5 := Aside0.mk (HF4.out.snoc (p := (f, .slice A3 f.f1.length C3)) HO4.out hg5 ho5); have HB5 := Aside0.mk hb5; clear ho5 hb5 hg5)
      exact ⟨⟨i + 1, M ++ [(f, .slice A3 f.f1.length C3)], H1.out, by first | exact HEQ.out | exact HEQ2.out, HFS.out _, HF5.out, HB5.out⟩, by first | exact HMS.out | exact HMS2.out⟩
    · have k2 : ¬ (i : Int) < (fs.length : Int) := by omega
      have k1 : decide ((i : Int) < (fs.length : Int)) = false := decide_eq_false k2
      have k5 : decide (i < fs.length) = false := decide_eq_false h1
      have HFin : Aside0 (FlPost w wr (.returned u3) fs) := ⟨u3, M, rfl, by rw [hM, List.take_of_length_le (by omega)], hF, hB⟩
      clear h1 hi hM hF hB hMl k2
      go_wp2
      go_ret
      exact HFin.out
def goodF (acc : List Fl) (f : Fl) : Prop := Nm f.f0 = true ∧ there acc f.f0 = false ∧ f.f1.length ≤ 2097152 ∧ 0 ≤ f.f2 ∧ f.f2 ≤ f.f1.length
instance (acc : List Fl) (f : Fl) : Decidable (goodF acc f) := by unfold goodF; exact inferInstance
def newL : List Fl → List Fl → Option (List Fl)
  | acc, [] => some acc
  | acc, f :: r => if goodF acc f then newL (addF acc f) r else none
def newS (fs : List Fl) : Option (List Fl) := if 40 < fs.length then none else newL [] fs
def Dk.start (fs : List Fl) : Dk := { fs := fs, down := false, units := -1, after := 0, calls := 0 }
theorem ok_start {fs : List Fl} (h1 : Rises fs) (h2 : ∀ f ∈ fs, Nm f.f0 = true) (h3 : ∀ f ∈ fs, f.f1.length ≤ 2097152 ∧ 0 ≤ f.f2 ∧ f.f2 ≤ f.f1.length) (h4 : fs.length ≤ 40) : (Dk.start fs).Ok :=
  ⟨h1, h2, h3, h4, by simp [Dk.start], by simp [Dk.start], by simp [Dk.start], by simp [Dk.start], by simp [Dk.start], by simp [Dk.start]⟩
theorem newL_ok : ∀ (r acc : List Fl) (l : List Fl), Rises acc → (∀ f ∈ acc, Nm f.f0 = true) → (∀ f ∈ acc, f.f1.length ≤ 2097152 ∧ 0 ≤ f.f2 ∧ f.f2 ≤ f.f1.length) → newL acc r = some l → Rises l ∧ (∀ f ∈ l, Nm f.f0 = true) ∧ (∀ f ∈ l, f.f1.length ≤ 2097152 ∧ 0 ≤ f.f2 ∧ f.f2 ≤ f.f1.length) ∧ l.length = acc.length + r.length
  | [], acc, l, h1, h2, h3, h => by
    injection h with h
    subst h
    exact ⟨h1, h2, h3, rfl⟩
  | f :: r, acc, l, h1, h2, h3, h => by
    unfold newL at h
    split at h
    · rename_i hg
      obtain ⟨q1, q2, q3, q4⟩ := newL_ok r (addF acc f) l (rises_add h1 hg.2.1) (fun x hx => by rcases addF_mem.1 hx with rfl | hx; exact hg.1; exact h2 x hx)
        (fun x hx => by rcases addF_mem.1 hx with rfl | hx; exact ⟨hg.2.2.1, hg.2.2.2.1, hg.2.2.2.2⟩; exact h3 x hx) h
      exact ⟨q1, q2, q3, by rw [q4, addF_len, List.length_cons]; omega⟩
    · cases h
theorem newS_ok {fs l : List Fl} (h : newS fs = some l) : (Dk.start l).Ok := by
  unfold newS at h
  split at h
  · cases h
  · rename_i hl
    obtain ⟨q1, q2, q3, q4⟩ := newL_ok fs [] l List.Pairwise.nil (fun _ h => by cases h) (fun _ h => by cases h) h
    exact ok_start q1 q2 q3 (by rw [q4]; simp; omega)
def RNewPost (w w' : World) (e : Ending) : Option (List Fl) → Prop
  | none => e = .returned (.tuple #[.pointer none, .int .i64 195]) ∧ Below w.heap.size w w'
  | some l => ∃ g col, e = .returned (.tuple #[.pointer (some ⟨g, 0, none⟩), .int .i64 0]) ∧ Below w.heap.size w w' ∧ RD w.heap.size w' col g (Dk.start l)
theorem in_reads {w : World} {A : Option Addr} {fs : List Fl} (h : Kd.C k74 w A fs.length fs) {i : Nat} {f : Fl} (hf : fs[i]? = some f) (W : World) (hB : Below w.heap.size w W) :
    ∃ ad Ab cb, A = some ad ∧ W.cell? (ad.add (i * 3)) = some (.string f.f0) ∧ W.cell? ⟨(ad.add (i * 3)).block, (ad.add (i * 3)).off + 1, none⟩ = some (.slice Ab f.f1.length cb) ∧ W.cell? ⟨(ad.add (i * 3)).block, (ad.add (i * 3)).off + 2, none⟩ = some (.int .i64 f.f2) ∧ f.f1.length ≤ cb ∧ ReadsInt W .u8 Ab f.f1.length f.f1 := by
  have hi : i < fs.length := (List.getElem?_eq_some_iff.1 hf).1
  obtain ⟨ad, A1, c1, hA, x0, x1, x2, x3, x4⟩ := at_T74 (Kd.C_below h hB) (i : Int) (by omega) (by omega)
  rw [rdF hf] at x0 x1 x2 x3 x4
  rw [Int.toNat_natCast] at x0 x1 x2
  exact ⟨ad, A1, c1, hA, x0, x1, x2, x3, readsInt_of.2 (Kd.reads_of_C x4)⟩
theorem box_read {wr w2 : World} {x y z : Value} (hb : Below (wr.heap.size + 1) (wr.alloc (.cells #[x, y, z] 74)) w2) :
    w2.cell? ⟨wr.heap.size, 0, none⟩ = some x ∧ w2.cell? ⟨wr.heap.size, 1, none⟩ = some y ∧ w2.cell? ⟨wr.heap.size, 2, none⟩ = some z ∧ Below wr.heap.size wr w2 := by
  have hx : w2.heap[wr.heap.size]? = some (.cells #[x, y, z] 74 (0, 0)) := (hb.block wr.heap.size (by omega)).trans (heap_alloc_new wr _)
  exact ⟨(blk_cell hx 0).trans rfl, (blk_cell hx 1).trans rfl, (blk_cell hx 2).trans rfl, (below_alloc (Below.refl _ _) _).trans (hb.mono (by omega))⟩
theorem new_rb {b g : Nat} {w3 w4 : World} {col : RCol} {d : Dk} {v v4 : Value} {L : List (Fl × Value)} {xs : List Int} (h : RDm b w3 col g d v L) (ho : w4.ownsRow w3.heap.size 5 1 v4 xs.length (nums .u8 xs)) (hb : Below w3.heap.size w3 w4) :
    RDm b w4 (colN col w3.heap.size fun _ => .rb) g d v L ∧ BRow b w4 (colN col w3.heap.size fun _ => .rb) .rb v4 xs ∧ Below w3.heap.size w3 w4 :=
  have hbw := Nat.le_trans h.le (Nat.le_of_lt (blk_lt h.blk))
  ⟨h.ch (Ch.of_new (S := fun _ => False) hb hbw _) (fun _ _ h => h), BRow.fresh ho hbw col (fun _ => .rb) .rb (fun _ _ => rfl), hb⟩
set_option maxRecDepth 100000 in
set_option maxHeartbeats 8000000 in
theorem rnew (A : Option Addr) (c : Nat) (fs : List Fl) (w : World) (hK : Kd.C k74 w A fs.length fs) (hc : fs.length ≤ c) (hnm : ∀ f ∈ fs, f.f0.size ≤ 140737488355328) (hln : ∀ f ∈ fs, f.f1.length ≤ 140737488355328) (hfl : fs.length ≤ 140737488355328) :
    Calls Try.prog 10 #[.slice A fs.length c] w fun e w' => RNewPost w w' e (newS fs) := by
  have HIn := Aside0.mk (fun i f hf W hB => in_reads hK (i := i) (f := f) hf W hB)
  have HNm := Aside0.mk hnm
  by_cases h40 : 40 < fs.length
  · have hs : newS fs = none := if_pos h40
    rw [hs]
    have b1 : (40 : Int) < (fs.length : Int) := by omega
    clear hK hc hnm hln hfl
    go_enter Try.func10, Try.ntmps10
    go_wp2
    go_ret2
    exact ⟨rfl, below_alloc (Below.refl _ _) _⟩
  have hs : newS fs = newL [] fs := if_neg h40
  rw [hs]
  have b1 : decide ((40 : Int) < (fs.length : Int)) = false := decide_eq_false (by omega)
  have b2 : decide (40 < fs.length) = false := decide_eq_false h40
  have h41 : fs.length ≤ 40 := Nat.le_of_not_lt h40
  have H40 := Aside0.mk h41
  clear hK hc hnm hln hfl hs h40
  go_enter Try.func10, Try.ntmps10
  go_wp2
  go_loopw [5, 6, 7, 8, 9, 10] (fun v5 v6 v7 v8 v9 v10 wq => ∃ (i : Nat) (acc : List Fl) (col : RCol), i ≤ fs.length ∧ v5 = .int .i64 i ∧ newL [] fs = newL acc (fs.drop i) ∧ acc.length = i ∧ RD w.heap.size wq col w.heap.size (Dk.start acc) ∧ Below w.heap.size w wq) (fun v5 _ _ _ _ _ _ => fs.length - (intOf v5).toNat)
  case atStart =>
    have hx := heap_alloc_new w (.cells #[.slice none 0 0, .bool false, .int .i64 (-1), .int .i64 0, .int .i64 0] 100)
    exact ⟨0, [], fun k => if k = w.heap.size then .rd else .rl, by omega, rfl, rfl, rfl, ⟨_, [], hx, if_pos rfl, Nat.le_refl _, ⟨rfl, own_nil _ _ _ _, fun k hk => by simp [Value.ownBlock] at hk, fun p hp => by cases hp⟩⟩, below_alloc (Below.refl _ _) _⟩
  case round =>
    obtain ⟨i, acc, col, hi, rfl, hnew, hacc, ⟨v, L, hR⟩, hB⟩ := hrel
    by_cases h1 : i < fs.length
    · obtain ⟨f, hf⟩ : ∃ f, fs[i]? = some f := ⟨_, List.getElem?_eq_getElem h1⟩
      have hstep : newL [] fs = if goodF acc f then newL (addF acc f) (fs.drop (i + 1)) else none := by
        rw [hnew, List.drop_eq_getElem_cons h1]
        rw [List.getElem?_eq_getElem h1] at hf
        injection hf with hf
        rw [hf]
        rfl
      obtain ⟨ad, Ab, cb, rfl, x0, x1, x2, hcb, hrd⟩ := HIn.out i f hf _ hB
      have k2 : (i : Int) < (fs.length : Int) := by omega
      have HK3 : Aside0 (wrap64 ((i : Int) + 1) = ((i : Int) + 1)) := ⟨PA.wr (by omega) (by omega)⟩
      have H1 := Aside0.mk (Nat.succ_le_of_lt h1)
      have HEQ := Aside0.mk (congrArg (Value.int .i64) (show wrap64 ((i : Int) + 1) = ((i + 1 : Nat) : Int) from HK3.out))
      have HMS := Aside0.mk (meas_lt h1 HK3.out)
      have HEQ2 := Aside0.mk (show Value.int .i64 ((i : Int) + 1) = Value.int .i64 ((i + 1 : Nat) : Int) from rfl)
      have HMS2 := Aside0.mk (meas_lt2 h1)
      have HAl : Aside0 ((Dk.start acc).fs.length ≤ 100) := ⟨by have := H40.out; show acc.length ≤ 100; omega⟩
      have HAcc := Aside0.mk hacc
      have HPlc : Aside0 (∀ W, RDm w.heap.size W col w.heap.size (Dk.start acc) v L → Calls Try.prog 38 #[.pointer (some ⟨w.heap.size, 0, none⟩), .string f.f0] W fun e w' => e = .returned (.tuple #[.int .i64 (place acc f.f0), .bool (there acc f.f0)]) ∧ Drawn0 W w') := ⟨fun W h => h.placed HAl.out f.f0⟩
      have HRg : Aside0 (∀ W, Below wr.heap.size wr W → RDm w.heap.size W col w.heap.size (Dk.start acc) v L) := ⟨fun W h => by exact hR.ch (Ch.of_below (S := fun _ => False) h hB.size) (fun _ _ h => h)⟩
      have HB := Aside0.mk hB
      have HFi := Aside0.mk hf
      have HRd := Aside0.mk hrd
      have HBad : Aside0 (¬ goodF acc f → ∀ W, Below w.heap.size w W → RNewPost w W (.returned (.tuple #[.pointer none, .int .i64 195])) (newL [] fs)) := ⟨fun h W hW => by rw [hstep, if_neg h]; exact ⟨rfl, hW⟩⟩
      have HGo : Aside0 (goodF acc f → newL [] fs = newL (addF acc f) (fs.drop (i + 1))) := ⟨fun h => by rw [hstep, if_pos h]⟩
      clear hf h1 hi hnew hacc hR hB hrd hstep hcb
      cases hnm : Nm f.f0
      · have HBad := Aside0.mk (HBad.out (fun h => by rw [goodF, hnm] at h; cases h.1))
        cases hth : there acc f.f0
        · go_wp2_with (first | (go_at_call 37; refine (rnamed_calls f.f0 (HNm.out f (List.mem_of_getElem? HFi.out)) _).mono ?_; rintro e w2 ⟨rfl, hb⟩; rw [hnm]; have hb2 : Below (wr.heap.size + 1) (wr.alloc (.cells #[.string f.f0, .slice Ab f.f1.length cb, .int .i64 f.f2] 74)) w2 := (by have := hb.below; simpa using this); obtain ⟨z0, z1, z2, hbw⟩ := box_read hb2; have HB2 := Aside0.mk hb2; have HBW := Aside0.mk hbw; have HR2 := Aside0.mk (HRg.out w2 hbw); clear hb hb2 hbw) | (go_at_call 38; refine (HPlc.out w2 HR2.out).mono ?_; rintro e w3 ⟨rfl, hb⟩; rw [hth]; have hb3 := HB2.out.trans (hb.below.mono (by have := HB2.out.size; simpa using this)); obtain ⟨y0, y1, y2, hbw⟩ := box_read hb3; have HB3 := Aside0.mk hb3; have HBW3 := Aside0.mk hbw; have HR3 := Aside0.mk (HRg.out w3 hbw); clear hb hb3 hbw))
          go_ret2
          exact HBad.out _ (HB.out.trans (HBW3.out.mono HB.out.size))
        · go_wp2_with (first | (go_at_call 37; refine (rnamed_calls f.f0 (HNm.out f (List.mem_of_getElem? HFi.out)) _).mono ?_; rintro e w2 ⟨rfl, hb⟩; rw [hnm]; have hb2 : Below (wr.heap.size + 1) (wr.alloc (.cells #[.string f.f0, .slice Ab f.f1.length cb, .int .i64 f.f2] 74)) w2 := (by have := hb.below; simpa using this); obtain ⟨z0, z1, z2, hbw⟩ := box_read hb2; have HB2 := Aside0.mk hb2; have HBW := Aside0.mk hbw; have HR2 := Aside0.mk (HRg.out w2 hbw); clear hb hb2 hbw) | (go_at_call 38; refine (HPlc.out w2 HR2.out).mono ?_; rintro e w3 ⟨rfl, hb⟩; rw [hth]; have hb3 := HB2.out.trans (hb.below.mono (by have := HB2.out.size; simpa using this)); obtain ⟨y0, y1, y2, hbw⟩ := box_read hb3; have HB3 := Aside0.mk hb3; have HBW3 := Aside0.mk hbw; have HR3 := Aside0.mk (HRg.out w3 hbw); clear hb hb3 hbw))
          go_ret2
          exact HBad.out _ (HB.out.trans (HBW3.out.mono HB.out.size))
      cases hth : there acc f.f0
      · by_cases hbig : 2097152 < f.f1.length
        · have HBad := Aside0.mk (HBad.out (fun h => by have := h.2.2.1; omega))
          have c1 : (2097152 : Int) < (f.f1.length : Int) := by omega
          clear hbig
          go_wp2_with (first | (go_at_call 37; refine (rnamed_calls f.f0 (HNm.out f (List.mem_of_getElem? HFi.out)) _).mono ?_; rintro e w2 ⟨rfl, hb⟩; rw [hnm]; have hb2 : Below (wr.heap.size + 1) (wr.alloc (.cells #[.string f.f0, .slice Ab f.f1.length cb, .int .i64 f.f2] 74)) w2 := (by have := hb.below; simpa using this); obtain ⟨z0, z1, z2, hbw⟩ := box_read hb2; have HB2 := Aside0.mk hb2; have HBW := Aside0.mk hbw; have HR2 := Aside0.mk (HRg.out w2 hbw); clear hb hb2 hbw) | (go_at_call 38; refine (HPlc.out w2 HR2.out).mono ?_; rintro e w3 ⟨rfl, hb⟩; rw [hth]; have hb3 := HB2.out.trans (hb.below.mono (by have := HB2.out.size; simpa using this)); obtain ⟨y0, y1, y2, hbw⟩ := box_read hb3; have HB3 := Aside0.mk hb3; have HBW3 := Aside0.mk hbw; have HR3 := Aside0.mk (HRg.out w3 hbw); clear hb hb3 hbw))
          go_ret2
          exact HBad.out _ (HB.out.trans (HBW3.out.mono HB.out.size))
        by_cases hneg : f.f2 < 0
        · have HBad := Aside0.mk (HBad.out (fun h => by have := h.2.2.2.1; omega))
          have c1 : decide ((2097152 : Int) < (f.f1.length : Int)) = false := decide_eq_false (by omega)
          have c2 : decide (2097152 < f.f1.length) = false := decide_eq_false hbig
          have c3 : f.f2 < 0 := hneg
          clear hbig hneg
          go_wp2_with (first | (go_at_call 37; refine (rnamed_calls f.f0 (HNm.out f (List.mem_of_getElem? HFi.out)) _).mono ?_; rintro e w2 ⟨rfl, hb⟩; rw [hnm]; have hb2 : Below (wr.heap.size + 1) (wr.alloc (.cells #[.string f.f0, .slice Ab f.f1.length cb, .int .i64 f.f2] 74)) w2 := (by have := hb.below; simpa using this); obtain ⟨z0, z1, z2, hbw⟩ := box_read hb2; have HB2 := Aside0.mk hb2; have HBW := Aside0.mk hbw; have HR2 := Aside0.mk (HRg.out w2 hbw); clear hb hb2 hbw) | (go_at_call 38; refine (HPlc.out w2 HR2.out).mono ?_; rintro e w3 ⟨rfl, hb⟩; rw [hth]; have hb3 := HB2.out.trans (hb.below.mono (by have := HB2.out.size; simpa using this)); obtain ⟨y0, y1, y2, hbw⟩ := box_read hb3; have HB3 := Aside0.mk hb3; have HBW3 := Aside0.mk hbw; have HR3 := Aside0.mk (HRg.out w3 hbw); clear hb hb3 hbw))
          go_ret2
          exact HBad.out _ (HB.out.trans (HBW3.out.mono HB.out.size))
        by_cases hov : (f.f1.length : Int) < f.f2
        · have HBad := Aside0.mk (HBad.out (fun h => by have := h.2.2.2.2; omega))
          have c1 : decide ((2097152 : Int) < (f.f1.length : Int)) = false := decide_eq_false (by omega)
          have c2 : decide (2097152 < f.f1.length) = false := decide_eq_false hbig
          have c3 : decide (f.f2 < 0) = false := decide_eq_false hneg
          have c4 : (f.f1.length : Int) < f.f2 := hov
          clear hbig hneg hov
          go_wp2_with (first | (go_at_call 37; refine (rnamed_calls f.f0 (HNm.out f (List.mem_of_getElem? HFi.out)) _).mono ?_; rintro e w2 ⟨rfl, hb⟩; rw [hnm]; have hb2 : Below (wr.heap.size + 1) (wr.alloc (.cells #[.string f.f0, .slice Ab f.f1.length cb, .int .i64 f.f2] 74)) w2 := (by have := hb.below; simpa using this); obtain ⟨z0, z1, z2, hbw⟩ := box_read hb2; have HB2 := Aside0.mk hb2; have HBW := Aside0.mk hbw; have HR2 := Aside0.mk (HRg.out w2 hbw); clear hb hb2 hbw) | (go_at_call 38; refine (HPlc.out w2 HR2.out).mono ?_; rintro e w3 ⟨rfl, hb⟩; rw [hth]; have hb3 := HB2.out.trans (hb.below.mono (by have := HB2.out.size; simpa using this)); obtain ⟨y0, y1, y2, hbw⟩ := box_read hb3; have HB3 := Aside0.mk hb3; have HBW3 := Aside0.mk hbw; have HR3 := Aside0.mk (HRg.out w3 hbw); clear hb hb3 hbw))
          go_ret2
          exact HBad.out _ (HB.out.trans (HBW3.out.mono HB.out.size))
        · have HG : Aside0 (goodF acc f) := ⟨⟨hnm, hth, by omega, by omega, by omega⟩⟩
          have c1 : decide ((2097152 : Int) < (f.f1.length : Int)) = false := decide_eq_false (by omega)
          have c2 : decide (2097152 < f.f1.length) = false := decide_eq_false hbig
          have c3 : decide (f.f2 < 0) = false := decide_eq_false hneg
          have c4 : decide ((f.f1.length : Int) < f.f2) = false := decide_eq_false hov
          clear hbig hneg hov HBad
          go_wp2_with (first | (go_at_call 37; refine (rnamed_calls f.f0 (HNm.out f (List.mem_of_getElem? HFi.out)) _).mono ?_; rintro e w2 ⟨rfl, hb⟩; rw [hnm]; have hb2 : Below (wr.heap.size + 1) (wr.alloc (.cells #[.string f.f0, .slice Ab f.f1.length cb, .int .i64 f.f2] 74)) w2 := (by have := hb.below; simpa using this); obtain ⟨z0, z1, z2, hbw⟩ := box_read hb2; have HB2 := Aside0.mk hb2; have HBW := Aside0.mk hbw; have HR2 := Aside0.mk (HRg.out w2 hbw); clear hb hb2 hbw) | (go_at_call 38; refine (HPlc.out w2 HR2.out).mono ?_; rintro e w3 ⟨rfl, hb⟩; rw [hth]; have hb3 := HB2.out.trans (hb.below.mono (by have := HB2.out.size; simpa using this)); obtain ⟨y0, y1, y2, hbw⟩ := box_read hb3; have HB3 := Aside0.mk hb3; have HBW3 := Aside0.mk hbw; have HR3 := Aside0.mk (HRg.out w3 hbw); clear hb hb3 hbw) | (go_at_call 36; refine (copied_calls Ab cb f.f1 _ (by have := HG.out.2.2.1; omega) (HRd.out.below HBW3.out)).mono ?_; rintro e w4 ⟨v4, rfl, ho, hb⟩; have hb4 := HB3.out.trans (hb.mono (by have := HB3.out.size; simpa using this)); obtain ⟨s0, s1, s2, hbw4⟩ := box_read hb4; obtain ⟨A4, C4, rfl, _⟩ := own_form ho; have HN4 := Aside0.mk (new_rb HR3.out ho hb); have HBW4 := Aside0.mk hbw4; clear ho hb hb4 hbw4) | (go_at_call 39; refine (add_calls w.heap.size w.heap.size (Dk.start acc) _ _ _ f (.slice A4 f.f1.length C4) w4 HN4.out.1 HN4.out.2.1 HAl.out).mono ?_; rintro e w5 ⟨rfl, hp⟩; have HP := Aside0.mk hp; clear hp))
          obtain ⟨col5, hc5, v5', L5, hR5⟩ := HP.out
          exact ⟨⟨i + 1, addF acc f, col5, H1.out, by first | exact HEQ.out | exact HEQ2.out, HGo.out HG.out, by rw [addF_len, HAcc.out], ⟨v5', L5, hR5⟩, (HB.out.trans (HBW4.out.mono HB.out.size)).trans hc5.below⟩, by first | exact HMS.out | exact HMS2.out⟩
      · have HBad := Aside0.mk (HBad.out (fun h => by have := h.2.1; rw [hth] at this; cases this))
        go_wp2_with (first | (go_at_call 37; refine (rnamed_calls f.f0 (HNm.out f (List.mem_of_getElem? HFi.out)) _).mono ?_; rintro e w2 ⟨rfl, hb⟩; rw [hnm]; have hb2 : Below (wr.heap.size + 1) (wr.alloc (.cells #[.string f.f0, .slice Ab f.f1.length cb, .int .i64 f.f2] 74)) w2 := (by have := hb.below; simpa using this); obtain ⟨z0, z1, z2, hbw⟩ := box_read hb2; have HB2 := Aside0.mk hb2; have HBW := Aside0.mk hbw; have HR2 := Aside0.mk (HRg.out w2 hbw); clear hb hb2 hbw) | (go_at_call 38; refine (HPlc.out w2 HR2.out).mono ?_; rintro e w3 ⟨rfl, hb⟩; rw [hth]; have hb3 := HB2.out.trans (hb.below.mono (by have := HB2.out.size; simpa using this)); obtain ⟨y0, y1, y2, hbw⟩ := box_read hb3; have HB3 := Aside0.mk hb3; have HBW3 := Aside0.mk hbw; have HR3 := Aside0.mk (HRg.out w3 hbw); clear hb hb3 hbw))
        go_ret2
        exact HBad.out _ (HB.out.trans (HBW3.out.mono HB.out.size))
    · have k5 : decide (i < fs.length) = false := decide_eq_false h1
      have k6 : decide ((i : Int) < (fs.length : Int)) = false := decide_eq_false (by omega)
      have HFin : Aside0 (RNewPost w wr (.returned (.tuple #[.pointer (some ⟨w.heap.size, 0, none⟩), .int .i64 0])) (newL [] fs)) := ⟨by
        rw [hnew, List.drop_eq_nil_of_le (by omega)]
        exact ⟨_, _, rfl, hB, v, L, hR⟩⟩
      clear h1 hi hnew hacc hR hB
      go_wp2
      go_ret2
      exact HFin.out
def keepAt (ks : List Int) (i : Nat) : Int := if ks.length = 0 then 0 else ks.getD (i % ks.length) 0
def keepN (ks : List Int) (i : Nat) (f : Fl) : Nat := (min (max (keepAt ks i) 0) (f.f1.length - f.f2)).toNat
def restF (ks : List Int) (i : Nat) (f : Fl) : Fl := { f with f1 := f.f1.take (f.f2.toNat + keepN ks i f), f2 := ((f.f2.toNat + keepN ks i f : Nat) : Int) }
def restTo (ks : List Int) (fs : List Fl) : Nat → List Fl
  | 0 => fs
  | i + 1 => (restTo ks fs i).set i (restF ks i (fs.getD i z74))
def Dk.rest (d : Dk) (ks : List Int) : Dk := { fs := restTo ks d.fs d.fs.length, down := false, units := -1, after := 0, calls := 0 }
theorem restTo_len (ks : List Int) (fs : List Fl) : ∀ n, (restTo ks fs n).length = fs.length
  | 0 => rfl
  | n + 1 => by rw [restTo, List.length_set, restTo_len ks fs n]
theorem restTo_ge (ks : List Int) (fs : List Fl) : ∀ n j, n ≤ j → (restTo ks fs n)[j]? = fs[j]?
  | 0, j, _ => rfl
  | n + 1, j, h => by rw [restTo, List.getElem?_set_ne (by omega), restTo_ge ks fs n j (by omega)]
theorem restF_name (ks : List Int) (i : Nat) (f : Fl) : (restF ks i f).f0 = f.f0 := rfl
theorem restTo_names (ks : List Int) (fs : List Fl) : ∀ n, n ≤ fs.length → (restTo ks fs n).map (·.f0) = fs.map (·.f0)
  | 0, _ => rfl
  | n + 1, h => by
    have ih := restTo_names ks fs n (by omega)
    rw [restTo, List.map_set, ih, restF_name]
    refine List.ext_getElem? fun j => ?_
    rw [List.getElem?_set]
    split
    · rename_i hj
      subst hj
      rw [if_pos (by simp; omega), List.getElem?_map, List.getElem?_eq_getElem (by omega), List.getD_eq_getElem?_getD, List.getElem?_eq_getElem (by omega)]
      rfl
    · rfl
theorem keepN_le (ks : List Int) (i : Nat) (f : Fl) (h0 : 0 ≤ f.f2) (h1 : f.f2 ≤ f.f1.length) : f.f2.toNat + keepN ks i f ≤ f.f1.length := by unfold keepN; omega
theorem restF_size (ks : List Int) (i : Nat) {f : Fl} (h : f.f1.length ≤ 2097152 ∧ 0 ≤ f.f2 ∧ f.f2 ≤ f.f1.length) : (restF ks i f).f1.length ≤ 2097152 ∧ 0 ≤ (restF ks i f).f2 ∧ (restF ks i f).f2 ≤ (restF ks i f).f1.length := by
  have := keepN_le ks i f h.2.1 h.2.2
  have hl : (restF ks i f).f1.length = f.f2.toNat + keepN ks i f := by show (f.f1.take _).length = _; rw [List.length_take]; omega
  have h2 : (restF ks i f).f2 = ((f.f2.toNat + keepN ks i f : Nat) : Int) := rfl
  rw [hl, h2]
  omega
theorem restTo_size (ks : List Int) (fs : List Fl) (h : ∀ f ∈ fs, f.f1.length ≤ 2097152 ∧ 0 ≤ f.f2 ∧ f.f2 ≤ f.f1.length) : ∀ n, n ≤ fs.length → ∀ f ∈ restTo ks fs n, f.f1.length ≤ 2097152 ∧ 0 ≤ f.f2 ∧ f.f2 ≤ f.f1.length
  | 0, _, f, hf => h f hf
  | n + 1, hn, f, hf => by
    rw [restTo] at hf
    rcases List.mem_or_eq_of_mem_set hf with h1 | rfl
    · exact restTo_size ks fs h n (by omega) f h1
    · refine restF_size ks n (h _ ?_)
      rw [List.getD_eq_getElem?_getD, List.getElem?_eq_getElem (by omega)]
      exact List.getElem_mem _
theorem Dk.Ok.rest {d : Dk} (h : d.Ok) (ks : List Int) : (d.rest ks).Ok := by
  have hn := restTo_names ks d.fs d.fs.length (Nat.le_refl _)
  refine ⟨rises_names h.rises hn, fun f hf => ?_, restTo_size ks d.fs h.size _ (Nat.le_refl _), by show (restTo ks d.fs d.fs.length).length ≤ 40; rw [restTo_len]; exact h.few, by simp [Dk.rest], by simp [Dk.rest], by simp [Dk.rest], by simp [Dk.rest], by simp [Dk.rest], by simp [Dk.rest]⟩
  have : f.f0 ∈ d.fs.map (·.f0) := by rw [← hn]; exact List.mem_map_of_mem hf
  obtain ⟨x, hx, he⟩ := List.mem_map.1 this
  rw [← he]
  exact h.names x hx
structure XInts (W : World) (col : RCol) (S : Role → Prop) (A : Option Addr) (ks : List Int) : Prop where
  rd : ReadsInt W .i64 A ks.length ks
  lt : 0 < ks.length → ∀ a, A = some a → a.block < W.heap.size ∧ ¬ S (col a.block)
theorem XInts.ch {b : Nat} {W W' : World} {col col' : RCol} {S S' : Role → Prop} {A : Option Addr} {ks : List Int} (h : XInts W col S A ks) (m : Ch b W col W' col' S') (hS : ∀ r, S' r → S r) : XInts W' col' S A ks := by
  refine ⟨⟨h.rd.1, h.rd.2.1, fun h0 => ?_⟩, fun h0 a ha => ⟨Nat.lt_of_lt_of_le (h.lt h0 a ha).1 m.size, by rw [m.same _ (h.lt h0 a ha).1]; exact (h.lt h0 a ha).2⟩⟩
  obtain ⟨ad, e, hc⟩ := h.rd.2.2 h0
  refine ⟨ad, e, fun j hj => ?_⟩
  have e1 : (ad.add j).block = ad.block := by unfold Addr.add; split <;> rfl
  rw [← hc j hj]
  unfold World.cell?
  rw [e1, m.block _ (h.lt h0 ad e).1 (fun hs => (h.lt h0 ad e).2 (hS _ hs))]
theorem XInts.at {W : World} {col : RCol} {S : Role → Prop} {A : Option Addr} {ks : List Int} (h : XInts W col S A ks) (h0 : ks.length ≠ 0) (i : Nat) : ∃ ad, A = some ad ∧ W.cell? (ad.add (i % ks.length)) = some (.int .i64 (keepAt ks i)) := by
  obtain ⟨ad, e, hc⟩ := h.rd.2.2 (by omega)
  refine ⟨ad, e, ?_⟩
  rw [hc _ (Nat.mod_lt _ (by omega))]
  unfold keepAt
  rw [if_neg h0]
end Go.Proofs.Ytmpgldggjjmkmaa.PA
end
section
namespace Go.Proofs.Ytmpgldggjjmkmaa.PA
open Go.RowKit Go.Maps Go.Proofs.YtmpgldggjjmkmaaW.PrintWords Go.Proofs.YtmpgldggjjmkmaaW.PrintLast Go.Proofs.YtmpgldggjjmkmaaW.PrintMore
attribute [local go_sem] max2_int min2_int max_two min_two
set_option maxRecDepth 100000 in
set_option maxHeartbeats 8000000 in
theorem rrestart (b g : Nat) (d : Dk) (v : Value) (L : List (Fl × Value)) (col : RCol) (KA : Option Addr) (kc : Nat) (ks : List Int) (w : World) (hR : RDm b w col g d v L) (hd : d.Ok) (hX : XInts w col isR KA ks) (hkl : ks.length ≤ 140737488355328) :
    Calls Try.prog 33 #[.pointer (some ⟨g, 0, none⟩), .slice KA ks.length kc] w fun e w' => e = .returned (.tuple #[]) ∧ RPost b w col g (d.rest ks) w' := by
  have HFa := Aside0.mk (rfalls g v d.down d.units d.after d.calls w hR.blk)
  have HR0 := Aside0.mk hR
  have HX0 := Aside0.mk hX
  have HSz := Aside0.mk hd.size
  have hfew := hd.few
  have hlen := restTo_len ks d.fs
  have HLen := Aside0.mk hlen
  have HGe := Aside0.mk (restTo_ge ks d.fs)
  have HSuc : Aside0 (∀ i f, d.fs[i]? = some f → restTo ks d.fs (i + 1) = (restTo ks d.fs i).set i (restF ks i f)) := ⟨fun i f h => by rw [restTo, List.getD_eq_getElem?_getD, h]; rfl⟩
  have HRest : Aside0 (d.rest ks = { fs := restTo ks d.fs d.fs.length, down := false, units := -1, after := 0, calls := 0 }) := ⟨rfl⟩
  have HSt : Aside0 (∀ w1, w.grownBy w1 (some g) → RB w1 g v true (-1) 0 0 → RDm b w1 col g { fs := d.fs, down := true, units := -1, after := 0, calls := 0 } v L ∧ Ch b w col w1 col isR) := ⟨fun w1 h1 h2 => ⟨hR.turn h1 h2 rfl, hR.ch_of h1⟩⟩
  clear hR hX hd hlen
  generalize d.fs = fs at *
  generalize hfn : d.rest ks = dr at *
  clear hfn
  go_enter Try.func33, Try.ntmps33
  go_wp2_with (go_at_call 72; refine HFa.out.mono ?_; rintro e w1 ⟨rfl, hg1, hB1⟩; have hS := Aside0.mk (HSt.out w1 hg1 hB1); clear hg1 hB1)
  go_loopw [4, 5, 6] (fun v4 v5 v6 wq => ∃ (i : Nat) (col' : RCol) (v' : Value) (L' : List (Fl × Value)), i ≤ fs.length ∧ v4 = .int .i64 i ∧ RDm b wq col' g { fs := restTo ks fs i, down := true, units := -1, after := 0, calls := 0 } v' L' ∧ Ch b w col wq col' isR) (fun v4 _ _ _ => fs.length - (intOf v4).toNat)
  case atStart => exact ⟨0, col, v, L, by omega, rfl, hS.out.1, hS.out.2⟩
  case round =>
    obtain ⟨i, col', v', L', hi, rfl, hR, hc⟩ := hrel
    by_cases h1 : i < fs.length
    · obtain ⟨f, hf⟩ : ∃ f, fs[i]? = some f := ⟨_, List.getElem?_eq_getElem h1⟩
      have hil : i < (restTo ks fs i).length := by rw [HLen.out]; exact h1
      obtain ⟨p, hp, hpe⟩ := hR.get hil
      obtain ⟨ad, c, ha⟩ := hR.at hil
      have hpf : p.1 = f := by
        have h2 : (restTo ks fs i)[i]? = some p.1 := hpe
        rw [HGe.out i i (Nat.le_refl i), hf] at h2
        injection h2 with h2
        exact h2.symm
      subst hpf
      obtain ⟨hsz, hs0, hs1⟩ := HSz.out p.1 (List.mem_of_getElem? hf)
      obtain ⟨s, hs⟩ : ∃ s : Nat, p.1.f2 = s := ⟨p.1.f2.toNat, by omega⟩
      have hv := ha.v
      have hfl : (restTo ks fs i).length = fs.length := HLen.out i
      rw [show ({ fs := restTo ks fs i, down := true, units := -1, after := 0, calls := 0 } : Dk).fs.length = fs.length from hfl] at hv ha
      subst hv
      obtain ⟨Ab, cb, hbv, hbc, hbr, hbl⟩ := (hR.list.rows p (List.mem_of_getElem? hp)).reads
      have c0 : wr.cell? ⟨g, 0, none⟩ = some (.slice (some ad) fs.length c) := (blk_cell hR.blk 0).trans rfl
      have ha2 : LAt b wr col' g (.slice (some ad) fs.length c) ({ fs := restTo ks fs i, down := true, units := -1, after := 0, calls := 0 } : Dk).fs.length ad c := by show LAt b wr col' g _ (restTo ks fs i).length ad c; rw [hfl]; exact ha
      obtain ⟨x0, x1, x2, x3, x4⟩ := hR.cells ha2 hp
      rw [hbv] at x1
      rw [hs] at x2
      have k1 : (i : Int) < (fs.length : Int) := by omega
      have k2 : (0 : Int) ≤ (i : Int) := by omega
      obtain ⟨K, hK⟩ : ∃ K, K = keepN ks i p.1 := ⟨_, rfl⟩
      have hX := HX0.out.ch hc (fun _ h => h)
      by_cases hk0 : ks.length = 0
      · have kk0 : decide ((0 : Int) < (ks.length : Int)) = false := decide_eq_false (by omega)
        have kk1 : decide (0 < ks.length) = false := decide_eq_false (by omega)
        have hK0 : K = 0 := by rw [hK]; unfold keepN keepAt; rw [if_pos hk0]; omega
        obtain ⟨D, hD⟩ : ∃ D : Int, D = (p.1.f1.length : Int) - (s : Int) := ⟨_, rfl⟩
        have HKD : Aside0 (wrap64 ((p.1.f1.length : Int) - (s : Int)) = D) := ⟨by rw [hD]; exact PA.wr (by omega) (by omega)⟩
        have kd1 : decide (D < 0) = false := decide_eq_false (by omega)
        have kd2 : (0 : Int) ≤ D := by omega
        have HK3 : Aside0 (wrap64 ((i : Int) + 1) = ((i : Int) + 1)) := ⟨PA.wr (by omega) (by omega)⟩
        have H1 := Aside0.mk (Nat.succ_le_of_lt h1)
        have HEQ := Aside0.mk (congrArg (Value.int .i64) (show wrap64 ((i : Int) + 1) = ((i + 1 : Nat) : Int) from HK3.out))
        have HMS := Aside0.mk (meas_lt h1 HK3.out)
        have HEQ2 := Aside0.mk (show Value.int .i64 ((i : Int) + 1) = Value.int .i64 ((i + 1 : Nat) : Int) from rfl)
        have HMS2 := Aside0.mk (meas_lt2 h1)
        have hKle : s + K ≤ p.1.f1.length := by have := keepN_le ks i p.1 hs0 hs1; rw [hK]; rw [hs] at this; exact this
        obtain ⟨M, hM⟩ : ∃ M, M = s + K := ⟨_, rfl⟩
        obtain ⟨ys, hys⟩ : ∃ ys, ys = p.1.f1.take M := ⟨_, rfl⟩
        have HYS := Aside0.mk hys
        have HYL : Aside0 (ys.length = M) := ⟨by rw [hys, List.length_take]; omega⟩
        have HM1 : Aside0 (M ≤ 140737488355328) := ⟨by omega⟩
        have HM2 : Aside0 (M ≤ p.1.f1.length) := ⟨by omega⟩
        have HM3 : Aside0 ((0 : Int) ≤ (M : Int)) := ⟨by omega⟩
        have HM4 : Aside0 ((M : Int) ≤ (cb : Int)) := ⟨by omega⟩
        have HM5 : Aside0 (M ≤ cb) := ⟨by omega⟩
        have HM6 : Aside0 (wrap64 (M : Int) = (M : Int)) := ⟨PA.wr (by omega) (by omega)⟩
        have HNx : Aside0 ((restTo ks fs i).set i { ({ p.1 with f1 := ys } : Fl) with f2 := (M : Int) } = restTo ks fs (i + 1)) := ⟨by
          rw [HSuc.out i p.1 hf]
          unfold restF
          rw [← hK, hs, Int.toNat_natCast, ← hM, hys]⟩
        have HA2 := Aside0.mk ha2
        have HPp := Aside0.mk hp
        have HCc := Aside0.mk hc
        have HR := Aside0.mk hR
        have HAG : Aside0 (ad.block ≠ g) := ⟨fun e => by have := ha2.tag; rw [e, hR.tag] at this; cases this⟩
        have HXa : Aside0 (ad.block ≠ wr.heap.size) := ⟨fun e => by have := ha2.lt; omega⟩
        have HKW : Aside0 (IntKind.i64.wrap ((s : Int) + 0) = (M : Int)) := ⟨by rw [hM, hK0]; exact IntWalk.i64_in _ (by omega)⟩
        have hSM : s = M := by omega
        clear hR ha ha2 hX hc hp hbr hbl hbc hil hpe hf hfl hk0 hK hM hys hKle hsz hs0 hs1 hs hK0 h1 hi
        subst hSM
        clear hD
        have kd := HKD.out
        go_upto_region 10 with fail
        obtain ⟨W1, hW1⟩ : ∃ W1, W1 = wr.alloc (.cells #[.string p.1.f0, .slice Ab p.1.f1.length cb, .int .i64 s] 74) := ⟨_, rfl⟩
        rw [← hW1]
        obtain ⟨HR3, HA3, y0, y1, y2, c0', hN⟩ := trim_box HR.out HA2.out hW1
        have hNl := Aside0.mk (show wr.heap.size < W1.heap.size by omega)
        clear hW1 x0 x1 x2 x3 x4 c0 hN
        have HCP : Aside0 (Calls Try.prog 36 #[.slice Ab s cb] W1.drew fun e w' => NewB W1.drew w' e ys) := ⟨by
          have hrd := (HR3.out.1.list.rows p (List.mem_of_getElem? HPp.out)).reads
          obtain ⟨Ab', cb', e1, _, hr, _⟩ := hrd
          rw [hbv] at e1
          injection e1 with e1
          subst e1
          have := copied_calls Ab cb ys W1.drew (by rw [HYL.out]; exact HM1.out) (by rw [HYS.out]; exact reads_take hr s HM2.out)
          rwa [HYL.out] at this⟩
        have HK : Aside0 (∀ w3, Below W1.drew.heap.size W1.drew w3 → _) := ⟨fun w3 hb => mid_cells (gx := wr.heap.size) HR3.out.1 HA3.out HPp.out (((Drawn0.refl W1).step 1).below.trans hb) hNl.out HXa.out HAG.out⟩
        have HM : Aside0 (∀ w3, Below W1.drew.heap.size W1.drew w3 → ∀ v3 : Value, _ → _) := ⟨fun w3 hb v3 ho => mid_data (xs := ys) (v3 := v3) HR3.out.1 HA3.out HPp.out (((Drawn0.refl W1).step 1).below.trans hb) ho⟩
        have HY1 := Aside0.mk y1
        have HY2 := Aside0.mk y2
        have kw := HKW.out
        have kw2 : IntKind.i64.wrap (s : Int) = (s : Int) := by simpa using kw
        have kw4 : s ≤ cb := HM5.out
        have kw5 : wrap64 (s : Int) = (s : Int) := HM6.out
        have kw0 := HM3.out
        have kw1 := HM4.out
        go_region_held3 (fun w' => w'.cell? ⟨g, 0, none⟩ = some (.slice (some ad) fs.length c) ∧ w'.cell? ⟨wr.heap.size, 1, none⟩ = some (.slice Ab p.1.f1.length cb) ∧ w'.cell? ⟨wr.heap.size, 2, none⟩ = some (.int .i64 s)) (first | go_keep | exact ⟨c0', HY1.out, HY2.out⟩ | exact ⟨s1, (s2 1).trans HY1.out, (s2 2).trans HY2.out⟩ | exact ⟨(s5 _).1, ((s5 _).2 1).trans HY1.out, ((s5 _).2 2).trans HY2.out⟩)
          (first | (go_at_call 36; refine Calls.mono HCP.out ?_; rintro e w3 ⟨v3, rfl, ho, hb⟩; obtain ⟨s1, s2, s3, s4, s5⟩ := HK.out w3 hb; obtain ⟨A3, C3, rfl, _⟩ := own_form ho; have HO3 := Aside0.mk (HM.out w3 hb _ ho); have HS := Aside0.mk s5; clear ho hb))
        have z6 := ((HS.out (.slice A3 ys.length C3)).2 2).trans HY2.out
        obtain ⟨col4, L4, hR4, hp4, ha4, hc4⟩ := HO3.out
        have ha4' : LAt b (w3.setCell ⟨(ad.add (i * 3)).block, (ad.add (i * 3)).off + 1, none⟩ (.slice A3 ys.length C3)) col4 g (.slice (some ad) fs.length c) (((restTo ks fs i).set i { p.1 with f1 := ys }).length) ad c := by rw [List.length_set]; exact ha4
        obtain ⟨z0, z1, z2, z3, z4⟩ := hR4.cells ha4' hp4
        have hg4 : (w3.setCell ⟨(ad.add (i * 3)).block, (ad.add (i * 3)).off + 1, none⟩ (.slice A3 ys.length C3)).cell? ⟨g, 0, none⟩ = some (.slice (some ad) fs.length c) := (blk_cell hR4.blk 0).trans rfl
        have HR4 := Aside0.mk hR4
        have HP4 := Aside0.mk hp4
        have HA4 := Aside0.mk ha4'
        have HC4 := Aside0.mk hc4
        clear hR4 hp4 ha4 ha4' hc4 s1 s2 s3 s4 s5 HS HO3 HM HK y0 y1 y2 c0'
        generalize (w3.setCell ⟨(ad.add (i * 3)).block, (ad.add (i * 3)).off + 1, none⟩ (.slice A3 ys.length C3)) = W4 at *
        go_wp2
        go_region
        go_wp2
        have hE := HR4.out.sync HA4.out HP4.out (s : Int)
        have hR6 := hE.1.ch (Ch.of_below (S := fun _ => False) ((Drawn0.refl _).step 1).below (Nat.le_trans hE.1.le (Nat.le_of_lt (blk_lt hE.1.blk)))) (fun _ _ h => h)
        have hc6 := (((HCc.out.trans HR3.out.2).trans HC4.out).trans (hE.2.mono fun r h => h ▸ trivial)).trans (Ch.of_below (S := isR) ((Drawn0.refl _).step 1).below hE.2.le')
        have hE6 : ((restTo ks fs i).set i ({ p.1 with f1 := ys } : Fl)).set i ({ ({ p.1 with f1 := ys } : Fl) with f2 := (s : Int) } : Fl) = restTo ks fs (i + 1) := by rw [List.set_set]; exact HNx.out
        exact ⟨⟨i + 1, col4, _, _, H1.out, by first | exact HEQ.out | exact HEQ2.out, by rw [← hE6]; exact hR6, hc6⟩, by first | exact HMS.out | exact HMS2.out⟩
      · have hkp : 0 < ks.length := by omega
        have kk0 : (0 : Int) < (ks.length : Int) := by omega
        obtain ⟨ka, rfl, xk0⟩ := hX.at hk0 i
        obtain ⟨kp, hkpe⟩ : ∃ kp, kp = keepAt ks i := ⟨_, rfl⟩
        rw [← hkpe] at xk0
        have xk : ∀ o, (wr.alloc o).cell? (ka.add (i % ks.length)) = some (.int .i64 kp) := fun o => ((below_alloc (Below.refl _ _) o).cell (World.block_lt_of_cell? _ _ xk0)).trans xk0
        have km1 : (0 : Int) ≤ ((i % ks.length : Nat) : Int) := by omega
        have km2 : ((i % ks.length : Nat) : Int) < (ks.length : Int) := by have := Nat.mod_lt i hkp; omega
        obtain ⟨D, hD⟩ : ∃ D : Int, D = (p.1.f1.length : Int) - (s : Int) := ⟨_, rfl⟩
        have HKD : Aside0 (wrap64 ((p.1.f1.length : Int) - (s : Int)) = D) := ⟨by rw [hD]; exact PA.wr (by omega) (by omega)⟩
        have kd1 : decide (D < 0) = false := decide_eq_false (by omega)
        have kd2 : (0 : Int) ≤ D := by omega
        have HK3 : Aside0 (wrap64 ((i : Int) + 1) = ((i : Int) + 1)) := ⟨PA.wr (by omega) (by omega)⟩
        have H1 := Aside0.mk (Nat.succ_le_of_lt h1)
        have HEQ := Aside0.mk (congrArg (Value.int .i64) (show wrap64 ((i : Int) + 1) = ((i + 1 : Nat) : Int) from HK3.out))
        have HMS := Aside0.mk (meas_lt h1 HK3.out)
        have HEQ2 := Aside0.mk (show Value.int .i64 ((i : Int) + 1) = Value.int .i64 ((i + 1 : Nat) : Int) from rfl)
        have HMS2 := Aside0.mk (meas_lt2 h1)
        have hKle : s + K ≤ p.1.f1.length := by have := keepN_le ks i p.1 hs0 hs1; rw [hK]; rw [hs] at this; exact this
        obtain ⟨M, hM⟩ : ∃ M, M = s + K := ⟨_, rfl⟩
        obtain ⟨ys, hys⟩ : ∃ ys, ys = p.1.f1.take M := ⟨_, rfl⟩
        have HYS := Aside0.mk hys
        have HYL : Aside0 (ys.length = M) := ⟨by rw [hys, List.length_take]; omega⟩
        have HM1 : Aside0 (M ≤ 140737488355328) := ⟨by omega⟩
        have HM2 : Aside0 (M ≤ p.1.f1.length) := ⟨by omega⟩
        have HM3 : Aside0 ((0 : Int) ≤ (M : Int)) := ⟨by omega⟩
        have HM4 : Aside0 ((M : Int) ≤ (cb : Int)) := ⟨by omega⟩
        have HM5 : Aside0 (M ≤ cb) := ⟨by omega⟩
        have HM6 : Aside0 (wrap64 (M : Int) = (M : Int)) := ⟨PA.wr (by omega) (by omega)⟩
        have HNx : Aside0 ((restTo ks fs i).set i { ({ p.1 with f1 := ys } : Fl) with f2 := (M : Int) } = restTo ks fs (i + 1)) := ⟨by
          rw [HSuc.out i p.1 hf]
          unfold restF
          rw [← hK, hs, Int.toNat_natCast, ← hM, hys]⟩
        have HA2 := Aside0.mk ha2
        have HPp := Aside0.mk hp
        have HCc := Aside0.mk hc
        have HR := Aside0.mk hR
        have HAG : Aside0 (ad.block ≠ g) := ⟨fun e => by have := ha2.tag; rw [e, hR.tag] at this; cases this⟩
        have HXa : Aside0 (ad.block ≠ wr.heap.size) := ⟨fun e => by have := ha2.lt; omega⟩
        have HKW : Aside0 (IntKind.i64.wrap ((s : Int) + (K : Int)) = (M : Int)) := ⟨by rw [hM]; exact IntWalk.i64_in _ (by omega)⟩
        have HKI : Aside0 ((if D < (if kp < 0 then 0 else kp) then D else if kp < 0 then 0 else kp) = (K : Int)) := ⟨by rw [hK, hD]; unfold keepN; rw [hs, ← hkpe]; split <;> split <;> omega⟩
        have HMD : Aside0 (Int.tmod (i : Int) (ks.length : Int) = ((i % ks.length : Nat) : Int)) := ⟨(Int.ofNat_tmod i ks.length).symm⟩
        clear hR ha ha2 hX hc hp hbr hbl hbc hil hpe hf hfl hk0 hK hM hys hKle hsz hs0 hs1 hs h1 hi
        clear hD hkpe
        have kmd := HMD.out
        have kd := HKD.out
        go_upto_region 10 with fail
        rw [HKI.out]
        clear HKI
        generalize (if kp < 0 then (0 : Int) else kp) = kq
        obtain ⟨W1, hW1⟩ : ∃ W1, W1 = wr.alloc (.cells #[.string p.1.f0, .slice Ab p.1.f1.length cb, .int .i64 s] 74) := ⟨_, rfl⟩
        rw [← hW1]
        obtain ⟨HR3, HA3, y0, y1, y2, c0', hN⟩ := trim_box HR.out HA2.out hW1
        have hNl := Aside0.mk (show wr.heap.size < W1.heap.size by omega)
        clear hW1 x0 x1 x2 x3 x4 c0 hN
        have HCP : Aside0 (Calls Try.prog 36 #[.slice Ab M cb] W1.drew fun e w' => NewB W1.drew w' e ys) := ⟨by
          have hrd := (HR3.out.1.list.rows p (List.mem_of_getElem? HPp.out)).reads
          obtain ⟨Ab', cb', e1, _, hr, _⟩ := hrd
          rw [hbv] at e1
          injection e1 with e1
          subst e1
          have := copied_calls Ab cb ys W1.drew (by rw [HYL.out]; exact HM1.out) (by rw [HYS.out]; exact reads_take hr M HM2.out)
          rwa [HYL.out] at this⟩
        have HK : Aside0 (∀ w3, Below W1.drew.heap.size W1.drew w3 → _) := ⟨fun w3 hb => mid_cells (gx := wr.heap.size) HR3.out.1 HA3.out HPp.out (((Drawn0.refl W1).step 1).below.trans hb) hNl.out HXa.out HAG.out⟩
        have HM : Aside0 (∀ w3, Below W1.drew.heap.size W1.drew w3 → ∀ v3 : Value, _ → _) := ⟨fun w3 hb v3 ho => mid_data (xs := ys) (v3 := v3) HR3.out.1 HA3.out HPp.out (((Drawn0.refl W1).step 1).below.trans hb) ho⟩
        have HY1 := Aside0.mk y1
        have HY2 := Aside0.mk y2
        have kw := HKW.out
        have kw0 := HM3.out
        have kw1 := HM4.out
        go_region_held3 (fun w' => w'.cell? ⟨g, 0, none⟩ = some (.slice (some ad) fs.length c) ∧ w'.cell? ⟨wr.heap.size, 1, none⟩ = some (.slice Ab p.1.f1.length cb) ∧ w'.cell? ⟨wr.heap.size, 2, none⟩ = some (.int .i64 s)) (first | go_keep | exact ⟨c0', HY1.out, HY2.out⟩ | exact ⟨s1, (s2 1).trans HY1.out, (s2 2).trans HY2.out⟩ | exact ⟨(s5 _).1, ((s5 _).2 1).trans HY1.out, ((s5 _).2 2).trans HY2.out⟩)
          (first | (go_at_call 36; refine Calls.mono HCP.out ?_; rintro e w3 ⟨v3, rfl, ho, hb⟩; obtain ⟨s1, s2, s3, s4, s5⟩ := HK.out w3 hb; obtain ⟨A3, C3, rfl, _⟩ := own_form ho; have HO3 := Aside0.mk (HM.out w3 hb _ ho); have HS := Aside0.mk s5; clear ho hb))
        have z6 := ((HS.out (.slice A3 ys.length C3)).2 2).trans HY2.out
        obtain ⟨col4, L4, hR4, hp4, ha4, hc4⟩ := HO3.out
        have ha4' : LAt b (w3.setCell ⟨(ad.add (i * 3)).block, (ad.add (i * 3)).off + 1, none⟩ (.slice A3 ys.length C3)) col4 g (.slice (some ad) fs.length c) (((restTo ks fs i).set i { p.1 with f1 := ys }).length) ad c := by rw [List.length_set]; exact ha4
        obtain ⟨z0, z1, z2, z3, z4⟩ := hR4.cells ha4' hp4
        have hg4 : (w3.setCell ⟨(ad.add (i * 3)).block, (ad.add (i * 3)).off + 1, none⟩ (.slice A3 ys.length C3)).cell? ⟨g, 0, none⟩ = some (.slice (some ad) fs.length c) := (blk_cell hR4.blk 0).trans rfl
        have HR4 := Aside0.mk hR4
        have HP4 := Aside0.mk hp4
        have HA4 := Aside0.mk ha4'
        have HC4 := Aside0.mk hc4
        clear hR4 hp4 ha4 ha4' hc4 s1 s2 s3 s4 s5 HS HO3 HM HK y0 y1 y2 c0'
        generalize (w3.setCell ⟨(ad.add (i * 3)).block, (ad.add (i * 3)).off + 1, none⟩ (.slice A3 ys.length C3)) = W4 at *
        go_wp2
        go_region
        go_wp2
        have hE := HR4.out.sync HA4.out HP4.out (M : Int)
        have hR6 := hE.1.ch (Ch.of_below (S := fun _ => False) ((Drawn0.refl _).step 1).below (Nat.le_trans hE.1.le (Nat.le_of_lt (blk_lt hE.1.blk)))) (fun _ _ h => h)
        have hc6 := (((HCc.out.trans HR3.out.2).trans HC4.out).trans (hE.2.mono fun r h => h ▸ trivial)).trans (Ch.of_below (S := isR) ((Drawn0.refl _).step 1).below hE.2.le')
        have hE6 : ((restTo ks fs i).set i ({ p.1 with f1 := ys } : Fl)).set i ({ ({ p.1 with f1 := ys } : Fl) with f2 := (M : Int) } : Fl) = restTo ks fs (i + 1) := by rw [List.set_set]; exact HNx.out
        exact ⟨⟨i + 1, col4, _, _, H1.out, by first | exact HEQ.out | exact HEQ2.out, by rw [← hE6]; exact hR6, hc6⟩, by first | exact HMS.out | exact HMS2.out⟩
    · have k5 : decide (i < fs.length) = false := decide_eq_false h1
      have k6 : decide ((i : Int) < (fs.length : Int)) = false := decide_eq_false (by omega)
      have hin : i = fs.length := by omega
      have hfl : (restTo ks fs i).length = fs.length := HLen.out i
      obtain ⟨A, c, hv, hnc, _⟩ := hR.list.reads
      subst hv
      have c0 : wr.cell? ⟨g, 0, none⟩ = some (.slice A fs.length c) := by rw [← hfl]; exact (blk_cell hR.blk 0).trans rfl
      have c1 : wr.cell? ⟨g, 1, none⟩ = some (.bool true) := (blk_cell hR.blk 1).trans rfl
      have c2 := blk_frozen hR.blk 1
      have HFin : Aside0 (RPost b w col g dr (wr.setCell ⟨g, 1, none⟩ (.bool false))) := ⟨by
        have hs : Ch b wr col' (wr.setCell ⟨g, 1, none⟩ (.bool false)) col' (fun r => r = .rd) := hR.tag ▸ Ch.one_set hc.le' hR.le 1 _
        rw [HRest.out, ← hin]
        exact ⟨col', hc.trans (hs.mono fun r h => h ▸ trivial), _, L', blk_to hR.blk (by simp), hR.tag, hR.le, hR.list.ch hs (fun e => by cases e) (fun e => by cases e)⟩⟩
      clear h1 hi hR hc hfl hnc
      go_wp2
      go_end0
      exact ⟨rfl, HFin.out⟩
end Go.Proofs.Ytmpgldggjjmkmaa.PA
end
