/- Several texts of this claim in one, each in a section of its own; what nothing reaches is left out. Conditions: each law's own. -/
import Derived.Test.YthneomomhoilkaaDoorMN
import Derived.Test.YthneomomhoilkaaDoorMDkOks
import Derived.Test.YthneomomhoilkaaDoorML
import Derived.Test.YthneomomhoilkaaDoorMP
set_option linter.unusedVariables false
set_option linter.unusedSimpArgs false
set_option linter.unusedSectionVars false
section
namespace Go.Proofs.YthneomomhoilkaaDoor.PA
open Go.RowKit Go.Maps Go.Proofs.YthneomomhoilkaaDoorW.PrintWords Go.Proofs.YthneomomhoilkaaDoorW.PrintLast Go.Proofs.YthneomomhoilkaaDoorW.PrintMore Go.Proofs.YthneomomhoilkaaDoor.Dw
def BytD (d : Dk) : Prop := ∀ f ∈ d.fs, Byt f.f1
def Dk.lay (d : Dk) (nm : ByteArray) (xs : List Int) : Int × Dk :=
  if (d.app nm xs).1 ≠ 0 then d.app nm xs else (((d.app nm xs).2.chg nm).1, (d.app nm xs).2.doF nm syncF)
def Dk.clear (jg : Nat) : List ByteArray → Dk → Int × Dk
  | [], d => (0, d)
  | n :: r, d => if 0 < genS n ∧ genS n ≠ jg then (if (d.chg n).1 ≠ 0 then ((d.chg n).1, d.rem n) else Dk.clear jg r (d.rem n)) else Dk.clear jg r d
def Dk.mend1 (d : Dk) (j : Fnd) : Int × Dk := if 0 < j.gen ∧ j.size < j.all then ((d.chg (nameS j.gen)).1, d.doF (nameS j.gen) (trimF j.size)) else (0, d)
def Dk.mend2 (d : Dk) (j : Fnd) : Int × Dk := if 0 < j.gen ∧ j.sure < j.size then ((d.chg (nameS j.gen)).1, d.doF (nameS j.gen) syncF) else (0, d)
def Dk.mend (d : Dk) (j : Fnd) : Int × Dk :=
  if (d.mend1 j).1 ≠ 0 then d.mend1 j else
  if ((d.mend1 j).2.mend2 j).1 ≠ 0 then (d.mend1 j).2.mend2 j else
  Dk.clear j.gen (((d.mend1 j).2.mend2 j).2.fs.map (·.f0)) ((d.mend1 j).2.mend2 j).2
structure Opn where
  err : Int
  gen : Nat
  summary : List Int
  recs : List Rec
  disk : Dk
def Dk.opn (d : Dk) (sum : Nat) : Opn :=
  if d.down = true then ⟨190, 0, [], [], d⟩ else
  let j := seekS d.fs
  if 0 < j.gen ∧ j.sum ≠ sum then ⟨198, 0, [], [], d⟩ else
  if (d.mend j).1 ≠ 0 then ⟨(d.mend j).1, 0, [], [], (d.mend j).2⟩ else
  if j.gen = 0 then
    (if ((d.mend j).2.lay (nameS 1) (pieceS 0 sum 0 [])).1 ≠ 0 then ⟨((d.mend j).2.lay (nameS 1) (pieceS 0 sum 0 [])).1, 0, [], [], ((d.mend j).2.lay (nameS 1) (pieceS 0 sum 0 [])).2⟩
     else ⟨0, 1, j.summary, j.recs, ((d.mend j).2.lay (nameS 1) (pieceS 0 sum 0 [])).2⟩)
  else ⟨0, j.gen, j.summary, j.recs, (d.mend j).2⟩
structure Dr where
  sum : Nat
  gen : Nat
  len : Nat
  stuck : Bool
def Dr.put (q : Dr) (d : Dk) (kind : Int) (body : List Int) : Int × Dr × Dk :=
  if q.stuck = true then (196, q, d) else
  if 1048576 < body.length then (197, q, d) else
  if (d.lay (nameS q.gen) (pieceS (q.len + 1) q.sum kind body)).1 ≠ 0 then ((d.lay (nameS q.gen) (pieceS (q.len + 1) q.sum kind body)).1, { q with stuck := true }, (d.lay (nameS q.gen) (pieceS (q.len + 1) q.sum kind body)).2)
  else (0, { q with len := q.len + 1, stuck := false }, (d.lay (nameS q.gen) (pieceS (q.len + 1) q.sum kind body)).2)
theorem BytD.of_fs {d e : Dk} (h : BytD d) (hf : e.fs = d.fs) : BytD e := fun f hm => h f (by rw [← hf]; exact hm)
theorem BytD.set {fs : List Fl} (h : ∀ f ∈ fs, Byt f.f1) (nm : ByteArray) {f : Fl} (hf : Byt f.f1) : ∀ x ∈ setF fs nm f, Byt x.f1 := fun x hx => by
  unfold setF at hx
  rcases List.mem_or_eq_of_mem_set hx with h1 | rfl
  · exact h x h1
  · exact hf
theorem byt_nil : Byt [] := fun x hx => by cases hx
theorem byt_get {fs : List Fl} (h : ∀ f ∈ fs, Byt f.f1) (nm : ByteArray) : Byt (getF fs nm).f1 := by
  unfold getF
  rw [List.getD_eq_getElem?_getD]
  rcases e : fs[place fs nm]? with _ | f
  · exact byt_nil
  · exact h f (List.mem_of_getElem? e)
theorem BytD.doF {d : Dk} (h : BytD d) (nm : ByteArray) {k : Fl → Fl} (hk : ∀ f, Byt f.f1 → Byt (k f).f1) : BytD (d.doF nm k) := by
  unfold Dk.doF
  split
  · exact BytD.set h nm (hk _ (byt_get h nm))
  · exact h.of_fs (chg_fs d nm)
theorem BytD.rem {d : Dk} (h : BytD d) (nm : ByteArray) : BytD (d.rem nm) := by
  unfold Dk.rem
  split
  · intro f hf
    have hf : f ∈ remF d.fs nm := hf
    unfold remF at hf
    rcases List.mem_append.1 hf with hf | hf
    · exact h f (List.mem_of_mem_take hf)
    · exact h f (List.mem_of_mem_drop hf)
  · exact h.of_fs (chg_fs d nm)
theorem BytD.have {d : Dk} (h : BytD d) (nm : ByteArray) : ∀ f ∈ d.have nm, Byt f.f1 := fun f hf => by
  unfold Dk.have at hf
  split at hf
  · exact h f hf
  · rcases addF_mem.1 hf with rfl | hf
    · exact byt_nil
    · exact h f hf
theorem BytD.app {d : Dk} (h : BytD d) (nm : ByteArray) {xs : List Int} (hx : Byt xs) : BytD (d.app nm xs).2 := by
  unfold Dk.app
  split
  · exact h
  · split
    · exact h
    · split
      · exact BytD.set (h.have nm) nm (byt_append.2 ⟨byt_get (h.have nm) nm, hx⟩)
      · exact BytD.set (h.have nm) nm (byt_append.2 ⟨byt_get (h.have nm) nm, hx.take _⟩)
theorem byt_sync (f : Fl) (h : Byt f.f1) : Byt (syncF f).f1 := h
theorem byt_trim (z : Int) (f : Fl) (h : Byt f.f1) : Byt (trimF z f).f1 := h.take _
structure Dk.Good (d : Dk) : Prop where
  ok : d.Ok
  byt : BytD d
theorem Dk.Good.lay {d : Dk} (h : d.Good) (nm : ByteArray) {xs : List Int} (hx : Byt xs) : (d.lay nm xs).2.Good := by
  unfold Dk.lay
  split
  · exact ⟨h.ok.app nm xs, h.byt.app nm hx⟩
  · exact ⟨(h.ok.app nm xs).doF nm (fun _ => rfl) good_sync, (h.byt.app nm hx).doF nm byt_sync⟩
theorem Dk.Good.rem {d : Dk} (h : d.Good) (nm : ByteArray) : (d.rem nm).Good := ⟨h.ok.rem nm, h.byt.rem nm⟩
theorem Dk.Good.clear (jg : Nat) : ∀ (l : List ByteArray) {d : Dk}, d.Good → (Dk.clear jg l d).2.Good
  | [], d, h => h
  | n :: r, d, h => by
    unfold Dk.clear
    split
    · split
      · exact h.rem n
      · exact Dk.Good.clear jg r (h.rem n)
    · exact Dk.Good.clear jg r h
theorem Dk.Good.mend1 {d : Dk} (h : d.Good) (j : Fnd) : (d.mend1 j).2.Good := by
  unfold Dk.mend1
  split
  · exact ⟨h.ok.doF _ (fun _ => rfl) (good_trim _), h.byt.doF _ (byt_trim _)⟩
  · exact h
theorem Dk.Good.mend2 {d : Dk} (h : d.Good) (j : Fnd) : (d.mend2 j).2.Good := by
  unfold Dk.mend2
  split
  · exact ⟨h.ok.doF _ (fun _ => rfl) good_sync, h.byt.doF _ byt_sync⟩
  · exact h
theorem Dk.Good.mend {d : Dk} (h : d.Good) (j : Fnd) : (d.mend j).2.Good := by
  unfold Dk.mend
  split
  · exact h.mend1 j
  · split
    · exact (h.mend1 j).mend2 j
    · exact ((h.mend1 j).mend2 j).clear _ _
theorem Dk.Good.opn {d : Dk} (h : d.Good) (sum : Nat) : (d.opn sum).disk.Good := by
  have hp : Byt (pieceS 0 sum 0 []) := pieceS_byt ⟨by omega, by omega⟩ byt_nil
  unfold Dk.opn
  split
  · exact h
  · dsimp only
    split
    · exact h
    · split
      · exact h.mend _
      · split
        · split
          · exact (h.mend _).lay _ hp
          · exact (h.mend _).lay _ hp
        · exact h.mend _
structure DA (b : Nat) (W : World) (col : RCol) (g : Nat) (d : Dk) : Prop where
  pd : PD b W col g d
  good : d.Good
  vp : VP b W
def APost (b : Nat) (w : World) (col : RCol) (g : Nat) (d : Dk) (w' : World) : Prop := ∃ col', Ch b w col w' col' isP ∧ DA b w' col' g d
section
variable {b g : Nat} {w w' w2 : World} {col col' : RCol} {d d' : Dk}
theorem DA.le (h : DA b w col g d) : b ≤ w.heap.size := by obtain ⟨m, gb, ar, u, h⟩ := h.pd; exact h.base
theorem DA.ch (h : DA b w col g d) {S : Role → Prop} (c : Ch b w col w' col' S) (hS : ∀ r, isP r → ¬ S r) : DA b w' col' g d := ⟨h.pd.ch c hS, h.good, h.vp.below c.below⟩
theorem DA.below (h : DA b w col g d) (hb : Below w.heap.size w w') : DA b w' col g d := h.ch (Ch.of_below (S := fun _ => False) hb h.le) (fun _ _ h => h)
theorem DA.post (h : DA b w col g d) (p : PPost b w col g d' w') (hg : d'.Good) : APost b w col g d' w' := by
  obtain ⟨col', h1, h2⟩ := p
  exact ⟨col', h1, h2, hg, h.vp.below h1.below⟩
theorem APost.trans (c : Ch b w col w' col' isP) (p : APost b w' col' g d w2) : APost b w col g d w2 := by
  obtain ⟨col2, h1, h2⟩ := p
  exact ⟨col2, c.trans h1, h2⟩
theorem good_app (h : d.Good) (nm : ByteArray) {xs : List Int} (hx : Byt xs) : (d.app nm xs).2.Good := ⟨h.ok.app nm xs, h.byt.app nm hx⟩
theorem good_sync' (h : d.Good) (nm : ByteArray) : (d.doF nm syncF).Good := ⟨h.ok.doF nm (fun _ => rfl) good_sync, h.byt.doF nm byt_sync⟩
theorem good_trim' (h : d.Good) (nm : ByteArray) (z : Int) : (d.doF nm (trimF z)).Good := ⟨h.ok.doF nm (fun _ => rfl) (good_trim z), h.byt.doF nm (byt_trim z)⟩
theorem append_a (h : DA b w col g d) (nm : ByteArray) (DA_ : Option Addr) (dc : Nat) (xs : List Int) (hs : nm.size ≤ 140737488355328) (hX : XRow w col isP DA_ xs) (hdc : xs.length ≤ dc) (hxl : xs.length ≤ 140737488355328) (hb : Byt xs) :
    Calls Tryd.prog 35 #[.pointer (some ⟨g, 0, none⟩), .string nm, .slice DA_ xs.length dc] w fun e w' => e = .returned (.int .i64 (d.app nm xs).1) ∧ APost b w col g (d.app nm xs).2 w' := by
  obtain ⟨m, gb, ar, u, hp⟩ := h.pd
  exact (pappend b g m d gb ar u col nm DA_ dc xs w hp h.good.ok hs hX hdc hxl).mono fun e w' ⟨h1, h2⟩ => ⟨h1, h.post h2 (good_app h.good nm hb)⟩
theorem sync_a (h : DA b w col g d) (nm : ByteArray) (hs : nm.size ≤ 140737488355328) :
    Calls Tryd.prog 36 #[.pointer (some ⟨g, 0, none⟩), .string nm] w fun e w' => e = .returned (.int .i64 (d.chg nm).1) ∧ APost b w col g (d.doF nm syncF) w' := by
  obtain ⟨m, gb, ar, u, hp⟩ := h.pd
  exact (psync b g m d gb ar u col nm w hp h.good.ok hs).mono fun e w' ⟨h1, h2⟩ => ⟨h1, h.post h2 (good_sync' h.good nm)⟩
theorem trim_a (h : DA b w col g d) (nm : ByteArray) (z : Int) (hs : nm.size ≤ 140737488355328) :
    Calls Tryd.prog 44 #[.pointer (some ⟨g, 0, none⟩), .string nm, .int .i64 z] w fun e w' => e = .returned (.int .i64 (d.chg nm).1) ∧ APost b w col g (d.doF nm (trimF z)) w' := by
  obtain ⟨m, gb, ar, u, hp⟩ := h.pd
  exact (ptrim b g m d gb ar u col nm z w hp h.good.ok hs).mono fun e w' ⟨h1, h2⟩ => ⟨h1, h.post h2 (good_trim' h.good nm z)⟩
theorem remove_a (h : DA b w col g d) (nm : ByteArray) (hs : nm.size ≤ 140737488355328) :
    Calls Tryd.prog 41 #[.pointer (some ⟨g, 0, none⟩), .string nm] w fun e w' => e = .returned (.int .i64 (d.chg nm).1) ∧ APost b w col g (d.rem nm) w' := by
  obtain ⟨m, gb, ar, u, hp⟩ := h.pd
  exact (premove b g m d gb ar u col nm w hp h.good.ok hs).mono fun e w' ⟨h1, h2⟩ => ⟨h1, h.post h2 (h.good.rem nm)⟩
theorem names_a (h : DA b w col g d) : Calls Tryd.prog 26 #[.pointer (some ⟨g, 0, none⟩)] w fun e w' => NmPost w w' e d.fs := by
  obtain ⟨m, gb, ar, u, hp⟩ := h.pd
  exact pnames b g m d gb ar u col w hp h.good.ok
set_option maxRecDepth 100000 in
set_option maxHeartbeats 4000000 in
theorem lay_calls (h : DA b w col g d) (nm : ByteArray) (A : Option Addr) (c : Nat) (xs : List Int) (hs : nm.size ≤ 140737488355328) (hX : XRow w col isP A xs) (hdc : xs.length ≤ c) (hxl : xs.length ≤ 140737488355328) (hb : Byt xs) :
    Calls Tryd.prog 23 #[.pointer (some ⟨g, 0, none⟩), .string nm, .slice A xs.length c] w fun e w' => e = .returned (.int .i64 (d.lay nm xs).1) ∧ APost b w col g (d.lay nm xs).2 w' := by
  have HA := Aside0.mk (append_a h nm A c xs hs hX hdc hxl hb)
  have HS := Aside0.mk hs
  obtain ⟨d1, hd1⟩ : ∃ d1, d1 = (d.app nm xs).2 := ⟨_, rfl⟩
  obtain ⟨e1, he1⟩ : ∃ e1, e1 = (d.app nm xs).1 := ⟨_, rfl⟩
  rw [← hd1, ← he1] at HA
  have HL : Aside0 (d.lay nm xs = if e1 ≠ 0 then (e1, d1) else ((d1.chg nm).1, d1.doF nm syncF)) := ⟨by
    unfold Dk.lay; rw [hd1, he1]⟩
  clear h hX hs hdc hxl hb hd1 he1
  by_cases h0 : e1 = 0
  · have HL2 : Aside0 (d.lay nm xs = ((d1.chg nm).1, d1.doF nm syncF)) := ⟨by rw [HL.out, if_neg (by simp [h0])]⟩
    have z1 : (e1 != 0) = false := by simp [h0]
    have z2 : decide (e1 = 0) = true := decide_eq_true h0
    clear HL h0
    go_enter Tryd.func23, Tryd.ntmps23
    go_wp2_with (first
      | (go_at_call 35; refine HA.out.mono ?_; rintro e w1 ⟨rfl, col1, hc1, hD1⟩; have HC1 := Aside0.mk hc1; have HD1 := Aside0.mk hD1; clear hc1 hD1)
      | (go_at_call 36; have q_ := HD1.out; clear q_; refine (sync_a HD1.out nm HS.out).mono ?_; rintro e w2 ⟨rfl, hp2⟩; have HP2 := Aside0.mk (APost.trans HC1.out hp2); clear hp2))
    go_ret
    rw [HL2.out]
    exact ⟨rfl, HP2.out⟩
  · have HL2 : Aside0 (d.lay nm xs = (e1, d1)) := ⟨by rw [HL.out, if_pos h0]⟩
    have z1 : (e1 != 0) = true := by simp [h0]
    have z2 : decide (e1 = 0) = false := decide_eq_false h0
    clear HL h0
    go_enter Tryd.func23, Tryd.ntmps23
    go_wp2_with (go_at_call 35; refine HA.out.mono ?_; rintro e w1 ⟨rfl, hp⟩; have HP := Aside0.mk hp; clear hp)
    go_ret
    rw [HL2.out]
    exact ⟨rfl, HP.out⟩
end
end Go.Proofs.YthneomomhoilkaaDoor.PA
end
section
namespace Go.Proofs.YthneomomhoilkaaDoor.PA
open Go.RowKit Go.Maps Go.Sort Go.Proofs.YthneomomhoilkaaDoorW.PrintWords Go.Proofs.YthneomomhoilkaaDoorW.PrintLast Go.Proofs.YthneomomhoilkaaDoorW.PrintMore Go.Proofs.YthneomomhoilkaaDoor.Dw
def FileAt (w : World) (gb : ByteArray → Nat) (m : Nat) (f : Fl) : Prop := ∃ A c, f.f1.length ≤ c ∧ f.f1.length ≤ 2097152 ∧ ∀ W, Below w.heap.size w W → W.cell? ⟨gb f.f0, 0, none⟩ = some (.slice A f.f1.length c) ∧ W.cell? ⟨gb f.f0, 1, none⟩ = some (.int .i64 f.f2) ∧ ReadsInt W .u8 A f.f1.length f.f1 ∧
      (Instr.lookup 71 (.map (some m)) (.string f.f0) false).run Tryd.prog W = .ok (.pointer (some ⟨gb f.f0, 0, none⟩)) W
theorem PDm.fileAt {b g m : Nat} {d : Dk} {gb : ByteArray → Nat} {ar : Bool} {u : Int} {col : RCol} {w : World} (hP : PDm b w col g d m gb ar u) (hd : d.Ok) {f : Fl} (hf : f ∈ d.fs) : FileAt w gb m f := by
  obtain ⟨v, hv, hrow⟩ := (hP.files f hf).ex
  obtain ⟨A, c, rfl, hc, hrd, hbl⟩ := hrow.reads
  obtain ⟨ht, hgf⟩ := there_of_mem hd.rises hf
  refine ⟨A, c, hc, (hd.size f hf).1, fun W h => ⟨(h.cell (p := ⟨gb f.f0, 0, none⟩) (blk_lt hv)).trans ((blk_cell hv 0).trans rfl), (h.cell (p := ⟨gb f.f0, 1, none⟩) (blk_lt hv)).trans ((blk_cell hv 1).trans rfl), hrd.below h, ?_⟩⟩
  have hnm : f.f0.size ≤ 140737488355328 := by have := hd.names f hf; exact nm_size this
  have := (hP.below h).look hd.rises f.f0 hnm
  rwa [if_pos ht] at this
set_option maxRecDepth 100000 in
set_option maxHeartbeats 8000000 in
theorem seek_calls (b g m : Nat) (d : Dk) (gb : ByteArray → Nat) (ar : Bool) (u : Int) (col : RCol) (w : World) (hP : PDm b w col g d m gb ar u) (hd : d.Ok) (hB : BytD d) (hV : VP b w) :
    Calls Tryd.prog 32 #[.pointer (some ⟨g, 0, none⟩)] w fun e w' => SeekPost w w' e (seekS d.fs) := by
  have HE : Aside0 (∀ f ∈ d.fs, FileAt w gb m f) := ⟨fun f hf => hP.fileAt hd hf⟩
  have HC : Aside0 (∀ W, Below w.heap.size w W → W.cell? ⟨g, 0, none⟩ = some (.map (some m))) := ⟨fun W h => (blk_cell (hP.below h).blk 0).trans rfl⟩
  have HM : Aside0 (∀ W, Below w.heap.size w W → W.ownsMap Tryd.prog 9 ptrE m d.fs.length (mapD d.fs gb)) := ⟨fun W h => (hP.below h).map⟩
  have HVP : Aside0 (∀ W, Below w.heap.size w W → VP w.heap.size W) := ⟨fun W h => (hV.mono hP.base).below h⟩
  have HR := Aside0.mk hd.rises
  have HBy : Aside0 (∀ f ∈ d.fs, Byt f.f1) := ⟨hB⟩
  obtain ⟨gr, hgr⟩ : ∃ gr, gr = w.heap.size := ⟨_, rfl⟩
  have HO : Aside0 (SkO m gr (gr + 1) (gr + 2)) := ⟨⟨by rw [hgr]; exact hP.map.lt, rfl, rfl⟩⟩
  clear hP hd hB hV
  generalize d.fs = fs at *
  obtain ⟨W2, hW2⟩ : ∃ W2, (w.alloc (.cells #[.int .i64 0, .int .u32 0, .slice none 0 0, .slice none 0 0, .int .i64 0, .int .i64 0, .int .i64 0] 81)).alloc (.cells #[.int .i64 0, .int .u32 0, .slice none 0 0, .slice none 0 0, .int .i64 0, .int .i64 0, .int .i64 0] 81) = W2 := ⟨_, rfl⟩
  have hb2 : Below gr w W2 := by rw [← hW2, hgr]; exact below_alloc (below_alloc (Below.refl _ _) _) _
  have hs2 : W2.heap.size = gr + 2 := by rw [← hW2, hgr]; simp
  have hr2 : W2.heap[gr]? = some (.cells zF 81 (0, 0)) := by
    rw [← hW2, hgr]
    exact ((below_alloc (Below.refl (w.alloc (.cells zF 81)).heap.size (w.alloc (.cells zF 81))) (.cells zF 81)).block w.heap.size (by simp)).trans (blk_new w _)
  have hj2 : W2.heap[gr + 1]? = some (.cells zF 81 (0, 0)) := by
    rw [← hW2, hgr]
    have := blk_new (w.alloc (.cells zF 81)) (.cells zF 81)
    rwa [show (w.alloc (.cells zF 81)).heap.size = w.heap.size + 1 by simp] at this
  have HW2 := Aside0.mk hW2
  have HB2 := Aside0.mk hb2
  have HS2 := Aside0.mk hs2
  have HR2 := Aside0.mk hr2
  have HJ2 := Aside0.mk hj2
  have HGR := Aside0.mk hgr
  have c0 := HC.out W2 (by rw [← hgr]; exact hb2)
  clear hW2 hb2 hs2 hr2 hj2 hgr
  go_enter Tryd.func32, Tryd.ntmps32
  go_upto_region 2 with fail
  rw [HW2.out, ← HGR.out]
  go_wp2_with (at_range; refine wpList_range_own _ rfl _ 71 rfl 9 70 lawS Tryd.underlying71 ptrE m fs.length (mapD fs gb) rfl (HM.out _ (by rw [← HGR.out]; exact HB2.out)) ?_; intro w0 hrg0 hg0 hs0; have HS0 := Aside0.mk (SkI.start HO.out HS2.out HR2.out HJ2.out HB2.out hrg0 hg0); clear hrg0 hg0 hs0)
  rw [HS2.out]
  go_frame
  go_loopw [] (fun wr => ∃ (left : Lit → Bool) (cnt : Nat) (ss : List (List UInt8)) (j : Fnd) (v : Value), SkI fs gb m gr (gr + 1) (gr + 2) w wr left cnt ss j v) (fun wr => wr.rangeLeft m (gr + 2))
  case atStart => exact ⟨_, _, [], Fnd.zero, _, HS0.out⟩
  case round =>
    obtain ⟨left, cnt, ss, j, v, hI⟩ := hrel
    have HI := Aside0.mk hI
    clear hI
    go_wp2_with (at_next; refine wpList_next_ranges _ rfl _ rfl 9 lawS ptrE encStr Value.pointer (fun key kl hk => by obtain ⟨x, hx, _⟩ := Maps.keyOf_str Tryd.underlying9 hk; exact ⟨x, hx⟩) (fun v y hv => by obtain ⟨p, hp, _⟩ := ptrE_inv hv; exact ⟨p, hp⟩) m (gr + 2) fs.length _ _ _ rfl HI.out.rg ?_ ?_)
    · intro hc0 hl0
      have hbw : Below w.heap.size w wr := by rw [← HGR.out]; exact HI.out.bel
      have hj : j = bestS fs := HI.out.last HR.out (HM.out wr hbw) hl0
      have HBw := Aside0.mk hbw
      have HJ := Aside0.mk hj
      clear hc0 hl0 hbw hj
      obtain ⟨Av, cv, rfl, hcv⟩ := own_form HI.out.row
      obtain ⟨k0, k1, k2, k3, k4, k5, k6, y0, y1, y2, y3, y4, y5, y6⟩ := boxF HI.out.blj
      obtain ⟨jI, hjI⟩ : ∃ jI : Int, jI = (j.gen : Nat) := ⟨_, rfl⟩
      rw [← hjI] at k0
      clear y0 y1 y2 y3 y4 y5 y6 hcv
      by_cases h0 : jI = 0
      · have e1 : (jI == 0) = true := by simp [h0]
        have e2 : decide (jI = 0) = true := decide_eq_true h0
        have HJI := Aside0.mk hjI
        have HH0 := Aside0.mk h0
        have hsk : seekS fs = j := by
          rw [HJ.out] at hjI ⊢
          unfold seekS
          exact if_pos (by omega)
        have HSk := Aside0.mk hsk
        obtain ⟨q0, q1, q2, q3, q4, q5, q6, p0, p1, p2, p3, p4, p5, p6⟩ := boxF HI.out.blr
        clear hjI h0 hsk
        go_wp2
        rw [HJI.out]
        obtain ⟨Wf, hWf⟩ : ∃ Wf, Wf = (((((((wr.setCell ⟨gr, 0, none⟩ (.int .i64 (j.gen : Nat))).setCell ⟨gr, 1, none⟩ (.int .u32 (j.sum : Nat))).setCell ⟨gr, 2, none⟩ (.slice Av j.summary.length cv)).setCell ⟨gr, 3, none⟩ (.slice none 0 0)).setCell ⟨gr, 4, none⟩ (.int .i64 (j.size : Nat))).setCell ⟨gr, 5, none⟩ (.int .i64 (j.all : Nat))).setCell ⟨gr, 6, none⟩ (.int .i64 j.sure)) := ⟨_, rfl⟩
        rw [← hWf]
        obtain ⟨hb, hg⟩ := box_put (k := j) (v' := .slice Av j.summary.length cv) (vr' := .slice none 0 0) HI.out.blr hWf
        refine bodyPost_ret (res_seek rfl hb) rfl ?_
        rw [HSk.out]
        exact ⟨_, _, [], rfl, own_lower (gb_own HI.out.row hg (fun e => by have := own_base HI.out.row _ e; omega)) (by have := HGR.out; omega), RcL.nil _ _, by rw [HI.out.rcs]; rfl, by rw [← HGR.out]; exact HI.out.bel.grown hg (Nat.le_of_lt (blk_lt HI.out.blr)) (fun k hk => by cases hk; omega)⟩
      · have e1 : (jI == 0) = false := by simp [h0]
        have e2 : decide (jI = 0) = false := decide_eq_false h0
        have hne : (bestS fs).gen ≠ 0 := by rw [← HJ.out]; omega
        obtain ⟨ht, hcf⟩ := best_file HR.out hne
        have hsk : seekS fs = j.got (scanS j.sum ((getF fs (nameS j.gen)).f1.length + 1) ((getF fs (nameS j.gen)).f1.drop j.size) 1) := by
          rw [HJ.out]
          unfold seekS
          exact if_neg hne
        rw [← HJ.out] at ht hcf
        obtain ⟨f, hfdef⟩ : ∃ f, f = getF fs (nameS j.gen) := ⟨_, rfl⟩
        have hf : f ∈ fs := by rw [hfdef]; exact there_mem ht
        have hfn : f.f0 = nameS j.gen := by rw [hfdef]; exact (there_get ht).2.2
        rw [← hfdef] at hcf hsk
        obtain ⟨s, r, sz, hws, hjeq⟩ := candF_inv hcf
        obtain ⟨A, c, hc, hsz, hall⟩ := HE.out f hf
        have hin := whole_inv (HBy.out f hf) hws
        have h18 : 18 ≤ f.f1.length := by
          obtain ⟨⟨rest, h1⟩, _⟩ := hin
          have := congrArg List.length h1
          rw [List.length_append, pieceS_len] at this
          omega
        have hjs : j.size = sz ∧ 18 ≤ sz ∧ sz ≤ f.f1.length := by
          obtain ⟨⟨rest, h1⟩, _, _, _, h5, _⟩ := hin
          have := congrArg List.length h1
          rw [List.length_append, pieceS_len] at this
          exact ⟨by rw [hjeq], by omega, by omega⟩
        obtain ⟨ad, rfl, _⟩ := (hall _ (Below.refl _ _)).2.2.1.2.2 (by omega)
        have hgen : j.gen < 100000000 := by rw [hjeq]; exact genS_lt _
        have HNa : Aside0 (∀ W, Below wr.heap.size wr W → Calls Tryd.prog 24 #[.int .i64 jI] W fun e w' => e = .returned (.string f.f0) ∧ Below W.heap.size W w') := ⟨fun W h => by
          rw [hfn, hjI]; exact name_calls j.gen hgen W (HVP.out W (HBw.out.trans (h.mono HBw.out.size)))⟩
        have hF : ∀ W, Below wr.heap.size wr W → W.cell? ⟨g, 0, none⟩ = some (.map (some m)) ∧ W.cell? ⟨gr + 1, 0, none⟩ = some (.int .i64 jI) ∧ (Instr.lookup 71 (.map (some m)) (.string f.f0) false).run Tryd.prog W = .ok (.pointer (some ⟨gb f.f0, 0, none⟩)) W ∧ W.cell? ⟨gb f.f0, 0, none⟩ = some (.slice (some ad) f.f1.length c) := fun W h =>
          ⟨HC.out W (HBw.out.trans (h.mono HBw.out.size)), (h.cell (p := ⟨gr + 1, 0, none⟩) (blk_lt HI.out.blj)).trans k0, (hall W (HBw.out.trans (h.mono HBw.out.size))).2.2.2, (hall W (HBw.out.trans (h.mono HBw.out.size))).1⟩
        have HFa := Aside0.mk hF
        have HSk := Aside0.mk hsk
        have HAll := Aside0.mk hall
        have HFd := Aside0.mk hf
        have HSz := Aside0.mk hsz
        have HCap := Aside0.mk hc
        have HJs := Aside0.mk hjs
        have HJI := Aside0.mk hjI
        clear hjI h0 hsk hF hall hf hsz hc hjs h18 hin hcf ht hne hfn hfdef hgen hws hjeq
        go_upto_region 11 with fail
        refine start_ (n := 12) (S := fun w' => w'.cell? ⟨g, 0, none⟩ = some (.map (some m)) ∧ w'.cell? ⟨gr + 1, 0, none⟩ = some (.int .i64 jI) ∧ (Instr.lookup 71 (.map (some m)) (.string f.f0) false).run Tryd.prog w' = .ok (.pointer (some ⟨gb f.f0, 0, none⟩)) w' ∧ w'.cell? ⟨gb f.f0, 0, none⟩ = some (.slice (some ad) f.f1.length c) ∧ Below wr.heap.size wr w') (ds := []) #[false, false, false, false, false, false, false, false, false, false, false, false] (by kernel_rfl) rfl rfl ⟨(HFa.out _ (below_drew (Below.refl _ _))).1, (HFa.out _ (below_drew (Below.refl _ _))).2.1, (HFa.out _ (below_drew (Below.refl _ _))).2.2.1, (HFa.out _ (below_drew (Below.refl _ _))).2.2.2, (below_drew (Below.refl _ _))⟩ (fun hHeld => ?_)
        refine pure_ (i := 0) (N := some 62) (v := ?_) (a' := ?_) #[true, false, false, false, false, false, false, false, false, false, false, false] rfl rfl (by kernel_rfl) (fun _ _ _ h => h) (Or.inl ⟨by rfl, ?_⟩) ?_ ?_
        rotate_left
        · intro w'
          go_simp
          with_reducible rfl
        rotate_left
        · simp only [Act.put, List.setIfInBounds_toArray, List.set_cons_zero, List.set_cons_succ, i64_w, i32_w]
          rfl
        refine pure_ (i := 1) (N := some 63) (v := ?_) (a' := ?_) #[true, true, false, false, false, false, false, false, false, false, false, false] rfl rfl (by kernel_rfl) (fun _ _ _ h => h) (Or.inl ⟨by rfl, ?_⟩) ?_ ?_
        rotate_left
        · intro w'
          go_simp
          with_reducible rfl
        rotate_left
        · simp only [Act.put, List.setIfInBounds_toArray, List.set_cons_zero, List.set_cons_succ, i64_w, i32_w]
          rfl
        refine pure_ (i := 2) (N := some 64) (v := ?_) (a' := ?_) #[true, true, true, false, false, false, false, false, false, false, false, false] rfl rfl (by kernel_rfl) (fun _ _ _ h => h) (Or.inl ⟨by rfl, ?_⟩) ?_ ?_
        rotate_left
        · intro w'
          go_simp
          with_reducible rfl
        rotate_left
        · simp only [Act.put, List.setIfInBounds_toArray, List.set_cons_zero, List.set_cons_succ, i64_w, i32_w]
          rfl
        refine pure_ (i := 4) (N := some 66) (v := ?_) (a' := ?_) #[true, true, true, false, true, false, false, false, false, false, false, false] rfl rfl (by kernel_rfl) (fun _ _ _ h => h) (Or.inl ⟨by rfl, ?_⟩) ?_ ?_
        rotate_left
        · intro w'
          go_simp
          with_reducible rfl
        rotate_left
        · simp only [Act.put, List.setIfInBounds_toArray, List.set_cons_zero, List.set_cons_succ, i64_w, i32_w]
          rfl
        refine take_ (i := 3) (N := some 65) (v := ?_) (a' := ?_) #[true, true, true, true, true, false, false, false, false, false, false, false] rfl rfl (by kernel_rfl) (fun _ _ _ h => h) (Or.inl ⟨by rfl, ?_⟩) hHeld ?_ ?_
        rotate_left
        · rintro w' ⟨s0, s1, s2, s3, s4⟩
          go_simp
          with_reducible rfl
        rotate_left
        · simp only [Act.put, List.setIfInBounds_toArray, List.set_cons_zero, List.set_cons_succ, i64_w, i32_w]
          rfl
        refine take_ (i := 5) (N := some 67) (v := ?_) (a' := ?_) #[true, true, true, true, true, true, false, false, false, false, false, false] rfl rfl (by kernel_rfl) (fun _ _ _ h => h) (Or.inl ⟨by rfl, ?_⟩) hHeld ?_ ?_
        rotate_left
        · rintro w' ⟨s0, s1, s2, s3, s4⟩
          go_simp
          with_reducible rfl
        rotate_left
        · simp only [Act.put, List.setIfInBounds_toArray, List.set_cons_zero, List.set_cons_succ, i64_w, i32_w]
          rfl
        refine one_ (i := 6) (N := some 68) #[true, true, true, true, true, true, true, false, false, false, false, false] rfl rfl (by kernel_rfl) (by decide) (fun K hK => ?_)
        refine goes_ Tryd.func24 (by kernel_rfl) rfl #[.int .i64 jI] (by rfl) rfl rfl (by simp only [List.map_toArray, List.map_cons, List.map_nil]; rfl) ?_
        with_reducible refine ((HNa.out _ hHeld.2.2.2.2)).mono ?_
        rintro e w7 ⟨rfl, hb7⟩
        refine ⟨_, rfl, ?_⟩
        have HB7 := Aside0.mk (hHeld.2.2.2.2.trans (hb7.mono hHeld.2.2.2.2.size))
        clear hb7
        refine hK.out _ _ ⟨(HFa.out _ HB7.out).1, (HFa.out _ HB7.out).2.1, (HFa.out _ HB7.out).2.2.1, (HFa.out _ HB7.out).2.2.2, HB7.out⟩ (fun hHeld => ?_)
        clear hK K
        refine norm_ (a' := ?_) ?_ ?_
        rotate_left
        · show Act.put _ (some 68) _ = _
          simp only [Act.put, List.setIfInBounds_toArray, List.set_cons_zero, List.set_cons_succ, i64_w, i32_w]
          rfl
        refine take_ (i := 7) (N := some 69) (v := ?_) (a' := ?_) #[true, true, true, true, true, true, true, true, false, false, false, false] rfl rfl (by kernel_rfl) (fun _ _ _ h => h) (Or.inl ⟨by rfl, ?_⟩) hHeld ?_ ?_
        rotate_left
        · rintro w' ⟨s0, s1, s2, s3, s4⟩
          go_simp
          with_reducible rfl
        rotate_left
        · simp only [Act.put, List.setIfInBounds_toArray, List.set_cons_zero, List.set_cons_succ, i64_w, i32_w]
          rfl
        refine pure_ (i := 8) (N := some 70) (v := ?_) (a' := ?_) #[true, true, true, true, true, true, true, true, true, false, false, false] rfl rfl (by kernel_rfl) (fun _ _ _ h => h) (Or.inl ⟨by rfl, ?_⟩) ?_ ?_
        rotate_left
        · intro w'
          go_simp
          with_reducible rfl
        rotate_left
        · simp only [Act.put, List.setIfInBounds_toArray, List.set_cons_zero, List.set_cons_succ, i64_w, i32_w]
          rfl
        refine pure_ (i := 9) (N := some 71) (v := ?_) (a' := ?_) #[true, true, true, true, true, true, true, true, true, true, false, false] rfl rfl (by kernel_rfl) (fun _ _ _ h => h) (Or.inl ⟨by rfl, ?_⟩) ?_ ?_
        rotate_left
        · intro w'
          go_simp
          with_reducible rfl
        rotate_left
        · simp only [Act.put, List.setIfInBounds_toArray, List.set_cons_zero, List.set_cons_succ, i64_w, i32_w]
          rfl
        refine take_ (i := 10) (N := some 72) (v := ?_) (a' := ?_) #[true, true, true, true, true, true, true, true, true, true, true, false] rfl rfl (by kernel_rfl) (fun _ _ _ h => h) (Or.inl ⟨by rfl, ?_⟩) hHeld ?_ ?_
        rotate_left
        · rintro w' ⟨s0, s1, s2, s3, s4⟩
          go_simp
          with_reducible rfl
        rotate_left
        · simp only [Act.put, List.setIfInBounds_toArray, List.set_cons_zero, List.set_cons_succ, i64_w, i32_w]
          rfl
        refine pure_ (i := 11) (N := some 10) (v := ?_) (a' := ?_) #[true, true, true, true, true, true, true, true, true, true, true, true] rfl rfl (by kernel_rfl) (fun _ _ _ h => h) (Or.inl ⟨by rfl, ?_⟩) ?_ ?_
        rotate_left
        · intro w'
          go_simp
          with_reducible rfl
        rotate_left
        · simp only [Act.put, List.setIfInBounds_toArray, List.set_cons_zero, List.set_cons_succ, i64_w, i32_w]
          rfl
        refine done_ (by kernel_rfl) ?_
        obtain ⟨tot, htot⟩ : ∃ tot, tot = scanS j.sum (f.f1.length + 1) (f.f1.drop j.size) 1 := ⟨_, rfl⟩
        have hJ0 : SkJ j f.f1 gr w w7 [] [] (.slice Av j.summary.length cv) (.slice none 0 0) (f.f1.length + 1) tot := by
          have hb := HB7.out
          have h3 := HJs.out
          have hz : (j.got []).size = j.size := rfl
          refine ⟨(hb.block _ (blk_lt HI.out.blr)).trans HI.out.blr, ?_, Nat.le_trans (show gr + 3 ≤ wr.heap.size by have := HI.out.rg.lt; omega) hb.size, own_move HI.out.row fun k hk => hb.block k (own_lt HI.out.row k hk), RcL.nil _ _, rfl, HI.out.bel.trans (hb.mono (Nat.le_of_lt (blk_lt HI.out.blr))), htot, by omega, by omega⟩
          exact (hb.block _ (blk_lt HI.out.blj)).trans HI.out.blj
        have HJ0 := Aside0.mk hJ0
        have HTot : Aside0 (seekS fs = j.got tot) := ⟨by rw [HSk.out, htot]⟩
        have HByt := Aside0.mk (HBy.out f HFd.out)
        have HAl : Aside0 (∀ W, Below gr w W → ReadsInt W .u8 (some ad) f.f1.length f.f1) := ⟨fun W h => (HAll.out W (by rw [← HGR.out]; exact h)).2.2.1⟩
        clear HI HJ HBw HFa HNa HAll HSk HJI e1 e2 k0 k1 k2 k3 k4 k5 k6 hHeld hJ0 htot HB7
        go_wp2
        go_loopg [] (f.f1.length + 1) (fun kq wq => ∃ (rs : List Rec) (L : List (Rec × Value)) (vr : Value), SkJ j f.f1 gr w wq rs L (.slice Av j.summary.length cv) vr kq tot)
        case atStart => exact ⟨[], [], _, HJ0.out⟩
        case round =>
          clear HJ0
          obtain ⟨rs, L, vr, hJ⟩ := hrel
          cases gk with
          | zero => exact absurd hJ.fuel (by have := hJ.fit; omega)
          | succ k1 =>
          obtain ⟨Ar, cr, rfl, hcr, hob⟩ := own_form hJ.rcl.own
          have hLn : L.length = rs.length := by rw [← hJ.fst, List.length_map]
          obtain ⟨n, hn⟩ : ∃ n, n = L.length := ⟨_, rfl⟩
          rw [← hn] at hJ
          obtain ⟨iI, hiI⟩ : ∃ iI : Int, iI = ((j.got rs).size : Nat) := ⟨_, rfl⟩
          obtain ⟨k0, k1', k2, k3, k4, k5, k6, y0, y1, y2, y3, y4, y5, y6⟩ := boxF hJ.blj
          rw [← hiI] at k4
          have HBase : Aside0 (gr + 3 ≤ wr.heap.size) := ⟨hJ.room⟩
          have hFa : ∀ W, Below wr.heap.size wr W → W.cell? ⟨gr + 1, 4, none⟩ = some (.int .i64 iI) ∧ W.cell? ⟨gr + 1, 3, none⟩ = some (.slice Ar n cr) := fun W h =>
            ⟨(h.cell (p := ⟨gr + 1, 4, none⟩) (blk_lt hJ.blj)).trans k4, (h.cell (p := ⟨gr + 1, 3, none⟩) (blk_lt hJ.blj)).trans k3⟩
          have hfit := hJ.fit
          have h18 := HJs.out
          have hszl := HSz.out
          have hcap := HCap.out
          have hrec : 18 * rs.length ≤ (recsB j.sum 1 rs).length := by rw [recsB_len]; exact sum_18 rs
          have hq : (j.got rs).size = j.size + (recsB j.sum 1 rs).length := rfl
          have HWh : Aside0 (∀ W, Below wr.heap.size wr W → Calls Tryd.prog 43 #[.slice (if c = iI.toNat then some ad else some (ad.add iI.toNat)) (f.f1.length - iI.toNat) (c - iI.toNat), .int .i64 (wrap64 ((n : Int) + 1))] W fun e w' => WholePost W w' e (wholeS (f.f1.drop (j.got rs).size) (rs.length + 1))) := ⟨fun W h => by
            have hr := reads_from (i := (j.got rs).size) (HAl.out W (hJ.bel.trans (h.mono (Nat.le_of_lt (blk_lt hJ.blr))))) hcap (by omega) hfit
            have := whole_calls _ (c - (j.got rs).size) (f.f1.drop (j.got rs).size) (rs.length + 1) W (HByt.out.drop _) hr (by rw [List.length_drop]; omega) (by rw [List.length_drop]; omega) (by omega)
            rw [List.length_drop] at this
            rw [show iI.toNat = (j.got rs).size by omega, show wrap64 ((n : Int) + 1) = ((rs.length + 1 : Nat) : Int) by unfold wrap64; omega]
            exact this⟩
          have b0 : (0 : Int) ≤ iI := by omega
          have b1 : iI ≤ (f.f1.length : Int) := by omega
          have b2 : iI ≤ 2097152 := by omega
          have b3 : (n : Int) ≤ 2097152 := by omega
          have b4 : (0 : Int) ≤ (n : Int) := by omega
          have b5 : iI ≤ (c : Int) := by omega
          have HFa := Aside0.mk hFa
          have HJ := Aside0.mk hJ
          have HN := Aside0.mk hn
          have HLn := Aside0.mk hLn
          have HII := Aside0.mk hiI
          clear hFa hJ hn hLn hiI k0 k1' k2 k3 k4 k5 k6 y0 y1 y2 y3 y4 y5 y6 hfit h18 hszl hcap hrec hq hcr hob
          rcases hws : wholeS (f.f1.drop (j.got rs).size) (rs.length + 1) with _ | ⟨s, r, sz⟩
          · rw [hws] at HWh
            have HWs := Aside0.mk hws
            clear hws
            go_upto_region 12 with fail
            refine start_ (n := 17) (S := fun w' => w'.cell? ⟨gr + 1, 4, none⟩ = some (.int .i64 iI) ∧ w'.cell? ⟨gr + 1, 3, none⟩ = some (.slice Ar n cr) ∧ Below wr.heap.size wr w') (ds := [15]) #[false, false, false, false, false, false, false, false, false, false, false, false, false, false, false, false, false] (by kernel_rfl) rfl rfl ⟨(HFa.out _ (below_drew (Below.refl _ _))).1, (HFa.out _ (below_drew (Below.refl _ _))).2, (below_drew (Below.refl _ _))⟩ (fun hHeld => ?_)
            refine pure_ (i := 0) (N := some 74) (v := ?_) (a' := ?_) #[true, false, false, false, false, false, false, false, false, false, false, false, false, false, false, false, false] rfl rfl (by kernel_rfl) (fun _ _ _ h => h) (Or.inl ⟨by rfl, ?_⟩) ?_ ?_
            rotate_left
            · intro w'
              go_simp
              with_reducible rfl
            rotate_left
            · simp only [Act.put, List.setIfInBounds_toArray, List.set_cons_zero, List.set_cons_succ, i64_w, i32_w]
              rfl
            refine pure_ (i := 1) (N := some 75) (v := ?_) (a' := ?_) #[true, true, false, false, false, false, false, false, false, false, false, false, false, false, false, false, false] rfl rfl (by kernel_rfl) (fun _ _ _ h => h) (Or.inl ⟨by rfl, ?_⟩) ?_ ?_
            rotate_left
            · intro w'
              go_simp
              with_reducible rfl
            rotate_left
            · simp only [Act.put, List.setIfInBounds_toArray, List.set_cons_zero, List.set_cons_succ, i64_w, i32_w]
              rfl
            refine pure_ (i := 4) (N := some 78) (v := ?_) (a' := ?_) #[true, true, false, false, true, false, false, false, false, false, false, false, false, false, false, false, false] rfl rfl (by kernel_rfl) (fun _ _ _ h => h) (Or.inl ⟨by rfl, ?_⟩) ?_ ?_
            rotate_left
            · intro w'
              go_simp
              with_reducible rfl
            rotate_left
            · simp only [Act.put, List.setIfInBounds_toArray, List.set_cons_zero, List.set_cons_succ, i64_w, i32_w]
              rfl
            refine take_ (i := 2) (N := some 76) (v := ?_) (a' := ?_) #[true, true, true, false, true, false, false, false, false, false, false, false, false, false, false, false, false] rfl rfl (by kernel_rfl) (fun _ _ _ h => h) (Or.inl ⟨by rfl, ?_⟩) hHeld ?_ ?_
            rotate_left
            · rintro w' ⟨s0, s1, s2⟩
              go_simp
              with_reducible rfl
            rotate_left
            · simp only [Act.put, List.setIfInBounds_toArray, List.set_cons_zero, List.set_cons_succ, i64_w, i32_w]
              rfl
            refine pure_ (i := 3) (N := some 77) (v := ?_) (a' := ?_) #[true, true, true, true, true, false, false, false, false, false, false, false, false, false, false, false, false] rfl rfl (by kernel_rfl) (fun _ _ _ h => h) (Or.inl ⟨by rfl, ?_⟩) ?_ ?_
            rotate_left
            · intro w'
              go_simp
              with_reducible rfl
            rotate_left
            · simp only [Act.put, List.setIfInBounds_toArray, List.set_cons_zero, List.set_cons_succ, i64_w, i32_w]
              rfl
            refine take_ (i := 5) (N := some 79) (v := ?_) (a' := ?_) #[true, true, true, true, true, true, false, false, false, false, false, false, false, false, false, false, false] rfl rfl (by kernel_rfl) (fun _ _ _ h => h) (Or.inl ⟨by rfl, ?_⟩) hHeld ?_ ?_
            rotate_left
            · rintro w' ⟨s0, s1, s2⟩
              go_simp
              with_reducible rfl
            rotate_left
            · simp only [Act.put, List.setIfInBounds_toArray, List.set_cons_zero, List.set_cons_succ, i64_w, i32_w]
              rfl
            refine pure_ (i := 6) (N := some 80) (v := ?_) (a' := ?_) #[true, true, true, true, true, true, true, false, false, false, false, false, false, false, false, false, false] rfl rfl (by kernel_rfl) (fun _ _ _ h => h) (Or.inl ⟨by rfl, ?_⟩) ?_ ?_
            rotate_left
            · intro w'
              go_simp
              with_reducible rfl
            rotate_left
            · simp only [Act.put, List.setIfInBounds_toArray, List.set_cons_zero, List.set_cons_succ, i64_w, i32_w]
              rfl
            refine pure_ (i := 7) (N := some 81) (v := ?_) (a' := ?_) #[true, true, true, true, true, true, true, true, false, false, false, false, false, false, false, false, false] rfl rfl (by kernel_rfl) (fun _ _ _ h => h) (Or.inl ⟨by rfl, ?_⟩) ?_ ?_
            rotate_left
            · intro w'
              go_simp
              with_reducible rfl
            rotate_left
            · simp only [Act.put, List.setIfInBounds_toArray, List.set_cons_zero, List.set_cons_succ, i64_w, i32_w]
              rfl
            refine join_ (σ := Nat) 3 #[true, true, true, true, true, true, true, true, true, true, true, true, true, true, false, false, false] (fun q => [(82, (.tuple #[.int .u32 0, .agg #[.int .u8 0, .slice none 0 0], .int .i64 0])), (73, (.tuple #[.int .u32 0, .agg #[.int .u8 0, .slice none 0 0], .int .i64 0])), (83, (.int .u32 0)), (84, (.agg #[.int .u8 0, .slice none 0 0])), (85, (.int .i64 0)), (12, (.pointer (some ⟨q, 0, none⟩)))]) (fun q w' => (w'.cell? ⟨gr + 1, 4, none⟩ = some (.int .i64 iI) ∧ w'.cell? ⟨gr + 1, 3, none⟩ = some (.slice Ar n cr) ∧ Below wr.heap.size wr w') ∧ w'.heap[q]? = some (.cells #[.int .u8 0, .slice none 0 0] 37 (0, 0)) ∧ wr.heap.size ≤ q) ?_ ?_
            rotate_left
            · intro hCont
              refine two_ (i := 8) (j := 13) (Ni := some 82) (Nj := some 12) #[true, true, true, true, true, true, true, true, true, false, false, false, false, false, false, false, false] #[true, true, true, true, true, true, true, true, false, false, false, false, false, true, false, false, false] rfl rfl rfl rfl (by kernel_rfl) (by decide) (by decide) (fun K hK => ?_) (fun K hK => ?_)
              · skip
                refine goes_ Tryd.func43 (by kernel_rfl) rfl #[.slice (if c = iI.toNat then some ad else some (ad.add iI.toNat)) (f.f1.length - iI.toNat) (c - iI.toNat), .int .i64 (wrap64 ((n : Int) + 1))] (by rfl) rfl rfl (by simp only [List.map_toArray, List.map_cons, List.map_nil]; rfl) ?_
                with_reducible refine ((HWh.out _ hHeld.2.2)).mono ?_
                rintro e w8 ⟨rfl, hb8⟩
                refine ⟨_, rfl, ?_⟩
                have HB8 := Aside0.mk (hHeld.2.2.trans (hb8.mono hHeld.2.2.size))
                have HC8 := Aside0.mk hb8
                clear hb8
                refine hK.out _ _ ⟨(HFa.out _ HB8.out).1, (HFa.out _ HB8.out).2, HB8.out⟩ (fun hHeld => ?_)
                clear hK K
                refine norm_ (a' := ?_) ?_ ?_
                rotate_left
                · show Act.put _ (some 82) _ = _
                  simp only [Act.put, List.setIfInBounds_toArray, List.set_cons_zero, List.set_cons_succ, i64_w, i32_w]
                  rfl
                refine pure_ (i := 9) (N := some 73) (v := ?_) (a' := ?_) #[true, true, true, true, true, true, true, true, true, true, false, false, false, false, false, false, false] rfl rfl (by kernel_rfl) (fun _ _ _ h => h) (Or.inl ⟨by rfl, ?_⟩) ?_ ?_
                rotate_left
                · intro w'
                  go_simp
                  with_reducible rfl
                rotate_left
                · simp only [Act.put, List.setIfInBounds_toArray, List.set_cons_zero, List.set_cons_succ, i64_w, i32_w]
                  rfl
                refine pure_ (i := 10) (N := some 83) (v := ?_) (a' := ?_) #[true, true, true, true, true, true, true, true, true, true, true, false, false, false, false, false, false] rfl rfl (by kernel_rfl) (fun _ _ _ h => h) (Or.inl ⟨by rfl, ?_⟩) ?_ ?_
                rotate_left
                · intro w'
                  go_simp
                  with_reducible rfl
                rotate_left
                · simp only [Act.put, List.setIfInBounds_toArray, List.set_cons_zero, List.set_cons_succ, i64_w, i32_w]
                  rfl
                refine pure_ (i := 11) (N := some 84) (v := ?_) (a' := ?_) #[true, true, true, true, true, true, true, true, true, true, true, true, false, false, false, false, false] rfl rfl (by kernel_rfl) (fun _ _ _ h => h) (Or.inl ⟨by rfl, ?_⟩) ?_ ?_
                rotate_left
                · intro w'
                  go_simp
                  with_reducible rfl
                rotate_left
                · simp only [Act.put, List.setIfInBounds_toArray, List.set_cons_zero, List.set_cons_succ, i64_w, i32_w]
                  rfl
                refine pure_ (i := 12) (N := some 85) (v := ?_) (a' := ?_) #[true, true, true, true, true, true, true, true, true, true, true, true, true, false, false, false, false] rfl rfl (by kernel_rfl) (fun _ _ _ h => h) (Or.inl ⟨by rfl, ?_⟩) ?_ ?_
                rotate_left
                · intro w'
                  go_simp
                  with_reducible rfl
                rotate_left
                · simp only [Act.put, List.setIfInBounds_toArray, List.set_cons_zero, List.set_cons_succ, i64_w, i32_w]
                  rfl
                refine one_ (i := 13) (N := some 12) #[true, true, true, true, true, true, true, true, true, true, true, true, true, true, false, false, false] rfl rfl (by kernel_rfl) (by decide) (fun K hK => ?_)
                refine value_ (w1 := ?_) (v := ?_) (by rfl) rfl ?_ ?_
                rotate_left 2
                · go_simp
                  constructor
                  · rfl
                  · rfl
                refine hK.out _ _ ⟨(HFa.out _ (below_alloc hHeld.2.2 _)).1, (HFa.out _ (below_alloc hHeld.2.2 _)).2, (below_alloc hHeld.2.2 _)⟩ (fun hHeld => ?_)
                clear hK K
                refine norm_ (a' := ?_) ?_ ?_
                rotate_left
                · show Act.put _ (some 12) _ = _
                  simp only [Act.put, List.setIfInBounds_toArray, List.set_cons_zero, List.set_cons_succ, i64_w, i32_w]
                  rfl
                exact norm_ (by simp only [putAll, Act.put, List.setIfInBounds_toArray, List.set_cons_zero, List.set_cons_succ]) (hCont w8.heap.size _ ⟨⟨(HFa.out _ (below_alloc HB8.out _)).1, (HFa.out _ (below_alloc HB8.out _)).2, (below_alloc HB8.out _)⟩, blk_new w8 _, HB8.out.size⟩)
              · skip
                refine value_ (w1 := ?_) (v := ?_) (by rfl) rfl ?_ ?_
                rotate_left 2
                · go_simp
                  constructor
                  · rfl
                  · rfl
                refine hK.out _ _ ⟨(HFa.out _ (below_alloc hHeld.2.2 _)).1, (HFa.out _ (below_alloc hHeld.2.2 _)).2, (below_alloc hHeld.2.2 _)⟩ (fun hHeld => ?_)
                clear hK K
                refine norm_ (a' := ?_) ?_ ?_
                rotate_left
                · show Act.put _ (some 12) _ = _
                  simp only [Act.put, List.setIfInBounds_toArray, List.set_cons_zero, List.set_cons_succ, i64_w, i32_w]
                  rfl
                refine one_ (i := 8) (N := some 82) #[true, true, true, true, true, true, true, true, true, false, false, false, false, true, false, false, false] rfl rfl (by kernel_rfl) (by decide) (fun K hK => ?_)
                refine goes_ Tryd.func43 (by kernel_rfl) rfl #[.slice (if c = iI.toNat then some ad else some (ad.add iI.toNat)) (f.f1.length - iI.toNat) (c - iI.toNat), .int .i64 (wrap64 ((n : Int) + 1))] (by rfl) rfl rfl (by simp only [List.map_toArray, List.map_cons, List.map_nil]; rfl) ?_
                with_reducible refine ((HWh.out _ hHeld.2.2)).mono ?_
                rintro e w8 ⟨rfl, hb8⟩
                refine ⟨_, rfl, ?_⟩
                have HB8 := Aside0.mk (hHeld.2.2.trans (hb8.mono hHeld.2.2.size))
                have HC8 := Aside0.mk hb8
                clear hb8
                refine hK.out _ _ ⟨(HFa.out _ HB8.out).1, (HFa.out _ HB8.out).2, HB8.out⟩ (fun hHeld => ?_)
                clear hK K
                refine norm_ (a' := ?_) ?_ ?_
                rotate_left
                · show Act.put _ (some 82) _ = _
                  simp only [Act.put, List.setIfInBounds_toArray, List.set_cons_zero, List.set_cons_succ, i64_w, i32_w]
                  rfl
                refine pure_ (i := 9) (N := some 73) (v := ?_) (a' := ?_) #[true, true, true, true, true, true, true, true, true, true, false, false, false, true, false, false, false] rfl rfl (by kernel_rfl) (fun _ _ _ h => h) (Or.inl ⟨by rfl, ?_⟩) ?_ ?_
                rotate_left
                · intro w'
                  go_simp
                  with_reducible rfl
                rotate_left
                · simp only [Act.put, List.setIfInBounds_toArray, List.set_cons_zero, List.set_cons_succ, i64_w, i32_w]
                  rfl
                refine pure_ (i := 10) (N := some 83) (v := ?_) (a' := ?_) #[true, true, true, true, true, true, true, true, true, true, true, false, false, true, false, false, false] rfl rfl (by kernel_rfl) (fun _ _ _ h => h) (Or.inl ⟨by rfl, ?_⟩) ?_ ?_
                rotate_left
                · intro w'
                  go_simp
                  with_reducible rfl
                rotate_left
                · simp only [Act.put, List.setIfInBounds_toArray, List.set_cons_zero, List.set_cons_succ, i64_w, i32_w]
                  rfl
                refine pure_ (i := 11) (N := some 84) (v := ?_) (a' := ?_) #[true, true, true, true, true, true, true, true, true, true, true, true, false, true, false, false, false] rfl rfl (by kernel_rfl) (fun _ _ _ h => h) (Or.inl ⟨by rfl, ?_⟩) ?_ ?_
                rotate_left
                · intro w'
                  go_simp
                  with_reducible rfl
                rotate_left
                · simp only [Act.put, List.setIfInBounds_toArray, List.set_cons_zero, List.set_cons_succ, i64_w, i32_w]
                  rfl
                refine pure_ (i := 12) (N := some 85) (v := ?_) (a' := ?_) #[true, true, true, true, true, true, true, true, true, true, true, true, true, true, false, false, false] rfl rfl (by kernel_rfl) (fun _ _ _ h => h) (Or.inl ⟨by rfl, ?_⟩) ?_ ?_
                rotate_left
                · intro w'
                  go_simp
                  with_reducible rfl
                rotate_left
                · simp only [Act.put, List.setIfInBounds_toArray, List.set_cons_zero, List.set_cons_succ, i64_w, i32_w]
                  rfl
                exact norm_ (by simp only [putAll, Act.put, List.setIfInBounds_toArray, List.set_cons_zero, List.set_cons_succ]) (hCont wr.heap.size _ ⟨⟨(HFa.out _ HB8.out).1, (HFa.out _ HB8.out).2, HB8.out⟩, (HC8.out.block _ (by simp)).trans (blk_new wr.drew _), Nat.le_refl _⟩)
            rintro g8 w8 ⟨hS8, hbk8, hge8⟩
            have hHeld : w8.cell? ⟨gr + 1, 4, none⟩ = some (.int .i64 iI) ∧ w8.cell? ⟨gr + 1, 3, none⟩ = some (.slice Ar n cr) ∧ Below wr.heap.size wr w8 := hS8
            have f0 : w8.cell? ⟨g8, 0, none⟩ = some (.int .u8 0) := (blk_cell hbk8 0).trans rfl
            have f1 : w8.cell? ⟨g8, 1, none⟩ = some (.slice none 0 0) := (blk_cell hbk8 1).trans rfl
            have z0 : w8.frozen? ⟨g8, 0, none⟩ = false := blk_frozen hbk8 0
            have z1 : w8.frozen? ⟨g8, 1, none⟩ = false := blk_frozen hbk8 1
            have HS8 := Aside0.mk hS8
            have HK8 := Aside0.mk hbk8
            have HG8 := Aside0.mk hge8
            clear hS8 hbk8 hge8
            refine norm_ (a' := ?_) ?_ ?_
            rotate_left
            · simp only [putAll, Act.put, List.setIfInBounds_toArray, List.set_cons_zero, List.set_cons_succ]
              rfl
            refine pure_ (i := 14) (N := some 11) (v := ?_) (a' := ?_) #[true, true, true, true, true, true, true, true, true, true, true, true, true, true, true, false, false] rfl rfl (by kernel_rfl) (fun _ _ _ h => h) (Or.inl ⟨by rfl, ?_⟩) ?_ ?_
            rotate_left
            · intro w'
              go_simp
              with_reducible rfl
            rotate_left
            · simp only [Act.put, List.setIfInBounds_toArray, List.set_cons_zero, List.set_cons_succ, i64_w, i32_w]
              rfl
            refine last_ (i := 15) (N := none) #[true, true, true, true, true, true, true, true, true, true, true, true, true, true, true, true, false] rfl rfl (by kernel_rfl) (by decide) (fun K hK => ?_)
            refine skip_ (w1 := ?_) (by rfl) rfl ?_ ?_
            rotate_left
            · go_simp
              rfl
            refine hK.out _ _ ?_
            clear hK K
            refine pure_ (i := 16) (N := some 13) (v := ?_) (a' := ?_) #[true, true, true, true, true, true, true, true, true, true, true, true, true, true, true, true, true] rfl rfl (by kernel_rfl) (fun _ _ _ h => h) (Or.inl ⟨by rfl, ?_⟩) ?_ ?_
            rotate_left
            · intro w'
              go_simp
              with_reducible rfl
            rotate_left
            · simp only [Act.put, List.setIfInBounds_toArray, List.set_cons_zero, List.set_cons_succ, i64_w, i32_w]
              rfl
            refine done_ (by kernel_rfl) ?_
            generalize (if c = iI.toNat then some ad else some (ad.add iI.toNat)) = Ai
            obtain ⟨W9, hW9⟩ : ∃ W9, W9 = (w8.setCell ⟨g8, 0, none⟩ (.int .u8 0)).setCell ⟨g8, 1, none⟩ (.slice none 0 0) := ⟨_, rfl⟩
            rw [← hW9]
            obtain ⟨hb9, hk9, ho9⟩ := rec_box (b := 0) (B := 0) (n := 0) (xs := []) HS8.out.2.2 HK8.out HG8.out hW9
            have HJ9 := Aside0.mk (HJ.out.below hb9)
            have HT := Aside0.mk (HJ.out.nomore (by rw [HWs.out]; intro s_ r_ z_ h_; cases h_))
            obtain ⟨k0, k1', k2, k3, k4, k5, k6, y0, y1, y2, y3, y4, y5, y6⟩ := boxF HJ9.out.blj
            obtain ⟨q0, q1, q2, q3, q4, q5, q6, p0, p1, p2, p3, p4, p5, p6⟩ := boxF HJ9.out.blr
            clear y0 y1 y2 y3 y4 y5 y6 b0 b1 b2 b3 b4 b5 hHeld f0 f1 z0 z1 hW9 hb9 hk9 ho9
            go_wp2
            obtain ⟨Wf, hWf⟩ : ∃ Wf, Wf = (((((((W9.setCell ⟨gr, 0, none⟩ (.int .i64 ((j.got rs).gen : Nat))).setCell ⟨gr, 1, none⟩ (.int .u32 ((j.got rs).sum : Nat))).setCell ⟨gr, 2, none⟩ (.slice Av j.summary.length cv)).setCell ⟨gr, 3, none⟩ (.slice Ar n cr)).setCell ⟨gr, 4, none⟩ (.int .i64 ((j.got rs).size : Nat))).setCell ⟨gr, 5, none⟩ (.int .i64 ((j.got rs).all : Nat))).setCell ⟨gr, 6, none⟩ (.int .i64 (j.got rs).sure)) := ⟨_, rfl⟩
            rw [← hWf]
            obtain ⟨h1, h2⟩ := HJ9.out.post (Wf := Wf) HGR.out HT.out (by exact hWf)
            refine bodyPost_ret (res_seek rfl h1) rfl ?_
            rw [HTot.out]
            exact h2
          · rw [hws] at HWh
            have HWs := Aside0.mk hws
            clear hws
            go_upto_region 12 with fail
            refine start_ (n := 17) (S := fun w' => w'.cell? ⟨gr + 1, 4, none⟩ = some (.int .i64 iI) ∧ w'.cell? ⟨gr + 1, 3, none⟩ = some (.slice Ar n cr) ∧ Below wr.heap.size wr w') (ds := [15]) #[false, false, false, false, false, false, false, false, false, false, false, false, false, false, false, false, false] (by kernel_rfl) rfl rfl ⟨(HFa.out _ (below_drew (Below.refl _ _))).1, (HFa.out _ (below_drew (Below.refl _ _))).2, (below_drew (Below.refl _ _))⟩ (fun hHeld => ?_)
            refine pure_ (i := 0) (N := some 74) (v := ?_) (a' := ?_) #[true, false, false, false, false, false, false, false, false, false, false, false, false, false, false, false, false] rfl rfl (by kernel_rfl) (fun _ _ _ h => h) (Or.inl ⟨by rfl, ?_⟩) ?_ ?_
            rotate_left
            · intro w'
              go_simp
              with_reducible rfl
            rotate_left
            · simp only [Act.put, List.setIfInBounds_toArray, List.set_cons_zero, List.set_cons_succ, i64_w, i32_w]
              rfl
            refine pure_ (i := 1) (N := some 75) (v := ?_) (a' := ?_) #[true, true, false, false, false, false, false, false, false, false, false, false, false, false, false, false, false] rfl rfl (by kernel_rfl) (fun _ _ _ h => h) (Or.inl ⟨by rfl, ?_⟩) ?_ ?_
            rotate_left
            · intro w'
              go_simp
              with_reducible rfl
            rotate_left
            · simp only [Act.put, List.setIfInBounds_toArray, List.set_cons_zero, List.set_cons_succ, i64_w, i32_w]
              rfl
            refine pure_ (i := 4) (N := some 78) (v := ?_) (a' := ?_) #[true, true, false, false, true, false, false, false, false, false, false, false, false, false, false, false, false] rfl rfl (by kernel_rfl) (fun _ _ _ h => h) (Or.inl ⟨by rfl, ?_⟩) ?_ ?_
            rotate_left
            · intro w'
              go_simp
              with_reducible rfl
            rotate_left
            · simp only [Act.put, List.setIfInBounds_toArray, List.set_cons_zero, List.set_cons_succ, i64_w, i32_w]
              rfl
            refine take_ (i := 2) (N := some 76) (v := ?_) (a' := ?_) #[true, true, true, false, true, false, false, false, false, false, false, false, false, false, false, false, false] rfl rfl (by kernel_rfl) (fun _ _ _ h => h) (Or.inl ⟨by rfl, ?_⟩) hHeld ?_ ?_
            rotate_left
            · rintro w' ⟨s0, s1, s2⟩
              go_simp
              with_reducible rfl
            rotate_left
            · simp only [Act.put, List.setIfInBounds_toArray, List.set_cons_zero, List.set_cons_succ, i64_w, i32_w]
              rfl
            refine pure_ (i := 3) (N := some 77) (v := ?_) (a' := ?_) #[true, true, true, true, true, false, false, false, false, false, false, false, false, false, false, false, false] rfl rfl (by kernel_rfl) (fun _ _ _ h => h) (Or.inl ⟨by rfl, ?_⟩) ?_ ?_
            rotate_left
            · intro w'
              go_simp
              with_reducible rfl
            rotate_left
            · simp only [Act.put, List.setIfInBounds_toArray, List.set_cons_zero, List.set_cons_succ, i64_w, i32_w]
              rfl
            refine take_ (i := 5) (N := some 79) (v := ?_) (a' := ?_) #[true, true, true, true, true, true, false, false, false, false, false, false, false, false, false, false, false] rfl rfl (by kernel_rfl) (fun _ _ _ h => h) (Or.inl ⟨by rfl, ?_⟩) hHeld ?_ ?_
            rotate_left
            · rintro w' ⟨s0, s1, s2⟩
              go_simp
              with_reducible rfl
            rotate_left
            · simp only [Act.put, List.setIfInBounds_toArray, List.set_cons_zero, List.set_cons_succ, i64_w, i32_w]
              rfl
            refine pure_ (i := 6) (N := some 80) (v := ?_) (a' := ?_) #[true, true, true, true, true, true, true, false, false, false, false, false, false, false, false, false, false] rfl rfl (by kernel_rfl) (fun _ _ _ h => h) (Or.inl ⟨by rfl, ?_⟩) ?_ ?_
            rotate_left
            · intro w'
              go_simp
              with_reducible rfl
            rotate_left
            · simp only [Act.put, List.setIfInBounds_toArray, List.set_cons_zero, List.set_cons_succ, i64_w, i32_w]
              rfl
            refine pure_ (i := 7) (N := some 81) (v := ?_) (a' := ?_) #[true, true, true, true, true, true, true, true, false, false, false, false, false, false, false, false, false] rfl rfl (by kernel_rfl) (fun _ _ _ h => h) (Or.inl ⟨by rfl, ?_⟩) ?_ ?_
            rotate_left
            · intro w'
              go_simp
              with_reducible rfl
            rotate_left
            · simp only [Act.put, List.setIfInBounds_toArray, List.set_cons_zero, List.set_cons_succ, i64_w, i32_w]
              rfl
            refine join_ (σ := Nat × Option Addr × Nat) 3 #[true, true, true, true, true, true, true, true, true, true, true, true, true, true, false, false, false] (fun q => [(82, (.tuple #[.int .u32 (s : Nat), .agg #[.int .u8 r.kind, .slice q.2.1 r.body.length q.2.2], .int .i64 (sz : Nat)])), (73, (.tuple #[.int .u32 (s : Nat), .agg #[.int .u8 r.kind, .slice q.2.1 r.body.length q.2.2], .int .i64 (sz : Nat)])), (83, (.int .u32 (s : Nat))), (84, (.agg #[.int .u8 r.kind, .slice q.2.1 r.body.length q.2.2])), (85, (.int .i64 (sz : Nat))), (12, (.pointer (some ⟨q.1, 0, none⟩)))]) (fun q w' => ((w'.cell? ⟨gr + 1, 4, none⟩ = some (.int .i64 iI) ∧ w'.cell? ⟨gr + 1, 3, none⟩ = some (.slice Ar n cr) ∧ Below wr.heap.size wr w') ∧ w'.heap[q.1]? = some (.cells #[.int .u8 0, .slice none 0 0] 37 (0, 0)) ∧ wr.heap.size ≤ q.1) ∧ w'.ownsRow wr.heap.size 5 1 (.slice q.2.1 r.body.length q.2.2) r.body.length (nums .u8 r.body)) ?_ ?_
            rotate_left
            · intro hCont
              refine two_ (i := 8) (j := 13) (Ni := some 82) (Nj := some 12) #[true, true, true, true, true, true, true, true, true, false, false, false, false, false, false, false, false] #[true, true, true, true, true, true, true, true, false, false, false, false, false, true, false, false, false] rfl rfl rfl rfl (by kernel_rfl) (by decide) (by decide) (fun K hK => ?_) (fun K hK => ?_)
              · skip
                refine goes_ Tryd.func43 (by kernel_rfl) rfl #[.slice (if c = iI.toNat then some ad else some (ad.add iI.toNat)) (f.f1.length - iI.toNat) (c - iI.toNat), .int .i64 (wrap64 ((n : Int) + 1))] (by rfl) rfl rfl (by simp only [List.map_toArray, List.map_cons, List.map_nil]; rfl) ?_
                with_reducible refine ((HWh.out _ hHeld.2.2)).mono ?_
                rintro e w8 ⟨v5, rfl, ho8, hb8⟩
                refine ⟨_, rfl, ?_⟩
                obtain ⟨A5, c5, rfl, _⟩ := own_form ho8
                have HO8 := Aside0.mk (own_lower ho8 hHeld.2.2.size)
                clear ho8
                have HB8 := Aside0.mk (hHeld.2.2.trans (hb8.mono hHeld.2.2.size))
                have HC8 := Aside0.mk hb8
                clear hb8
                refine hK.out _ _ ⟨(HFa.out _ HB8.out).1, (HFa.out _ HB8.out).2, HB8.out⟩ (fun hHeld => ?_)
                clear hK K
                refine norm_ (a' := ?_) ?_ ?_
                rotate_left
                · show Act.put _ (some 82) _ = _
                  simp only [Act.put, List.setIfInBounds_toArray, List.set_cons_zero, List.set_cons_succ, i64_w, i32_w]
                  rfl
                refine pure_ (i := 9) (N := some 73) (v := ?_) (a' := ?_) #[true, true, true, true, true, true, true, true, true, true, false, false, false, false, false, false, false] rfl rfl (by kernel_rfl) (fun _ _ _ h => h) (Or.inl ⟨by rfl, ?_⟩) ?_ ?_
                rotate_left
                · intro w'
                  go_simp
                  with_reducible rfl
                rotate_left
                · simp only [Act.put, List.setIfInBounds_toArray, List.set_cons_zero, List.set_cons_succ, i64_w, i32_w]
                  rfl
                refine pure_ (i := 10) (N := some 83) (v := ?_) (a' := ?_) #[true, true, true, true, true, true, true, true, true, true, true, false, false, false, false, false, false] rfl rfl (by kernel_rfl) (fun _ _ _ h => h) (Or.inl ⟨by rfl, ?_⟩) ?_ ?_
                rotate_left
                · intro w'
                  go_simp
                  with_reducible rfl
                rotate_left
                · simp only [Act.put, List.setIfInBounds_toArray, List.set_cons_zero, List.set_cons_succ, i64_w, i32_w]
                  rfl
                refine pure_ (i := 11) (N := some 84) (v := ?_) (a' := ?_) #[true, true, true, true, true, true, true, true, true, true, true, true, false, false, false, false, false] rfl rfl (by kernel_rfl) (fun _ _ _ h => h) (Or.inl ⟨by rfl, ?_⟩) ?_ ?_
                rotate_left
                · intro w'
                  go_simp
                  with_reducible rfl
                rotate_left
                · simp only [Act.put, List.setIfInBounds_toArray, List.set_cons_zero, List.set_cons_succ, i64_w, i32_w]
                  rfl
                refine pure_ (i := 12) (N := some 85) (v := ?_) (a' := ?_) #[true, true, true, true, true, true, true, true, true, true, true, true, true, false, false, false, false] rfl rfl (by kernel_rfl) (fun _ _ _ h => h) (Or.inl ⟨by rfl, ?_⟩) ?_ ?_
                rotate_left
                · intro w'
                  go_simp
                  with_reducible rfl
                rotate_left
                · simp only [Act.put, List.setIfInBounds_toArray, List.set_cons_zero, List.set_cons_succ, i64_w, i32_w]
                  rfl
                refine one_ (i := 13) (N := some 12) #[true, true, true, true, true, true, true, true, true, true, true, true, true, true, false, false, false] rfl rfl (by kernel_rfl) (by decide) (fun K hK => ?_)
                refine value_ (w1 := ?_) (v := ?_) (by rfl) rfl ?_ ?_
                rotate_left 2
                · go_simp
                  constructor
                  · rfl
                  · rfl
                refine hK.out _ _ ⟨(HFa.out _ (below_alloc hHeld.2.2 _)).1, (HFa.out _ (below_alloc hHeld.2.2 _)).2, (below_alloc hHeld.2.2 _)⟩ (fun hHeld => ?_)
                clear hK K
                refine norm_ (a' := ?_) ?_ ?_
                rotate_left
                · show Act.put _ (some 12) _ = _
                  simp only [Act.put, List.setIfInBounds_toArray, List.set_cons_zero, List.set_cons_succ, i64_w, i32_w]
                  rfl
                exact norm_ (by simp only [putAll, Act.put, List.setIfInBounds_toArray, List.set_cons_zero, List.set_cons_succ]) (hCont (w8.heap.size, A5, c5) _ ⟨⟨⟨(HFa.out _ (below_alloc HB8.out _)).1, (HFa.out _ (below_alloc HB8.out _)).2, (below_alloc HB8.out _)⟩, blk_new w8 _, HB8.out.size⟩, (HO8.out.alloc _)⟩)
              · skip
                refine value_ (w1 := ?_) (v := ?_) (by rfl) rfl ?_ ?_
                rotate_left 2
                · go_simp
                  constructor
                  · rfl
                  · rfl
                refine hK.out _ _ ⟨(HFa.out _ (below_alloc hHeld.2.2 _)).1, (HFa.out _ (below_alloc hHeld.2.2 _)).2, (below_alloc hHeld.2.2 _)⟩ (fun hHeld => ?_)
                clear hK K
                refine norm_ (a' := ?_) ?_ ?_
                rotate_left
                · show Act.put _ (some 12) _ = _
                  simp only [Act.put, List.setIfInBounds_toArray, List.set_cons_zero, List.set_cons_succ, i64_w, i32_w]
                  rfl
                refine one_ (i := 8) (N := some 82) #[true, true, true, true, true, true, true, true, true, false, false, false, false, true, false, false, false] rfl rfl (by kernel_rfl) (by decide) (fun K hK => ?_)
                refine goes_ Tryd.func43 (by kernel_rfl) rfl #[.slice (if c = iI.toNat then some ad else some (ad.add iI.toNat)) (f.f1.length - iI.toNat) (c - iI.toNat), .int .i64 (wrap64 ((n : Int) + 1))] (by rfl) rfl rfl (by simp only [List.map_toArray, List.map_cons, List.map_nil]; rfl) ?_
                with_reducible refine ((HWh.out _ hHeld.2.2)).mono ?_
                rintro e w8 ⟨v5, rfl, ho8, hb8⟩
                refine ⟨_, rfl, ?_⟩
                obtain ⟨A5, c5, rfl, _⟩ := own_form ho8
                have HO8 := Aside0.mk (own_lower ho8 hHeld.2.2.size)
                clear ho8
                have HB8 := Aside0.mk (hHeld.2.2.trans (hb8.mono hHeld.2.2.size))
                have HC8 := Aside0.mk hb8
                clear hb8
                refine hK.out _ _ ⟨(HFa.out _ HB8.out).1, (HFa.out _ HB8.out).2, HB8.out⟩ (fun hHeld => ?_)
                clear hK K
                refine norm_ (a' := ?_) ?_ ?_
                rotate_left
                · show Act.put _ (some 82) _ = _
                  simp only [Act.put, List.setIfInBounds_toArray, List.set_cons_zero, List.set_cons_succ, i64_w, i32_w]
                  rfl
                refine pure_ (i := 9) (N := some 73) (v := ?_) (a' := ?_) #[true, true, true, true, true, true, true, true, true, true, false, false, false, true, false, false, false] rfl rfl (by kernel_rfl) (fun _ _ _ h => h) (Or.inl ⟨by rfl, ?_⟩) ?_ ?_
                rotate_left
                · intro w'
                  go_simp
                  with_reducible rfl
                rotate_left
                · simp only [Act.put, List.setIfInBounds_toArray, List.set_cons_zero, List.set_cons_succ, i64_w, i32_w]
                  rfl
                refine pure_ (i := 10) (N := some 83) (v := ?_) (a' := ?_) #[true, true, true, true, true, true, true, true, true, true, true, false, false, true, false, false, false] rfl rfl (by kernel_rfl) (fun _ _ _ h => h) (Or.inl ⟨by rfl, ?_⟩) ?_ ?_
                rotate_left
                · intro w'
                  go_simp
                  with_reducible rfl
                rotate_left
                · simp only [Act.put, List.setIfInBounds_toArray, List.set_cons_zero, List.set_cons_succ, i64_w, i32_w]
                  rfl
                refine pure_ (i := 11) (N := some 84) (v := ?_) (a' := ?_) #[true, true, true, true, true, true, true, true, true, true, true, true, false, true, false, false, false] rfl rfl (by kernel_rfl) (fun _ _ _ h => h) (Or.inl ⟨by rfl, ?_⟩) ?_ ?_
                rotate_left
                · intro w'
                  go_simp
                  with_reducible rfl
                rotate_left
                · simp only [Act.put, List.setIfInBounds_toArray, List.set_cons_zero, List.set_cons_succ, i64_w, i32_w]
                  rfl
                refine pure_ (i := 12) (N := some 85) (v := ?_) (a' := ?_) #[true, true, true, true, true, true, true, true, true, true, true, true, true, true, false, false, false] rfl rfl (by kernel_rfl) (fun _ _ _ h => h) (Or.inl ⟨by rfl, ?_⟩) ?_ ?_
                rotate_left
                · intro w'
                  go_simp
                  with_reducible rfl
                rotate_left
                · simp only [Act.put, List.setIfInBounds_toArray, List.set_cons_zero, List.set_cons_succ, i64_w, i32_w]
                  rfl
                exact norm_ (by simp only [putAll, Act.put, List.setIfInBounds_toArray, List.set_cons_zero, List.set_cons_succ]) (hCont (wr.heap.size, A5, c5) _ ⟨⟨⟨(HFa.out _ HB8.out).1, (HFa.out _ HB8.out).2, HB8.out⟩, (HC8.out.block _ (by simp)).trans (blk_new wr.drew _), Nat.le_refl _⟩, HO8.out⟩)
            rintro ⟨g8, A8, c8⟩ w8 ⟨⟨hS8, hbk8, hge8⟩, ho8⟩
            have hHeld : w8.cell? ⟨gr + 1, 4, none⟩ = some (.int .i64 iI) ∧ w8.cell? ⟨gr + 1, 3, none⟩ = some (.slice Ar n cr) ∧ Below wr.heap.size wr w8 := hS8
            have f0 : w8.cell? ⟨g8, 0, none⟩ = some (.int .u8 0) := (blk_cell hbk8 0).trans rfl
            have f1 : w8.cell? ⟨g8, 1, none⟩ = some (.slice none 0 0) := (blk_cell hbk8 1).trans rfl
            have z0 : w8.frozen? ⟨g8, 0, none⟩ = false := blk_frozen hbk8 0
            have z1 : w8.frozen? ⟨g8, 1, none⟩ = false := blk_frozen hbk8 1
            have HS8 := Aside0.mk hS8
            have HK8 := Aside0.mk hbk8
            have HG8 := Aside0.mk hge8
            have HO8 := Aside0.mk ho8
            clear hS8 hbk8 hge8 ho8
            refine norm_ (a' := ?_) ?_ ?_
            rotate_left
            · simp only [putAll, Act.put, List.setIfInBounds_toArray, List.set_cons_zero, List.set_cons_succ]
              rfl
            refine pure_ (i := 14) (N := some 11) (v := ?_) (a' := ?_) #[true, true, true, true, true, true, true, true, true, true, true, true, true, true, true, false, false] rfl rfl (by kernel_rfl) (fun _ _ _ h => h) (Or.inl ⟨by rfl, ?_⟩) ?_ ?_
            rotate_left
            · intro w'
              go_simp
              with_reducible rfl
            rotate_left
            · simp only [Act.put, List.setIfInBounds_toArray, List.set_cons_zero, List.set_cons_succ, i64_w, i32_w]
              rfl
            refine last_ (i := 15) (N := none) #[true, true, true, true, true, true, true, true, true, true, true, true, true, true, true, true, false] rfl rfl (by kernel_rfl) (by decide) (fun K hK => ?_)
            refine skip_ (w1 := ?_) (by rfl) rfl ?_ ?_
            rotate_left
            · go_simp
              rfl
            refine hK.out _ _ ?_
            clear hK K
            refine pure_ (i := 16) (N := some 13) (v := ?_) (a' := ?_) #[true, true, true, true, true, true, true, true, true, true, true, true, true, true, true, true, true] rfl rfl (by kernel_rfl) (fun _ _ _ h => h) (Or.inl ⟨by rfl, ?_⟩) ?_ ?_
            rotate_left
            · intro w'
              go_simp
              with_reducible rfl
            rotate_left
            · simp only [Act.put, List.setIfInBounds_toArray, List.set_cons_zero, List.set_cons_succ, i64_w, i32_w]
              rfl
            refine done_ (by kernel_rfl) ?_
            generalize (if c = iI.toNat then some ad else some (ad.add iI.toNat)) = Ai
            obtain ⟨W9, hW9⟩ : ∃ W9, W9 = (w8.setCell ⟨g8, 0, none⟩ (.int .u8 r.kind)).setCell ⟨g8, 1, none⟩ (.slice A8 r.body.length c8) := ⟨_, rfl⟩
            rw [← hW9]
            obtain ⟨hb9, hk9, ho9⟩ := rec_box (b := 0) (B := 0) (n := r.body.length) (xs := nums .u8 r.body) HS8.out.2.2 HK8.out HG8.out hW9
            have HJ9 := Aside0.mk (HJ.out.below hb9)
            obtain ⟨sI, hsI⟩ : ∃ sI : Int, sI = (s : Nat) := ⟨_, rfl⟩
            obtain ⟨zI, hzI⟩ : ∃ zI : Int, zI = (sz : Nat) := ⟨_, rfl⟩
            rw [← hsI, ← hzI]
            have hin := whole_inv (HByt.out.drop _) HWs.out
            have zz : 18 ≤ zI ∧ zI ≤ 1048594 := by
              have := hin.2.2.2.2.1
              have := hin.2.1
              omega
            have z3 : (zI == 0) = false := by simp only [beq_eq_false_iff_ne, ne_eq]; omega
            have z4 : decide (zI = 0) = false := decide_eq_false (by omega)
            have z5 : (18 : Int) ≤ zI := zz.1
            have z6 : zI ≤ 1048594 := zz.2
            have HSI := Aside0.mk hsI
            have HZI := Aside0.mk hzI
            obtain ⟨jsI, hjsI⟩ : ∃ jsI : Int, jsI = ((j.got rs).sum : Nat) := ⟨_, rfl⟩
            have HJSI := Aside0.mk hjsI
            clear hin zz
            by_cases hs : s = j.sum
            · have e5 : (sI != jsI) = false := by
                have : (j.got rs).sum = j.sum := rfl
                simp only [bne_eq_false_iff_eq]; omega
              have e6 : decide (sI = jsI) = true := decide_eq_true (by have : (j.got rs).sum = j.sum := rfl; omega)
              obtain ⟨k0, k1', k2, k3, k4, k5, k6, y0, y1, y2, y3, y4, y5, y6⟩ := boxF HJ9.out.blj
              rw [← hjsI] at k1'
              have r0 : W9.cell? ⟨g8, 0, none⟩ = some (.int .u8 r.kind) := (blk_cell hk9 0).trans rfl
              have r1 : W9.cell? ⟨g8, 1, none⟩ = some (.slice A8 r.body.length c8) := (blk_cell hk9 1).trans rfl
              have hge9 : gr + 3 ≤ wr.heap.size := HBase.out
              have HO9 := Aside0.mk (ho9 (own_lower HO8.out hge9))
              have HB9 := Aside0.mk hb9
              have HS := Aside0.mk hs
              have HGE := Aside0.mk (Nat.le_trans hge9 hb9.size)
              have HOwn : Aside0 (W9.ownsRow (gr + 3) 37 2 (.slice Ar n cr) n (flatR L)) := ⟨by have := HJ9.out.rcl.own; rw [← HN.out] at this; exact this⟩
              have HLim : Aside0 ((n + 1) * 32 ≤ 140737488355328) := ⟨by omega⟩
              clear hs hsI hzI hjsI hge9 hW9 hb9 hk9 ho9 hHeld f0 f1 z0 z1 k0 k2 k4 k5 k6 y0 y1 y2 y3 y4 y5 y6
              go_wp2_with ((with_reducible refine gate_builtin (b := .append) (xs := #[.tmp 96, .tmp 98]) rfl ?_); at_builtin; refine print_append_cells (w0 := W9) (W := W9) (gr + 3) rfl (.tmp 96) (.tmp 98) 30 37 (.agg #[.int .u8 0, .slice none 0 0]) 2 32 rfl Tryd.underlying30 infoRec rfl (by decide) (by decide) (.slice Ar n cr) n (flatR L) [.int .u8 r.kind, .slice A8 r.body.length c8] rfl rfl rfl ?b1 HOwn.out (Below.refl _ _) HGE.out HLim.out ?_; (case b1 => intro u hu; simp only [List.mem_cons, List.not_mem_nil, or_false] at hu; rcases hu with rfl | rfl <;> rfl); intro v5 w5 ho5 hb5 hg5 _; obtain ⟨A9, c9, rfl, _⟩ := own_form ho5; have hbl5 := sk_box5 HJ9.out hg5; have HO5 := Aside0.mk ho5; have HG5 := Aside0.mk hg5; have k3 : w5.cell? ⟨gr + 1, 3, none⟩ = some (.slice Ar n cr) := (blk_cell hbl5 3).trans rfl; have k4 : w5.cell? ⟨gr + 1, 4, none⟩ = some (.int .i64 iI) := (by rw [HII.out]; exact (blk_cell hbl5 4).trans rfl); have y3 := blk_frozen hbl5 3; have y4 := blk_frozen hbl5 4; clear ho5 hb5 hg5 hbl5)
              go_roundg k1
              case measure => omega
              case rel =>
                refine ⟨rs ++ [r], L ++ [(r, .slice A8 r.body.length c8)], _, HJ.out.snoc HByt.out HWs.out HS.out HB9.out HO9.out HG5.out (by have := HO5.out; rw [HN.out] at this; exact this) ?_⟩
                rw [show (((j.got rs).size + sz : Nat) : Int) = iI + zI by have := HII.out; have := HZI.out; omega]
                first | done | rfl | (rw [HN.out])
            · have e5 : (sI != jsI) = true := by
                have : (j.got rs).sum = j.sum := rfl
                simp only [bne_iff_ne, ne_eq]; omega
              have e6 : decide (sI = jsI) = false := decide_eq_false (by have : (j.got rs).sum = j.sum := rfl; omega)
              have HT := Aside0.mk (HJ.out.nomore (by rw [HWs.out]; intro s_ r_ z_ h_; injection h_ with h_; injection h_ with h_ _; rw [← h_]; exact hs))
              obtain ⟨k0, k1', k2, k3, k4, k5, k6, y0, y1, y2, y3, y4, y5, y6⟩ := boxF HJ9.out.blj
              obtain ⟨q0, q1, q2, q3, q4, q5, q6, p0, p1, p2, p3, p4, p5, p6⟩ := boxF HJ9.out.blr
              rw [← hjsI] at k1'
              clear hs hsI hzI hjsI
              clear y0 y1 y2 y3 y4 y5 y6 b0 b1 b2 b3 b4 b5 hHeld f0 f1 z0 z1 hW9 hb9 hk9 ho9
              go_wp2
              obtain ⟨Wf, hWf⟩ : ∃ Wf, Wf = (((((((W9.setCell ⟨gr, 0, none⟩ (.int .i64 ((j.got rs).gen : Nat))).setCell ⟨gr, 1, none⟩ (.int .u32 jsI)).setCell ⟨gr, 2, none⟩ (.slice Av j.summary.length cv)).setCell ⟨gr, 3, none⟩ (.slice Ar n cr)).setCell ⟨gr, 4, none⟩ (.int .i64 ((j.got rs).size : Nat))).setCell ⟨gr, 5, none⟩ (.int .i64 ((j.got rs).all : Nat))).setCell ⟨gr, 6, none⟩ (.int .i64 (j.got rs).sure)) := ⟨_, rfl⟩
              rw [← hWf]
              obtain ⟨h1, h2⟩ := HJ9.out.post (Wf := Wf) HGR.out HT.out (by rw [hWf, HJSI.out])
              refine bodyPost_ret (res_seek rfl h1) rfl ?_
              rw [HTot.out]
              exact h2
    · intro x p kl yd yp w2 cnt2 hkey hlk hv hat hrg2 hlt hg2 hs2 hen
      obtain ⟨x', ex, rfl, _⟩ := Maps.keyOf_str Tryd.underlying9 hkey
      obtain rfl : x = x' := encStr_inj ex
      obtain ⟨f, hf, hfn, rfl, hfu⟩ := key_file HR.out hv hat
      have hes : encStr x = .string f.f0 := by rw [hfn, encStr]
      obtain ⟨A, c, hc, hsz, hall⟩ := HE.out f hf
      have hgw : gr ≤ w2.heap.size := Nat.le_trans (Nat.le_of_lt (blk_lt HI.out.blr)) hg2.size
      have hbw : Below w.heap.size w w2 := by
        have := HI.out.bel.grown hg2 (Nat.le_of_lt (blk_lt HI.out.blr)) (fun k hk => by cases hk; omega)
        rw [HGR.out] at this; exact this
      rw [hes] at hen ⊢
      have HG2 := Aside0.mk hg2
      have HRG2 := Aside0.mk hrg2
      have HLt := Aside0.mk hlt
      have HLk := Aside0.mk hlk
      have HAt : Aside0 (∀ zd : DataW Unit, (mapD fs gb).atKey (.string x) zd = yd) := ⟨hat⟩
      have HF := Aside0.mk hf
      have HFn := Aside0.mk hfn
      have HFu := Aside0.mk hfu
      have HCap := Aside0.mk hc
      have HSz := Aside0.mk hsz
      have HAll := Aside0.mk hall
      have HGw := Aside0.mk hgw
      have HBw := Aside0.mk hbw
      have HGen : Aside0 (∀ W, Below w.heap.size w W → Calls Tryd.prog 42 #[.string f.f0] W fun e w' => e = .returned (.int .i64 (genS f.f0 : Nat)) ∧ Below W.heap.size W w') := ⟨fun W h => generation_calls f.f0 W (HVP.out W h) h.size⟩
      have HWh : Aside0 (∀ W, Below w.heap.size w W → Calls Tryd.prog 43 #[.slice A f.f1.length c, .int .i64 0] W fun e w' => WholePost W w' e (wholeS f.f1 0)) := ⟨fun W h => whole_calls A c f.f1 0 W (HBy.out f HF.out) (HAll.out W h).2.2.1 HCap.out (by have := HSz.out; omega) (by omega)⟩
      obtain ⟨gI, hgI⟩ : ∃ gI : Int, gI = (genS f.f0 : Nat) := ⟨_, rfl⟩
      obtain ⟨jI, hjI⟩ : ∃ jI : Int, jI = (j.gen : Nat) := ⟨_, rfl⟩
      rw [← hgI] at HGen
      have HGI := Aside0.mk hgI
      have HJI := Aside0.mk hjI
      have HT1 := Aside0.mk trivial
      clear hgI hjI hkey hlk hv hat hrg2 hlt hg2 hs2 hes ex hf hfn hfu hc hsz hall hgw hbw
      rcases hws : wholeS f.f1 0 with _ | ⟨s, r, sz⟩
      · rw [hws] at HWh
        have HWS := Aside0.mk hws
        clear hws
        go_upto_region 7 with (first
          | (go_at_call 42; have q_ := HT1.out; clear q_ HT1; refine (HGen.out _ HBw.out).mono ?_; rintro e w3 ⟨rfl, hb3⟩; have HB3 := Aside0.mk hb3; have hw3 := HBw.out.trans (hb3.mono HBw.out.size); have HW3 := Aside0.mk hw3; have x0 := (HAll.out _ hw3).1; have HT2 := Aside0.mk trivial; clear hb3 hw3)
          | (go_at_call 43; have q_ := HT2.out; clear q_ HT2; refine (HWh.out _ HW3.out).mono ?_; rintro e w4 ⟨rfl, hb4⟩; have HB4 := Aside0.mk (HB3.out.trans (hb4.mono HB3.out.size)); clear hb4))
        obtain ⟨W5, hW5⟩ : ∃ W5, w4.alloc (.cells #[.int .u8 0, .slice none 0 0] 37) = W5 := ⟨_, rfl⟩
        rw [hW5]
        have HB5 := Aside0.mk (show Below w2.heap.size w2 W5 by rw [← hW5]; exact HB4.out.trans ((below_alloc (Below.refl _ _) _).mono HB4.out.size))
        clear hW5 x0
        have hI5 := HI.out.keep HO.out HRG2.out HG2.out HB5.out HLk.out HAt.out HF.out HFn.out HFu.out (step_none HWS.out)
        have HI5 := Aside0.mk hI5
        have k0 : W5.cell? ⟨gr + 1, 0, none⟩ = some (.int .i64 jI) := by rw [HJI.out]; exact (blk_cell hI5.blj 0).trans rfl
        clear hI5
        by_cases hle : gI ≤ jI
        · have e1 : decide (gI ≤ jI) = true := decide_eq_true hle
          go_wp2
          exact ⟨⟨_, cnt2, ss ++ [x], j, v, HI5.out⟩, by rw [HI5.out.rg.left_eq, HI.out.rg.left_eq]; exact HLt.out⟩
        · have e1 : decide (gI ≤ jI) = false := decide_eq_false hle
          go_wp2
          exact ⟨⟨_, cnt2, ss ++ [x], j, v, HI5.out⟩, by rw [HI5.out.rg.left_eq, HI.out.rg.left_eq]; exact HLt.out⟩
      · rw [hws] at HWh
        have HWS := Aside0.mk hws
        clear hws
        go_upto_region 7 with (first
          | (go_at_call 42; have q_ := HT1.out; clear q_ HT1; refine (HGen.out _ HBw.out).mono ?_; rintro e w3 ⟨rfl, hb3⟩; have HB3 := Aside0.mk hb3; have hw3 := HBw.out.trans (hb3.mono HBw.out.size); have HW3 := Aside0.mk hw3; have x0 := (HAll.out _ hw3).1; have HT2 := Aside0.mk trivial; clear hb3 hw3)
          | (go_at_call 43; have q_ := HT2.out; clear q_ HT2; refine (HWh.out _ HW3.out).mono ?_; rintro e w4 ⟨v5, rfl, ho4, hb4⟩; obtain ⟨A5, c5, rfl, _⟩ := own_form ho4; have HO4 := Aside0.mk ho4; have HB4 := Aside0.mk (HB3.out.trans (hb4.mono HB3.out.size)); clear hb4 ho4))
        obtain ⟨W5, hW5⟩ : ∃ W5, w4.alloc (.cells #[.int .u8 r.kind, (.slice A5 r.body.length c5)] 37) = W5 := ⟨_, rfl⟩
        rw [hW5]
        have HB5 := Aside0.mk (show Below w2.heap.size w2 W5 by rw [← hW5]; exact HB4.out.trans ((below_alloc (Below.refl _ _) _).mono HB4.out.size))
        have hr5 : W5.heap[w4.heap.size]? = some (.cells #[.int .u8 r.kind, (.slice A5 r.body.length c5)] 37 (0, 0)) := by rw [← hW5]; exact blk_new _ _
        have HO5 := Aside0.mk (show W5.ownsRow w3.heap.size 5 1 (.slice A5 r.body.length c5) r.body.length (nums .u8 r.body) by rw [← hW5]; exact HO4.out.alloc _)
        have HR5 := Aside0.mk hr5
        clear hW5 x0 hr5
        by_cases hle : gI ≤ jI
        · have e1 : decide (gI ≤ jI) = true := decide_eq_true hle
          have hI5 := HI.out.keep HO.out HRG2.out HG2.out HB5.out HLk.out HAt.out HF.out HFn.out HFu.out (step_less (by have := HGI.out; have := HJI.out; omega))
          have HI5 := Aside0.mk hI5
          have k0 : W5.cell? ⟨gr + 1, 0, none⟩ = some (.int .i64 jI) := by rw [HJI.out]; exact (blk_cell hI5.blj 0).trans rfl
          clear hI5
          go_wp2
          exact ⟨⟨_, cnt2, ss ++ [x], j, v, HI5.out⟩, by rw [HI5.out.rg.left_eq, HI.out.rg.left_eq]; exact HLt.out⟩
        · have e1 : decide (gI ≤ jI) = false := decide_eq_false hle
          obtain ⟨zI, hzI⟩ : ∃ zI : Int, zI = (sz : Nat) := ⟨_, rfl⟩
          rw [← hzI]
          have e2 : (zI == 0) = false := by
            have := (whole_inv (HBy.out f HF.out) HWS.out).2.2.2.2.1
            simp only [beq_eq_false_iff_ne, ne_eq]; omega
          have e3 : decide (zI = 0) = false := decide_eq_false (by
            have := (whole_inv (HBy.out f HF.out) HWS.out).2.2.2.2.1
            omega)
          have HZI := Aside0.mk hzI
          have hj5 : W5.heap[gr + 1]? = some (.cells (cF j v (.slice none 0 0)) 81 (0, 0)) := by
            have h1 := blk_lt HI.out.blj
            exact (HB5.out.block _ (Nat.lt_of_lt_of_le h1 HG2.out.size)).trans ((HG2.out.block _ h1 (by simp)).trans HI.out.blj)
          have HJ5 := Aside0.mk hj5
          obtain ⟨k0, k1, k2, k3, k4, k5, k6, y0, y1, y2, y3, y4, y5, y6⟩ := boxF hj5
          rw [← HJI.out] at k0
          have hw5 := HBw.out.trans (HB5.out.mono HBw.out.size)
          have x0 := (HAll.out _ hw5).1
          have x1 := (HAll.out _ hw5).2.1
          have r1 : W5.cell? ⟨w4.heap.size, 1, none⟩ = some (.slice A5 r.body.length c5) := (blk_cell HR5.out 1).trans rfl
          clear hj5 hw5 hzI
          go_upto_region 8 with fail
          go_region
          rw [HZI.out, HGI.out]
          obtain ⟨W6, hW6⟩ : ∃ W6, W6 = (((((((W5.setCell ⟨gr + 1, 0, none⟩ (.int .i64 (genS f.f0 : Nat))).setCell ⟨gr + 1, 1, none⟩ (.int .u32 (s : Nat))).setCell ⟨gr + 1, 2, none⟩ (.slice A5 r.body.length c5)).setCell ⟨gr + 1, 3, none⟩ (.slice none 0 0)).setCell ⟨gr + 1, 4, none⟩ (.int .i64 (sz : Nat))).setCell ⟨gr + 1, 5, none⟩ (.int .i64 (f.f1.length : Nat))).setCell ⟨gr + 1, 6, none⟩ (.int .i64 f.f2)) := ⟨_, rfl⟩
          rw [← hW6]
          obtain ⟨hb6, hg6⟩ := box_put (k := ⟨genS f.f0, s, r.body, [], sz, f.f1.length, f.f2⟩) (v' := .slice A5 r.body.length c5) (vr' := .slice none 0 0) HJ5.out hW6
          have hg6' : w2.grownBy W6.drew (some (gr + 1)) := gb_drew ((grown_of_below HB5.out _).trans hg6)
          have hb5 : gr + 2 + 1 ≤ w3.heap.size := by
            have := HI.out.rg.lt
            have := HG2.out.size
            have := HB3.out.size
            omega
          have hI6 := HI.out.take HO.out HRG2.out HG2.out hg6' HLk.out HAt.out HF.out HFn.out HFu.out (step_more HWS.out (by have := HGI.out; have := HJI.out; omega)) rfl (W_drew hb6)
            (gb_own (own_lower HO5.out hb5) (gb_drew hg6) (fun e => by have := own_base HO5.out _ e; omega))
          have HI6 := Aside0.mk hI6
          clear hI6 hg6' hg6 hb6 hW6 k0 k1 k2 k3 k4 k5 k6 y0 y1 y2 y3 y4 y5 y6 x0 x1 r1 e1 e2 e3
          go_wp2
          exact ⟨⟨_, cnt2, ss ++ [x], _, _, HI6.out⟩, by rw [HI6.out.rg.left_eq, HI.out.rg.left_eq]; exact HLt.out⟩
structure MB (b : Nat) (W : World) (col : RCol) (g gB : Nat) (d : Dk) (j : Fnd) (v vr : Value) : Prop where
  da : DA b W col g d
  box : W.heap[gB]? = some (.cells (cF j v vr) 81 (0, 0))
  tag : ¬ isP (col gB)
section
variable {b g gB : Nat} {w w' w2 : World} {col col' : RCol} {d d' : Dk} {j : Fnd} {v vr : Value}
theorem MB.post (h : MB b w col g gB d j v vr) (p : APost b w col g d' w') : ∃ col', Ch b w col w' col' isP ∧ MB b w' col' g gB d' j v vr := by
  obtain ⟨col', h1, h2⟩ := p
  exact ⟨col', h1, h2, h1.blk h.box h.tag, by rw [h1.same gB (blk_lt h.box)]; exact h.tag⟩
theorem MB.below (h : MB b w col g gB d j v vr) (hb : Below w.heap.size w w') : MB b w' col g gB d j v vr := ⟨h.da.below hb, (hb.block _ (blk_lt h.box)).trans h.box, h.tag⟩
theorem MB.start (h : DA b w col g d) (j : Fnd) (v vr : Value) {W1 : World} (hW : w.alloc (.cells (cF j v vr) 81) = W1) : Ch b w col W1 (colN col w.heap.size fun _ => .tm) isP ∧ MB b W1 (colN col w.heap.size fun _ => .tm) g w.heap.size d j v vr := by
  have hb : Below w.heap.size w W1 := by rw [← hW]; exact below_alloc (Below.refl _ _) _
  have hc : Ch b w col W1 (colN col w.heap.size fun _ => .tm) (fun _ => False) := Ch.of_new hb h.le _
  exact ⟨hc.mono fun _ h => h.elim, h.ch hc (fun _ _ h => h), by rw [← hW]; exact blk_new w _, by rw [colN_ge (Nat.le_refl _)]; exact fun h => h⟩
end
set_option maxRecDepth 100000 in
set_option maxHeartbeats 8000000 in
theorem mend_calls {b g : Nat} {w : World} {col : RCol} {d : Dk} (h : DA b w col g d) (j : Fnd) (v vr : Value) (hj : j.gen < 100000000) (hz : j.size ≤ 2097152) :
    Calls Tryd.prog 33 #[.pointer (some ⟨g, 0, none⟩), .agg (cF j v vr)] w fun e w' => e = .returned (.int .i64 (d.mend j).1) ∧ APost b w col g (d.mend j).2 w' := by
  obtain ⟨W1, hW1⟩ : ∃ W1, w.alloc (.cells (cF j v vr) 81) = W1 := ⟨_, rfl⟩
  obtain ⟨hc1, hm1⟩ := MB.start h j v vr hW1
  obtain ⟨col1, hcol1⟩ : ∃ col1, col1 = colN col w.heap.size fun _ => .tm := ⟨_, rfl⟩
  obtain ⟨gB, hgB⟩ : ∃ gB, gB = w.heap.size := ⟨_, rfl⟩
  rw [← hcol1] at hc1 hm1
  rw [← hgB] at hm1
  obtain ⟨gI, hgI⟩ : ∃ gI : Int, gI = (j.gen : Nat) := ⟨_, rfl⟩
  obtain ⟨sI, hsI⟩ : ∃ sI : Int, sI = (j.size : Nat) := ⟨_, rfl⟩
  obtain ⟨aI, haI⟩ : ∃ aI : Int, aI = (j.all : Nat) := ⟨_, rfl⟩
  obtain ⟨uI, huI⟩ : ∃ uI : Int, uI = j.sure := ⟨_, rfl⟩
  have hbox : ∀ {W : World}, W.heap[gB]? = some (.cells (cF j v vr) 81 (0, 0)) → W.cell? ⟨gB, 0, none⟩ = some (.int .i64 gI) ∧ W.cell? ⟨gB, 4, none⟩ = some (.int .i64 sI) ∧ W.cell? ⟨gB, 5, none⟩ = some (.int .i64 aI) ∧ W.cell? ⟨gB, 6, none⟩ = some (.int .i64 uI) := fun {W} hb => by
    obtain ⟨k0, k1, k2, k3, k4, k5, k6, _⟩ := boxF hb
    exact ⟨by rw [hgI]; exact k0, by rw [hsI]; exact k4, by rw [haI]; exact k5, by rw [huI]; exact k6⟩
  have HBox : Aside0 (∀ {W : World}, W.heap[gB]? = some (.cells (cF j v vr) 81 (0, 0)) → W.cell? ⟨gB, 0, none⟩ = some (.int .i64 gI) ∧ W.cell? ⟨gB, 4, none⟩ = some (.int .i64 sI) ∧ W.cell? ⟨gB, 5, none⟩ = some (.int .i64 aI) ∧ W.cell? ⟨gB, 6, none⟩ = some (.int .i64 uI)) := ⟨hbox⟩
  have HC1 := Aside0.mk hc1
  have HM1 := Aside0.mk hm1
  have HNm : Aside0 (∀ W d' col', MB b W col' g gB d' j v vr → Calls Tryd.prog 24 #[.int .i64 gI] W fun e w' => e = .returned (.string (nameS j.gen)) ∧ Below W.heap.size W w') := ⟨fun W d' col' hm => by rw [hgI]; exact name_calls j.gen hj W hm.da.vp⟩
  have HNs := Aside0.mk (show (nameS j.gen).size ≤ 140737488355328 by rw [nameS_size hj]; omega)
  have HE : Aside0 (gI = (j.gen : Nat) ∧ sI = (j.size : Nat) ∧ aI = (j.all : Nat) ∧ uI = j.sure) := ⟨⟨hgI, hsI, haI, huI⟩⟩
  have HW1 := Aside0.mk hW1
  have HGB := Aside0.mk hgB
  obtain ⟨k0, k4, k5, k6⟩ := hbox hm1.box
  obtain ⟨R, hR⟩ : ∃ R, R = d.mend j := ⟨_, rfl⟩
  have HR := Aside0.mk hR
  clear h hc1 hm1 hcol1 hgI hsI haI huI hbox hj hz hW1 hgB hR
  rw [← HR.out]
  go_enter Tryd.func33, Tryd.ntmps33
  go_upto_region 1 with fail
  rw [← HGB.out, show w.alloc (.cells (cF j v vr) 81) = W1 from HW1.out]
  rename_i Q0 K1 hK1 K0 hK0
  have hrest1 : ∀ (d1 : Dk) (col2 : RCol) (wc : World) (s5 s6 s7 s8 s9 s10 s11 s12 s13 s14 s15 s16 s17 s18 s19 s20 s21 s22 s23 s24 s25 s26 s27 s28 s29 s30 s31 s32 s33 s34 s35 s36 s37 s38 s39 s40 s41 s42 s43 s44 s45 s46 s47 s48 s49 s50 s51 s52 s53 s54 s55 s56 s57 s58 s59 s60 s61 s62 s63 s64 s65 s66 s67 s68 s69 s70 s71 s72 : Value), Ch b W1 col1 wc col2 isP → MB b wc col2 g gB d1 j v vr → d.mend1 j = (0, d1) → K1 { tmps := #[.pointer (some ⟨g, 0, none⟩), .agg (cF j v vr), undef, .pointer (some ⟨gB, 0, none⟩), .int .i64 0, s5, s6, s7, s8, s9, s10, s11, s12, s13, s14, s15, s16, s17, s18, s19, s20, s21, s22, s23, s24, s25, s26, s27, s28, s29, s30, s31, s32, s33, s34, s35, s36, s37, s38, s39, s40, s41, s42, s43, s44, s45, s46, s47, s48, s49, s50, s51, s52, s53, s54, s55, s56, s57, s58, s59, s60, s61, s62, s63, s64, s65, s66, s67, s68, s69, s70, s71, s72], defers := [] } wc := by
    intro d1 col2 wc s5 s6 s7 s8 s9 s10 s11 s12 s13 s14 s15 s16 s17 s18 s19 s20 s21 s22 s23 s24 s25 s26 s27 s28 s29 s30 s31 s32 s33 s34 s35 s36 s37 s38 s39 s40 s41 s42 s43 s44 s45 s46 s47 s48 s49 s50 s51 s52 s53 s54 s55 s56 s57 s58 s59 s60 s61 s62 s63 s64 s65 s66 s67 s68 s69 s70 s71 s72 hc2 hm2 hmd
    refine hK1 _ _ ?_
    clear hK1 hK0 K0 k0 k4 k5 k6
    obtain ⟨k0, k4, k5, k6⟩ := HBox.out hm2.box
    have HC2 := Aside0.mk hc2
    have HM2 := Aside0.mk hm2
    have HMd := Aside0.mk hmd
    clear hc2 hm2 hmd
    go_upto_region 5 with fail
    rename_i K2 hK2 K3 hK3
    have hrest2 : ∀ (d2 : Dk) (col3 : RCol) (wc2 : World) (s5 s6 s7 s8 s9 s10 s11 s12 s13 s14 s15 s16 s17 s18 s19 s20 s21 s22 s23 s24 s25 s26 s27 s28 s29 s30 s31 s32 s33 s34 s35 s36 s37 s38 s39 s40 s41 s42 s43 s44 s45 s46 s47 s48 s49 s50 s51 s52 s53 s54 s55 s56 s57 s58 s59 s60 s61 s62 s63 s64 s65 s66 s67 s68 s69 s70 s71 s72 : Value), Ch b wc col2 wc2 col3 isP → MB b wc2 col3 g gB d2 j v vr → d1.mend2 j = (0, d2) → K2 { tmps := #[.pointer (some ⟨g, 0, none⟩), .agg (cF j v vr), undef, .pointer (some ⟨gB, 0, none⟩), .int .i64 0, s5, s6, s7, s8, s9, s10, s11, s12, s13, s14, s15, s16, s17, s18, s19, s20, s21, s22, s23, s24, s25, s26, s27, s28, s29, s30, s31, s32, s33, s34, s35, s36, s37, s38, s39, s40, s41, s42, s43, s44, s45, s46, s47, s48, s49, s50, s51, s52, s53, s54, s55, s56, s57, s58, s59, s60, s61, s62, s63, s64, s65, s66, s67, s68, s69, s70, s71, s72], defers := [] } wc2 := by
      intro d2 col3 wc2 s5 s6 s7 s8 s9 s10 s11 s12 s13 s14 s15 s16 s17 s18 s19 s20 s21 s22 s23 s24 s25 s26 s27 s28 s29 s30 s31 s32 s33 s34 s35 s36 s37 s38 s39 s40 s41 s42 s43 s44 s45 s46 s47 s48 s49 s50 s51 s52 s53 s54 s55 s56 s57 s58 s59 s60 s61 s62 s63 s64 s65 s66 s67 s68 s69 s70 s71 s72 hc3 hm3 hmd2
      refine hK2 _ _ ?_
      clear hK2 hK3 K3 k0 k4 k5 k6
      have HRr : Aside0 (R = Dk.clear j.gen ((d2.fs.drop 0).map (·.f0)) d2) := ⟨by
        rw [HR.out, List.drop_zero]
        unfold Dk.mend
        rw [HMd.out]
        dsimp only
        rw [if_neg (by simp), hmd2]
        dsimp only
        rw [if_neg (by simp)]⟩
      have HC3 := Aside0.mk hc3
      have HM3 := Aside0.mk hm3
      clear hc3 hm3 hmd2
      have hfew := HM3.out.da.good.ok.few
      have HNmS : Aside0 (∀ f ∈ d2.fs, f.f0.size ≤ 140737488355328) := ⟨fun f hf => nm_size (HM3.out.da.good.ok.names f hf)⟩
      go_wp2_with (go_at_call 26; refine (names_a HM3.out.da).mono ?_; rintro e w5 ⟨NA, nc, rfl, hb, hcl⟩; have hc5 : Ch b wc2 col3 w5 (colN col3 wc2.heap.size fun _ => .tm) (fun _ => False) := Ch.of_new hb HM3.out.da.le _; have HC5 := Aside0.mk (hc5.mono (S' := isP) fun _ h => h.elim); have HM5 := Aside0.mk (MB.mk (b := b) (g := g) (gB := gB) (d := d2) (j := j) (v := v) (vr := vr) (HM3.out.da.ch hc5 (fun _ _ h => h)) ((hb.block _ (blk_lt HM3.out.box)).trans HM3.out.box) (by rw [hc5.same gB (blk_lt HM3.out.box)]; exact HM3.out.tag)); have HNc := Aside0.mk (fun i f hf => hcl w5 (Below.refl _ _) i f hf); have HTm : Aside0 (∀ k, wc2.heap.size ≤ k → (colN col3 wc2.heap.size fun _ => Role.tm) k = .tm) := ⟨fun k hk => colN_ge hk⟩; clear hb hcl hc5)
      obtain ⟨col5, hcol5⟩ : ∃ col5, col5 = colN col3 wc2.heap.size fun _ => Role.tm := ⟨_, rfl⟩
      rw [← hcol5] at HC5 HM5 HTm
      obtain ⟨n, hn⟩ : ∃ n, n = d2.fs.length := ⟨_, rfl⟩
      rw [← hn] at hfew ⊢
      have HN := Aside0.mk hn
      have HFew := Aside0.mk hfew
      clear hcol5 hn hfew
      go_loopw [52] (fun v52 wq => ∃ (i : Nat) (d' : Dk) (col' : RCol), i ≤ n ∧ v52 = .int .i64 i ∧ Ch b w5 col5 wq col' isP ∧ MB b wq col' g gB d' j v vr ∧ R = Dk.clear j.gen ((d2.fs.drop i).map (·.f0)) d') (fun v52 _ => n - (intOf v52).toNat)
      case atStart => exact ⟨0, d2, col5, by omega, rfl, Ch.refl HM5.out.da.le, HM5.out, HRr.out⟩
      case round =>
        obtain ⟨i, d', col', hi, rfl, hc, hm, hr⟩ := hrel
        obtain ⟨k0, k4, k5, k6⟩ := HBox.out hm.box
        clear k4 k5 k6
        by_cases h1 : i < n
        · obtain ⟨f, hf⟩ : ∃ f, d2.fs[i]? = some f := ⟨_, List.getElem?_eq_getElem (by have := HN.out; omega)⟩
          obtain ⟨nad, rfl, n0, hn1, hn2⟩ := HNc.out i f hf
          have n1 : wr.cell? (nad.add i) = some (.string f.f0) := by
            have e1 : (nad.add i).block = nad.block := by unfold Addr.add; split <;> rfl
            rw [← n0]
            unfold World.cell?
            rw [e1, hc.block _ hn2 (by rw [HTm.out _ hn1]; exact fun h => h)]
          have hdr : (d2.fs.drop i).map (·.f0) = f.f0 :: (d2.fs.drop (i + 1)).map (·.f0) := by
            have hil : i < d2.fs.length := by have := HN.out; omega
            rw [List.drop_eq_getElem_cons hil, List.map_cons]
            have : d2.fs[i] = f := (List.getElem?_eq_some_iff.1 hf).2
            rw [this]
          rw [hdr] at hr
          unfold Dk.clear at hr
          have HFs := Aside0.mk (HNmS.out f (List.mem_of_getElem? hf))
          have j1 : (i : Int) < (n : Int) := by omega
          have j2 : (0 : Int) ≤ (i : Int) := by omega
          have j3 : (i : Int) < 64 := by have := HFew.out; omega
          have HK3 : Aside0 (wrap64 ((i : Int) + 1) = ((i : Int) + 1)) := ⟨PA.wr (by omega) (by omega)⟩
          have H1 := Aside0.mk (Nat.succ_le_of_lt h1)
          have HEQ := Aside0.mk (congrArg (Value.int .i64) (show wrap64 ((i : Int) + 1) = ((i + 1 : Nat) : Int) from HK3.out))
          have HMS := Aside0.mk (meas_lt h1 HK3.out)
          have HEQ2 := Aside0.mk (show Value.int .i64 ((i : Int) + 1) = Value.int .i64 ((i + 1 : Nat) : Int) from rfl)
          have HMS2 := Aside0.mk (meas_lt2 h1)
          obtain ⟨qI, hqI⟩ : ∃ qI : Int, qI = (genS f.f0 : Nat) := ⟨_, rfl⟩
          have HGn : Aside0 (Calls Tryd.prog 42 #[.string f.f0] wr fun e w' => e = .returned (.int .i64 qI) ∧ Below wr.heap.size wr w') := ⟨by rw [hqI]; exact generation_calls f.f0 wr hm.da.vp hm.da.le⟩
          have HC := Aside0.mk hc
          have HM := Aside0.mk hm
          have HRr2 := Aside0.mk hr
          have HQ := Aside0.mk hqI
          clear hf h1 hi hn1 hn2 n0 hdr hc hm hr hqI
          by_cases q1 : 0 < qI
          · by_cases q2 : qI = gI
            · have y1 : decide (0 < qI) = true := decide_eq_true q1
              have y2 : (qI != gI) = false := by simp [q2]
              have y3 : decide (qI = gI) = true := decide_eq_true q2
              have HNx : Aside0 (R = Dk.clear j.gen ((d2.fs.drop (i + 1)).map (·.f0)) d') := ⟨by
                rw [HRr2.out, if_neg (by have := HQ.out; have := HE.out.1; omega)]⟩
              clear q1 q2
              go_wp2_with (go_at_call 42; refine HGn.out.mono ?_; rintro e w6 ⟨rfl, hb6⟩; have k7 := (HBox.out (HM.out.below hb6).box).1; have HB6 := Aside0.mk hb6; clear hb6)
              exact ⟨⟨i + 1, d', col', H1.out, by first | exact HEQ.out | exact HEQ2.out, HC.out.trans (Ch.of_below HB6.out HM.out.da.le), HM.out.below HB6.out, HNx.out⟩, by first | exact HMS.out | exact HMS2.out⟩
            · have y1 : decide (0 < qI) = true := decide_eq_true q1
              have y2 : (qI != gI) = true := by simp [q2]
              have y3 : decide (qI = gI) = false := decide_eq_false q2
              obtain ⟨r, hr⟩ : ∃ r, r = (d'.chg f.f0).1 := ⟨_, rfl⟩
              have HRr3 : Aside0 (R = if r ≠ 0 then (r, d'.rem f.f0) else Dk.clear j.gen ((d2.fs.drop (i + 1)).map (·.f0)) (d'.rem f.f0)) := ⟨by
                rw [HRr2.out, if_pos (by have := HQ.out; have := HE.out.1; omega), hr]⟩
              have HRm : Aside0 (∀ W, Below wr.heap.size wr W → Calls Tryd.prog 41 #[.pointer (some ⟨g, 0, none⟩), .string f.f0] W fun e w' => e = .returned (.int .i64 r) ∧ ∃ col2, Ch b wr col' w' col2 isP ∧ MB b w' col2 g gB (d'.rem f.f0) j v vr) := ⟨fun W hb => by
                have hm := HM.out.below hb
                refine (remove_a hm.da f.f0 HFs.out).mono fun e w' h => ⟨by rw [hr]; exact h.1, ?_⟩
                obtain ⟨col2, q1, q2⟩ := hm.post h.2
                exact ⟨col2, (Ch.of_below (S := isP) hb HM.out.da.le).trans q1, q2⟩⟩
              clear q1 q2 hr
              by_cases h0 : r = 0
              · have z1 : (r != 0) = false := by simp [h0]
                have z2 : decide (r = 0) = true := decide_eq_true h0
                have HNx : Aside0 (R = Dk.clear j.gen ((d2.fs.drop (i + 1)).map (·.f0)) (d'.rem f.f0)) := ⟨by
                  rw [HRr3.out, if_neg (by simp [h0])]⟩
                clear h0
                go_wp2_with (first
                  | (go_at_call 42; refine HGn.out.mono ?_; rintro e w6 ⟨rfl, hb6⟩; have k7 := (HBox.out (HM.out.below hb6).box).1; have HB6 := Aside0.mk hb6; clear hb6)
                  | (go_at_call 41; have q_ := HB6.out; clear q_; refine (HRm.out _ HB6.out).mono ?_; rintro e w7 ⟨rfl, col7, hc7, hm7⟩; have HC7 := Aside0.mk hc7; have HM7 := Aside0.mk hm7; clear hc7 hm7))
                exact ⟨⟨i + 1, d'.rem f.f0, col7, H1.out, by first | exact HEQ.out | exact HEQ2.out, HC.out.trans HC7.out, HM7.out, HNx.out⟩, by first | exact HMS.out | exact HMS2.out⟩
              · have z1 : (r != 0) = true := by simp [h0]
                have z2 : decide (r = 0) = false := decide_eq_false h0
                have HNx : Aside0 (R = (r, d'.rem f.f0)) := ⟨by
                  rw [HRr3.out, if_pos h0]⟩
                clear h0
                go_wp2_with (first
                  | (go_at_call 42; refine HGn.out.mono ?_; rintro e w6 ⟨rfl, hb6⟩; have k7 := (HBox.out (HM.out.below hb6).box).1; have HB6 := Aside0.mk hb6; clear hb6)
                  | (go_at_call 41; have q_ := HB6.out; clear q_; refine (HRm.out _ HB6.out).mono ?_; rintro e w7 ⟨rfl, col7, hc7, hm7⟩; have HC7 := Aside0.mk hc7; have HM7 := Aside0.mk hm7; clear hc7 hm7))
                go_ret
                rw [HNx.out]
                exact ⟨rfl, col7, HC1.out.trans (HC2.out.trans (HC3.out.trans (HC5.out.trans (HC.out.trans HC7.out)))), HM7.out.da⟩
          · have y1 : decide (0 < qI) = false := decide_eq_false q1
            have HNx : Aside0 (R = Dk.clear j.gen ((d2.fs.drop (i + 1)).map (·.f0)) d') := ⟨by
              rw [HRr2.out, if_neg (by have := HQ.out; have := HE.out.1; omega)]⟩
            clear q1
            go_wp2_with (go_at_call 42; refine HGn.out.mono ?_; rintro e w6 ⟨rfl, hb6⟩; have k7 := (HBox.out (HM.out.below hb6).box).1; have HB6 := Aside0.mk hb6; clear hb6)
            exact ⟨⟨i + 1, d', col', H1.out, by first | exact HEQ.out | exact HEQ2.out, HC.out.trans (Ch.of_below HB6.out HM.out.da.le), HM.out.below HB6.out, HNx.out⟩, by first | exact HMS.out | exact HMS2.out⟩
        · have j5 : decide (i < n) = false := decide_eq_false h1
          have j6 : decide ((i : Int) < (n : Int)) = false := decide_eq_false (by omega)
          have hin : i = n := by omega
          have HNx : Aside0 (R = (0, d')) := ⟨by
            rw [hr, hin, HN.out, List.drop_length]; rfl⟩
          have HC := Aside0.mk hc
          have HM := Aside0.mk hm
          clear h1 hi hin hr hc hm k0
          go_wp2
          go_ret
          rw [HNx.out]
          exact ⟨rfl, col', HC1.out.trans (HC2.out.trans (HC3.out.trans (HC5.out.trans HC.out))), HM.out.da⟩
    clear hK2
    have HT1 := Aside0.mk trivial
    by_cases c1 : 0 < gI
    · by_cases c2 : uI < sI
      · have e1 : decide (0 < gI) = true := decide_eq_true c1
        have e2 : decide (uI < sI) = true := decide_eq_true c2
        obtain ⟨r, hr⟩ : ∃ r, r = (d1.chg (nameS j.gen)).1 := ⟨_, rfl⟩
        obtain ⟨d2, hd2⟩ : ∃ d2, d2 = d1.doF (nameS j.gen) syncF := ⟨_, rfl⟩
        have hmd : d1.mend2 j = (r, d2) := by
          have := HE.out
          unfold Dk.mend2
          rw [if_pos (by omega), hr, hd2]
        have HMd2 := Aside0.mk hmd
        have HNa : Aside0 (∀ W, Below wc.heap.size wc W → Calls Tryd.prog 24 #[.int .i64 gI] W fun e w' => e = .returned (.string (nameS j.gen)) ∧ Below W.heap.size W w') := ⟨fun W hb => HNm.out W d1 col2 (HM2.out.below hb)⟩
        have HSy : Aside0 (∀ W, Below wc.heap.size wc W → Calls Tryd.prog 36 #[.pointer (some ⟨g, 0, none⟩), .string (nameS j.gen)] W fun e w' => e = .returned (.int .i64 r) ∧ ∃ col', Ch b wc col2 w' col' isP ∧ MB b w' col' g gB d2 j v vr) := ⟨fun W hb => by
          have hm := HM2.out.below hb
          refine (sync_a hm.da (nameS j.gen) HNs.out).mono fun e w' h => ⟨by rw [hr]; exact h.1, ?_⟩
          obtain ⟨col', q1, q2⟩ := hm.post h.2
          exact ⟨col', (Ch.of_below (S := isP) hb HM2.out.da.le).trans q1, by rw [hd2]; exact q2⟩⟩
        clear c1 c2 hr hd2 hmd
        by_cases h0 : r = 0
        · have z1 : (r != 0) = false := by simp [h0]
          have z2 : decide (r = 0) = true := decide_eq_true h0
          have HH0 := Aside0.mk h0
          clear h0
          go_wp2_with (first
            | (go_at_call 24; have q_ := HT1.out; clear q_ HT1; refine (HNa.out _ (Below.refl _ _)).mono ?_; rintro e w3 ⟨rfl, hb3⟩; have HB3 := Aside0.mk hb3; clear hb3)
            | (go_at_call 36; have q_ := HB3.out; clear q_; refine (HSy.out _ HB3.out).mono ?_; rintro e w4 ⟨rfl, col3, hc3, hm3⟩; have HC3 := Aside0.mk hc3; have HM3 := Aside0.mk hm3; clear hc3 hm3))
          exact hrest2 d2 col3 _ _ _ _ _ _ _ _ _ _ _ _ _ _ _ _ _ _ _ _ _ _ _ _ _ _ _ _ _ _ _ _ _ _ _ _ _ _ _ _ _ _ _ _ _ _ _ _ _ _ _ _ _ _ _ _ _ _ _ _ _ _ _ _ _ _ _ _ _ HC3.out HM3.out (by rw [HMd2.out, HH0.out])
        · have z1 : (r != 0) = true := by simp [h0]
          have z2 : decide (r = 0) = false := decide_eq_false h0
          have HFin : Aside0 (R = (r, d2)) := ⟨by
            rw [HR.out]
            unfold Dk.mend
            rw [HMd.out]
            dsimp only
            rw [if_neg (by simp), HMd2.out]
            dsimp only
            rw [if_pos h0]⟩
          clear h0
          go_wp2_with (first
            | (go_at_call 24; have q_ := HT1.out; clear q_ HT1; refine (HNa.out _ (Below.refl _ _)).mono ?_; rintro e w3 ⟨rfl, hb3⟩; have HB3 := Aside0.mk hb3; clear hb3)
            | (go_at_call 36; have q_ := HB3.out; clear q_; refine (HSy.out _ HB3.out).mono ?_; rintro e w4 ⟨rfl, col3, hc3, hm3⟩; have HC3 := Aside0.mk hc3; have HM3 := Aside0.mk hm3; clear hc3 hm3))
          go_ret
          rw [HFin.out]
          exact ⟨rfl, col3, HC1.out.trans (HC2.out.trans HC3.out), HM3.out.da⟩
      · have e1 : decide (0 < gI) = true := decide_eq_true c1
        have e2 : decide (uI < sI) = false := decide_eq_false c2
        have hmd : d1.mend2 j = (0, d1) := by
          have := HE.out
          unfold Dk.mend2
          rw [if_neg (by omega)]
        have HMd2 := Aside0.mk hmd
        clear c1 c2 hmd
        go_wp2
        exact hrest2 d1 col2 _ _ _ _ _ _ _ _ _ _ _ _ _ _ _ _ _ _ _ _ _ _ _ _ _ _ _ _ _ _ _ _ _ _ _ _ _ _ _ _ _ _ _ _ _ _ _ _ _ _ _ _ _ _ _ _ _ _ _ _ _ _ _ _ _ _ _ _ _ (Ch.refl HM2.out.da.le) HM2.out HMd2.out
    · have e1 : decide (0 < gI) = false := decide_eq_false c1
      have hmd : d1.mend2 j = (0, d1) := by
        have := HE.out
        unfold Dk.mend2
        rw [if_neg (by omega)]
      have HMd2 := Aside0.mk hmd
      clear c1 hmd
      go_wp2
      exact hrest2 d1 col2 _ _ _ _ _ _ _ _ _ _ _ _ _ _ _ _ _ _ _ _ _ _ _ _ _ _ _ _ _ _ _ _ _ _ _ _ _ _ _ _ _ _ _ _ _ _ _ _ _ _ _ _ _ _ _ _ _ _ _ _ _ _ _ _ _ _ _ _ _ (Ch.refl HM2.out.da.le) HM2.out HMd2.out
  clear hK1
  have hfa : ∀ W, Below W1.heap.size W1 W → W.cell? ⟨gB, 0, none⟩ = some (.int .i64 gI) ∧ W.cell? ⟨gB, 4, none⟩ = some (.int .i64 sI) := fun W hb => by
    have := HBox.out (HM1.out.below hb).box
    exact ⟨this.1, this.2.1⟩
  by_cases c1 : 0 < gI
  · by_cases c2 : sI < aI
    · have e1 : decide (0 < gI) = true := decide_eq_true c1
      have e2 : decide (sI < aI) = true := decide_eq_true c2
      obtain ⟨r, hr⟩ : ∃ r, r = (d.chg (nameS j.gen)).1 := ⟨_, rfl⟩
      obtain ⟨d1, hd1⟩ : ∃ d1, d1 = d.doF (nameS j.gen) (trimF j.size) := ⟨_, rfl⟩
      have hmd : d.mend1 j = (r, d1) := by
        have := HE.out
        unfold Dk.mend1
        rw [if_pos (by omega), hr, hd1]
      have HMd := Aside0.mk hmd
      have HFa := Aside0.mk hfa
      have HNa : Aside0 (∀ W, Below W1.heap.size W1 W → Calls Tryd.prog 24 #[.int .i64 gI] W fun e w' => e = .returned (.string (nameS j.gen)) ∧ Below W.heap.size W w') := ⟨fun W hb => HNm.out W d col1 (HM1.out.below hb)⟩
      have HTr : Aside0 (∀ W, Below W1.heap.size W1 W → Calls Tryd.prog 44 #[.pointer (some ⟨g, 0, none⟩), .string (nameS j.gen), .int .i64 sI] W fun e w' => e = .returned (.int .i64 r) ∧ ∃ col', Ch b W1 col1 w' col' isP ∧ MB b w' col' g gB d1 j v vr) := ⟨fun W hb => by
        have hm := HM1.out.below hb
        rw [HE.out.2.1]
        refine (trim_a hm.da (nameS j.gen) j.size HNs.out).mono fun e w' h => ⟨by rw [hr]; exact h.1, ?_⟩
        obtain ⟨col', q1, q2⟩ := hm.post h.2
        exact ⟨col', (Ch.of_below (S := isP) hb HM1.out.da.le).trans q1, by rw [hd1]; exact q2⟩⟩
      clear c1 c2 hr hd1 hmd hfa
      go_upto_region 2 with fail
      refine start_ (n := 8) (S := fun w' => w'.cell? ⟨gB, 0, none⟩ = some (.int .i64 gI) ∧ w'.cell? ⟨gB, 4, none⟩ = some (.int .i64 sI) ∧ Below W1.heap.size W1 w') (ds := [6]) #[false, false, false, false, false, false, false, false] (by kernel_rfl) rfl rfl ⟨(HFa.out _ (below_drew (Below.refl _ _))).1, (HFa.out _ (below_drew (Below.refl _ _))).2, (below_drew (Below.refl _ _))⟩ (fun hHeld => ?_)
      refine pure_ (i := 0) (N := some 21) (v := ?_) (a' := ?_) #[true, false, false, false, false, false, false, false] rfl rfl (by kernel_rfl) (fun _ _ _ h => h) (Or.inl ⟨by rfl, ?_⟩) ?_ ?_
      rotate_left
      · intro w'
        go_simp
        with_reducible rfl
      rotate_left
      · simp only [Act.put, List.setIfInBounds_toArray, List.set_cons_zero, List.set_cons_succ, i64_w, i32_w]
        rfl
      refine pure_ (i := 1) (N := some 22) (v := ?_) (a' := ?_) #[true, true, false, false, false, false, false, false] rfl rfl (by kernel_rfl) (fun _ _ _ h => h) (Or.inl ⟨by rfl, ?_⟩) ?_ ?_
      rotate_left
      · intro w'
        go_simp
        with_reducible rfl
      rotate_left
      · simp only [Act.put, List.setIfInBounds_toArray, List.set_cons_zero, List.set_cons_succ, i64_w, i32_w]
        rfl
      refine pure_ (i := 4) (N := some 25) (v := ?_) (a' := ?_) #[true, true, false, false, true, false, false, false] rfl rfl (by kernel_rfl) (fun _ _ _ h => h) (Or.inl ⟨by rfl, ?_⟩) ?_ ?_
      rotate_left
      · intro w'
        go_simp
        with_reducible rfl
      rotate_left
      · simp only [Act.put, List.setIfInBounds_toArray, List.set_cons_zero, List.set_cons_succ, i64_w, i32_w]
        rfl
      refine take_ (i := 2) (N := some 23) (v := ?_) (a' := ?_) #[true, true, true, false, true, false, false, false] rfl rfl (by kernel_rfl) (fun _ _ _ h => h) (Or.inl ⟨by rfl, ?_⟩) hHeld ?_ ?_
      rotate_left
      · rintro w' ⟨s0, s1, s2⟩
        go_simp
        with_reducible rfl
      rotate_left
      · simp only [Act.put, List.setIfInBounds_toArray, List.set_cons_zero, List.set_cons_succ, i64_w, i32_w]
        rfl
      refine take_ (i := 5) (N := some 26) (v := ?_) (a' := ?_) #[true, true, true, false, true, true, false, false] rfl rfl (by kernel_rfl) (fun _ _ _ h => h) (Or.inl ⟨by rfl, ?_⟩) hHeld ?_ ?_
      rotate_left
      · rintro w' ⟨s0, s1, s2⟩
        go_simp
        with_reducible rfl
      rotate_left
      · simp only [Act.put, List.setIfInBounds_toArray, List.set_cons_zero, List.set_cons_succ, i64_w, i32_w]
        rfl
      refine one_ (i := 3) (N := some 24) #[true, true, true, true, true, true, false, false] rfl rfl (by kernel_rfl) (by decide) (fun K hK => ?_)
      refine goes_ Tryd.func24 (by kernel_rfl) rfl #[.int .i64 gI] (by rfl) rfl rfl (by simp only [List.map_toArray, List.map_cons, List.map_nil]; rfl) ?_
      with_reducible refine ((HNa.out _ hHeld.2.2)).mono ?_
      rintro e w3 ⟨rfl, hb3⟩
      refine ⟨_, rfl, ?_⟩
      have HB3 := Aside0.mk (hHeld.2.2.trans (hb3.mono hHeld.2.2.size))
      clear hb3
      refine hK.out _ _ ⟨(HFa.out _ HB3.out).1, (HFa.out _ HB3.out).2, HB3.out⟩ (fun hHeld => ?_)
      clear hK K
      refine norm_ (a' := ?_) ?_ ?_
      rotate_left
      · show Act.put _ (some 24) _ = _
        simp only [Act.put, List.setIfInBounds_toArray, List.set_cons_zero, List.set_cons_succ, i64_w, i32_w]
        rfl
      refine last_ (i := 6) (N := some 27) #[true, true, true, true, true, true, true, false] rfl rfl (by kernel_rfl) (by decide) (fun K hK => ?_)
      refine goes_ Tryd.func44 (by kernel_rfl) rfl #[.pointer (some ⟨g, 0, none⟩), .string (nameS j.gen), .int .i64 sI] (by rfl) rfl rfl (by simp only [List.map_toArray, List.map_cons, List.map_nil]; rfl) ?_
      with_reducible refine ((HTr.out _ hHeld.2.2)).mono ?_
      rintro e w4 ⟨rfl, hp4⟩
      refine ⟨_, rfl, ?_⟩
      have HP4 := Aside0.mk hp4
      clear hp4
      refine hK.out _ _ ?_
      clear hK K
      refine norm_ (a' := ?_) ?_ ?_
      rotate_left
      · show Act.put _ (some 27) _ = _
        simp only [Act.put, List.setIfInBounds_toArray, List.set_cons_zero, List.set_cons_succ, i64_w, i32_w]
        rfl
      refine pure_ (i := 7) (N := some 5) (v := ?_) (a' := ?_) #[true, true, true, true, true, true, true, true] rfl rfl (by kernel_rfl) (fun _ _ _ h => h) (Or.inl ⟨by rfl, ?_⟩) ?_ ?_
      rotate_left
      · intro w'
        go_simp
        with_reducible rfl
      rotate_left
      · simp only [Act.put, List.setIfInBounds_toArray, List.set_cons_zero, List.set_cons_succ, i64_w, i32_w]
        rfl
      refine done_ (by kernel_rfl) ?_
      obtain ⟨col2, hc2, hm2⟩ := HP4.out
      by_cases h0 : r = 0
      · have z1 : (r != 0) = false := by simp [h0]
        have z2 : decide (r = 0) = true := decide_eq_true h0
        have HC2 := Aside0.mk hc2
        have HM2 := Aside0.mk hm2
        have HH0 := Aside0.mk h0
        clear hc2 hm2 h0 HP4
        go_wp2
        exact hrest1 d1 col2 _ _ _ _ _ _ _ _ _ _ _ _ _ _ _ _ _ _ _ _ _ _ _ _ _ _ _ _ _ _ _ _ _ _ _ _ _ _ _ _ _ _ _ _ _ _ _ _ _ _ _ _ _ _ _ _ _ _ _ _ _ _ _ _ _ _ _ _ _ HC2.out HM2.out (by rw [HMd.out, HH0.out])
      · have z1 : (r != 0) = true := by simp [h0]
        have z2 : decide (r = 0) = false := decide_eq_false h0
        have HFin : Aside0 (R.1 = r ∧ R.2 = d1) := ⟨by
          rw [HR.out]
          unfold Dk.mend
          rw [HMd.out, if_pos h0]
          exact ⟨rfl, rfl⟩⟩
        have HC2 := Aside0.mk hc2
        have HM2 := Aside0.mk hm2
        clear hc2 hm2 h0 HP4
        go_wp2
        go_ret
        rw [HFin.out.1, HFin.out.2]
        exact ⟨rfl, col2, HC1.out.trans HC2.out, HM2.out.da⟩
    · have e1 : decide (0 < gI) = true := decide_eq_true c1
      have e2 : decide (sI < aI) = false := decide_eq_false c2
      have hmd : d.mend1 j = (0, d) := by
        have := HE.out
        unfold Dk.mend1
        rw [if_neg (by omega)]
      have HMd := Aside0.mk hmd
      clear c1 c2 hmd hfa
      go_wp2
      exact hrest1 d col1 _ _ _ _ _ _ _ _ _ _ _ _ _ _ _ _ _ _ _ _ _ _ _ _ _ _ _ _ _ _ _ _ _ _ _ _ _ _ _ _ _ _ _ _ _ _ _ _ _ _ _ _ _ _ _ _ _ _ _ _ _ _ _ _ _ _ _ _ _ (Ch.refl HM1.out.da.le) HM1.out HMd.out
  · have e1 : decide (0 < gI) = false := decide_eq_false c1
    have hmd : d.mend1 j = (0, d) := by
      have := HE.out
      unfold Dk.mend1
      rw [if_neg (by omega)]
    have HMd := Aside0.mk hmd
    clear c1 hmd hfa
    go_wp2
    exact hrest1 d col1 _ _ _ _ _ _ _ _ _ _ _ _ _ _ _ _ _ _ _ _ _ _ _ _ _ _ _ _ _ _ _ _ _ _ _ _ _ _ _ _ _ _ _ _ _ _ _ _ _ _ _ _ _ _ _ _ _ _ _ _ _ _ _ _ _ _ _ _ _ (Ch.refl HM1.out.da.le) HM1.out HMd.out
structure OB (B : Nat) (W : World) (col : RCol) (v vr : Value) (xs : List Int) (L : List (Rec × Value)) : Prop where
  row : W.ownsRow B 5 1 v xs.length (nums .u8 xs)
  rcl : RcL B W vr L
  tv : ∀ k, v.ownBlock = some k → ¬ isP (col k)
  tr : ∀ k, vr.ownBlock = some k → ¬ isP (col k)
  tp : ∀ p ∈ L, ∀ k, p.2.ownBlock = some k → ¬ isP (col k)
section
variable {b B g gB : Nat} {w w' w2 : World} {col col' : RCol} {d d' : Dk} {j : Fnd} {v vr : Value} {xs : List Int} {L : List (Rec × Value)}
theorem OB.ch (h : OB B w col v vr xs L) (c : Ch b w col w' col' isP) : OB B w' col' v vr xs L := by
  refine ⟨own_move h.row fun k hk => c.block k (own_lt h.row k hk) (h.tv k hk), ⟨own_move h.rcl.own fun k hk => c.block k (own_lt h.rcl.own k hk) (h.tr k hk), fun p hp => own_move (h.rcl.rows p hp) fun k hk => c.block k (own_lt (h.rcl.rows p hp) k hk) (h.tp p hp k hk)⟩, fun k hk => ?_, fun k hk => ?_, fun p hp k hk => ?_⟩
  · rw [c.same k (own_lt h.row k hk)]; exact h.tv k hk
  · rw [c.same k (own_lt h.rcl.own k hk)]; exact h.tr k hk
  · rw [c.same k (own_lt (h.rcl.rows p hp) k hk)]; exact h.tp p hp k hk
theorem OB.below (h : OB B w col v vr xs L) (hb : Below w.heap.size w w') : OB B w' col v vr xs L :=
  ⟨own_move h.row fun k hk => hb.block k (own_lt h.row k hk), h.rcl.below hb, h.tv, h.tr, h.tp⟩
theorem OB.other (h : OB B w col v vr xs L) {r : Nat} {o : Obj} (hb : w.heap[r]? = some o) (hg : w.grownBy w' (some r)) (hv : v.ownBlock ≠ some r) (hr : vr.ownBlock ≠ some r) (hp : ∀ p ∈ L, p.2.ownBlock ≠ some r) : OB B w' col v vr xs L :=
  ⟨gb_own h.row hg hv, ⟨own_move h.rcl.own fun k hk => hg.block k (own_lt h.rcl.own k hk) (fun e => hr (by rw [hk]; exact e.symm ▸ rfl)), fun p hq => own_move (h.rcl.rows p hq) fun k hk => hg.block k (own_lt (h.rcl.rows p hq) k hk) (fun e => hp p hq (by rw [hk]; exact e.symm ▸ rfl))⟩, h.tv, h.tr, h.tp⟩
theorem OB.start (hv : w'.ownsRow w.heap.size 5 1 v xs.length (nums .u8 xs)) (hr : RcL w.heap.size w' vr L) : OB w.heap.size w' (colN col w.heap.size fun _ => .tm) v vr xs L := by
  have ht : ∀ k, w.heap.size ≤ k → ¬ isP ((colN col w.heap.size fun _ => Role.tm) k) := fun k hk => by rw [colN_ge hk]; exact fun h => h
  exact ⟨hv, hr, fun k hk => ht k (own_base hv k hk), fun k hk => ht k (own_base hr.own k hk), fun p hp k hk => ht k (own_base (hr.rows p hp) k hk)⟩
end
structure OM (b B : Nat) (W : World) (col : RCol) (g gB : Nat) (d : Dk) (j : Fnd) (v vr : Value) (xs : List Int) (L : List (Rec × Value)) : Prop where
  mb : MB b W col g gB d j v vr
  ob : OB B W col v vr xs L
section
variable {b B g gB : Nat} {w w' w2 : World} {col col' : RCol} {d d' : Dk} {j : Fnd} {v vr : Value} {xs : List Int} {L : List (Rec × Value)}
theorem OM.go (h : OM b B w col g gB d j v vr xs L) (c : Ch b w col w' col' isP) (hd : DA b w' col' g d') : OM b B w' col' g gB d' j v vr xs L :=
  ⟨⟨hd, c.blk h.mb.box h.mb.tag, by rw [c.same gB (blk_lt h.mb.box)]; exact h.mb.tag⟩, h.ob.ch c⟩
theorem OM.post (h : OM b B w col g gB d j v vr xs L) (p : APost b w col g d' w') : ∃ col', Ch b w col w' col' isP ∧ OM b B w' col' g gB d' j v vr xs L := by
  obtain ⟨col', h1, h2⟩ := p
  exact ⟨col', h1, h.go h1 h2⟩
theorem OM.below (h : OM b B w col g gB d j v vr xs L) (hb : Below w.heap.size w w') : OM b B w' col g gB d j v vr xs L := ⟨h.mb.below hb, h.ob.below hb⟩
theorem OM.gen1 (h : OM b B w col g gB d j v vr xs L) (hg : b ≤ gB) : OM b B (w.setCell ⟨gB, 0, none⟩ (.int .i64 1)) col g gB d { j with gen := 1 } v vr xs L := by
  have hg2 : w.grownBy (w.setCell ⟨gB, 0, none⟩ (.int .i64 1)) (some gB) := gb_set (grown_of_below (Below.refl _ _) _) 0 _
  have hc : Ch b w col (w.setCell ⟨gB, 0, none⟩ (.int .i64 1)) col (fun r => r = col gB) := Ch.one_set h.mb.da.le hg 0 _
  refine ⟨⟨h.mb.da.ch hc (fun r hr e => h.mb.tag (e ▸ hr)), blk_to h.mb.box (by simp [cF]), h.mb.tag⟩, h.ob.other h.mb.box hg2 (own_ne h.ob.row h.mb.box (by decide)).symm (own_ne h.ob.rcl.own h.mb.box (by decide)).symm (fun p hp => (own_ne (h.ob.rcl.rows p hp) h.mb.box (by decide)).symm)⟩
end
theorem Ch.late {b gB i : Nat} {w W : World} {col col' : RCol} {S : Role → Prop} (c : Ch b w col W col' S) (hg : w.heap.size ≤ gB) (u : Value) : Ch b w col (W.setCell ⟨gB, i, none⟩ u) col' S :=
  ⟨c.below.setCell (p := ⟨gB, i, none⟩) (Nat.le_trans c.le hg) u, c.le, c.same, fun k hk hn => (Below.heap_setCell W ⟨gB, i, none⟩ u k (fun e => by have : k = gB := e; omega)).trans (c.block k hk hn)⟩
def drC (g : Nat) (q : Dr) : Array Value := #[.pointer (some ⟨g, 0, none⟩), .int .u32 q.sum, .int .i64 q.gen, .int .i64 q.len, .bool q.stuck]
def OpenPost (b : Nat) (w : World) (col : RCol) (g sum : Nat) (R : Opn) (e : Ending) (w' : World) : Prop :=
  ∃ col', Ch b w col w' col' isP ∧ DA b w' col' g R.disk ∧
    (R.err ≠ 0 → e = .returned (.tuple #[.pointer none, .slice none 0 0, .slice none 0 0, .int .i64 R.err])) ∧
    (R.err = 0 → ∃ gx v vr L, e = .returned (.tuple #[.pointer (some ⟨gx, 0, none⟩), v, vr, .int .i64 0]) ∧ w'.heap[gx]? = some (.cells (drC g ⟨sum, R.gen, R.recs.length, false⟩) 62 (0, 0)) ∧ ¬ isP (col' gx) ∧ w.heap.size ≤ gx ∧
      OB w.heap.size w' col' v vr R.summary L ∧ L.map (·.1) = R.recs)
theorem seek_a {b g : Nat} {w : World} {col : RCol} {d : Dk} (h : DA b w col g d) : Calls Tryd.prog 32 #[.pointer (some ⟨g, 0, none⟩)] w fun e w' => SeekPost w w' e (seekS d.fs) := by
  obtain ⟨m, gb, ar, u, hp⟩ := h.pd
  exact seek_calls b g m d gb ar u col w hp h.good.ok h.good.byt h.vp
theorem seek_small {d : Dk} (h : d.Good) : (seekS d.fs).gen < 100000000 ∧ (seekS d.fs).size ≤ 2097152 := by
  have hgen : (seekS d.fs).gen = (bestS d.fs).gen := by
    unfold seekS
    dsimp only
    split <;> rfl
  rcases (bestS_best d.fs).1 with e | ⟨f, hf, ef⟩
  · have : seekS d.fs = Fnd.zero := by unfold seekS; rw [e]; rfl
    rw [this]; exact ⟨by decide, by decide⟩
  · obtain ⟨p1, p2⟩ := candF_gen ef
    refine ⟨by rw [hgen, p1]; exact genS_lt _, ?_⟩
    have hne : (bestS d.fs).gen ≠ 0 := by omega
    obtain ⟨ht, hcf⟩ := best_file h.ok.rises hne
    obtain ⟨s, r, sz, hws, hj⟩ := candF_inv hcf
    have hm := there_mem ht
    have hl := (h.ok.size _ hm).1
    have hb := h.byt _ hm
    unfold seekS
    dsimp only
    rw [if_neg hne]
    generalize getF d.fs (nameS (bestS d.fs).gen) = F at *
    obtain ⟨rest, h1, h2, h3⟩ := scan_inv (sum := (bestS d.fs).sum) (F.f1.length + 1) (F.f1.drop (bestS d.fs).size) 1 (hb.drop _)
    have h4 := congrArg List.length h1
    rw [List.length_append, List.length_drop] at h4
    obtain ⟨⟨rest2, q1⟩, _, _, _, q5, _⟩ := whole_inv hb hws
    have q6 := congrArg List.length q1
    rw [List.length_append, pieceS_len] at q6
    have q7 : (bestS d.fs).size = sz := by rw [hj]
    show (bestS d.fs).size + (recsB (bestS d.fs).sum 1 (scanS (bestS d.fs).sum (F.f1.length + 1) (F.f1.drop (bestS d.fs).size) 1)).length ≤ 2097152
    omega
theorem open_end {b g sum gx gen : Nat} {w W3 Wf : World} {col col3 : RCol} {R : Opn} {dk : Dk} {v vr : Value} {xs : List Int} {recs : List Rec} {L : List (Rec × Value)} (hR : R = ⟨0, gen, xs, recs, dk⟩) (hc : Ch b w col W3 col3 isP) (hd : DA b W3 col3 g dk) (ho : OB w.heap.size W3 col3 v vr xs L)
    (hL : L.map (·.1) = recs) (hb : Below W3.heap.size W3 Wf) (hx : Wf.heap[gx]? = some (.cells (drC g ⟨sum, gen, L.length, false⟩) 62 (0, 0))) (hg : W3.heap.size ≤ gx) : OpenPost b w col g sum R (.returned (.tuple #[.pointer (some ⟨gx, 0, none⟩), v, vr, .int .i64 0])) Wf := by
  subst hR
  have h2 : Ch b W3 col3 Wf (colN col3 W3.heap.size fun _ => .tm) (fun _ => False) := Ch.of_new hb hd.le _
  have h3 := h2.mono (S' := isP) fun _ h => h.elim
  refine ⟨_, hc.trans h3, hd.ch h2 (fun _ _ h => h), fun h => absurd rfl h, fun _ => ⟨gx, v, vr, L, rfl, ?_, by rw [colN_ge hg]; exact fun h => h, Nat.le_trans hc.size hg, ho.ch h3, hL⟩⟩
  have : recs.length = L.length := by rw [← hL, List.length_map]
  show _ = some (Obj.cells (drC g ⟨sum, gen, recs.length, false⟩) _ _)
  rw [this]; exact hx
set_option maxRecDepth 100000 in
theorem res_open {W : World} {a b c e : Value} {tmps : Array Value} (h4 : tmps.getD 4 undef = a) (h5 : tmps.getD 5 undef = b) (h6 : tmps.getD 6 undef = c) (h7 : tmps.getD 7 undef = e) :
    (results Tryd.f17 tmps).run Tryd.prog W = .ok (.tuple #[a, b, c, e]) W := by
  have hr : Tryd.f17.results = #[.tmp 4, .tmp 5, .tmp 6, .tmp 7] := by kernel_rfl
  have a4 : tmps[4]?.getD undef = a := by rw [← h4]; simp
  have a5 : tmps[5]?.getD undef = b := by rw [← h5]; simp
  have a6 : tmps[6]?.getD undef = c := by rw [← h6]; simp
  have a7 : tmps[7]?.getD undef = e := by rw [← h7]; simp
  simp [results, hr, go_sem, a4, a5, a6, a7]
theorem PD.down {b g : Nat} {w : World} {col : RCol} {d : Dk} (h : PD b w col g d) : w.cell? ⟨g, 1, none⟩ = some (.bool d.down) := by
  obtain ⟨m, gb, ar, u, h⟩ := h
  exact (blk_cell h.blk 1).trans rfl
theorem piece_x {b g : Nat} {w w' : World} {col : RCol} {d : Dk} (h : DA b w col g d) {v : Value} {xs : List Int} (ho : w'.ownsRow w.heap.size 5 1 v xs.length (nums .u8 xs)) (hb : Below w.heap.size w w') :
    ∃ col' A c, v = .slice A xs.length c ∧ xs.length ≤ c ∧ Ch b w col w' col' isP ∧ DA b w' col' g d ∧ XRow w' col' isP A xs := by
  have hc : Ch b w col w' (colN col w.heap.size fun _ => .tm) (fun _ => False) := Ch.of_new hb h.le _
  obtain ⟨A, c, rfl, hcap, hob⟩ := own_form ho
  refine ⟨_, A, c, rfl, hcap, hc.mono fun _ h => h.elim, h.ch hc (fun _ _ h => h), own_reads' ho, fun h0 a ha => ?_⟩
  have hk := hob a ha
  exact ⟨own_lt ho _ hk, by rw [colN_ge (own_base ho _ hk)]; exact fun h => h⟩
set_option maxRecDepth 100000 in
set_option maxHeartbeats 8000000 in
theorem open_calls {b g : Nat} {w : World} {col : RCol} {d : Dk} (h : DA b w col g d) (sum : Nat) (hs : sum < 4294967296) :
    Calls Tryd.prog 17 #[.pointer (some ⟨g, 0, none⟩), .int .u32 sum] w fun e w' => OpenPost b w col g sum (d.opn sum) e w' := by
  have c0 := h.pd.down
  have HSk := Aside0.mk (seek_a h)
  have HA := Aside0.mk h
  have HSum := Aside0.mk hs
  obtain ⟨R, hR⟩ : ∃ R, R = d.opn sum := ⟨_, rfl⟩
  have HR := Aside0.mk hR
  rw [← hR]
  obtain ⟨j, hj⟩ : ∃ j, j = seekS d.fs := ⟨_, rfl⟩
  rw [← hj] at HSk
  have hsm := seek_small h.good
  rw [← hj] at hsm
  have HSm := Aside0.mk hsm
  have HJ := Aside0.mk hj
  clear h hs hR hj hsm
  cases hd : d.down with
  | true =>
    rw [hd] at c0
    have HRr : Aside0 (R = ⟨190, 0, [], [], d⟩) := ⟨by rw [HR.out]; unfold Dk.opn; rw [if_pos hd]⟩
    clear hd
    go_enter Tryd.func17, Tryd.ntmps17
    go_wp2
    refine bodyPost_ret (res_open rfl rfl rfl rfl) rfl ?_
    rw [HRr.out]
    exact ⟨col, Ch.refl HA.out.le, HA.out, fun _ => rfl, fun h => by cases h⟩
  | false =>
  rw [hd] at c0
  have HRr : Aside0 (R = if 0 < j.gen ∧ j.sum ≠ sum then ⟨198, 0, [], [], d⟩ else
      if (d.mend j).1 ≠ 0 then ⟨(d.mend j).1, 0, [], [], (d.mend j).2⟩ else
      if j.gen = 0 then
        (if ((d.mend j).2.lay (nameS 1) (pieceS 0 sum 0 [])).1 ≠ 0 then ⟨((d.mend j).2.lay (nameS 1) (pieceS 0 sum 0 [])).1, 0, [], [], ((d.mend j).2.lay (nameS 1) (pieceS 0 sum 0 [])).2⟩
         else ⟨0, 1, j.summary, j.recs, ((d.mend j).2.lay (nameS 1) (pieceS 0 sum 0 [])).2⟩)
      else ⟨0, j.gen, j.summary, j.recs, (d.mend j).2⟩) := ⟨by rw [HR.out]; unfold Dk.opn; rw [if_neg (by simp [hd]), HJ.out]⟩
  obtain ⟨gI, hgI⟩ : ∃ gI : Int, gI = (j.gen : Nat) := ⟨_, rfl⟩
  obtain ⟨jsI, hjsI⟩ : ∃ jsI : Int, jsI = (j.sum : Nat) := ⟨_, rfl⟩
  obtain ⟨zI, hzI⟩ : ∃ zI : Int, zI = (j.size : Nat) := ⟨_, rfl⟩
  obtain ⟨aI, haI⟩ : ∃ aI : Int, aI = (j.all : Nat) := ⟨_, rfl⟩
  obtain ⟨smI, hsmI⟩ : ∃ smI : Int, smI = (sum : Nat) := ⟨_, rfl⟩
  have HE := Aside0.mk (And.intro hgI (And.intro hjsI (And.intro hzI (And.intro haI hsmI))))
  rw [← hsmI]
  clear hd hgI hjsI hzI haI hsmI
  go_enter Tryd.func17, Tryd.ntmps17
  go_upto_region 4 with (go_at_call 32; refine HSk.out.mono ?_; rintro e w1 ⟨v, vr, L, rfl, hv, hr, hL, hb⟩; obtain ⟨Av, cv, rfl, _⟩ := own_form hv; obtain ⟨Ar, cr, rfl, _⟩ := own_form hr.own; unfold cF; rw [← HE.out.1, ← HE.out.2.1, ← HE.out.2.2.1, ← HE.out.2.2.2.1]; have HV := Aside0.mk hv; have HRl := Aside0.mk hr; have HL := Aside0.mk hL; have HB := Aside0.mk hb; clear hv hr hL hb)
  obtain ⟨W2, hW2⟩ : ∃ W2, w1.alloc (.cells #[.int .i64 gI, .int .u32 jsI, .slice Av j.summary.length cv, .slice Ar L.length cr, .int .i64 zI, .int .i64 aI, .int .i64 j.sure] 81) = W2 := ⟨_, rfl⟩
  obtain ⟨gB, hgB⟩ : ∃ gB, gB = w1.heap.size := ⟨_, rfl⟩
  rw [hW2, ← hgB]
  have hlit : (#[.int .i64 gI, .int .u32 jsI, .slice Av j.summary.length cv, .slice Ar L.length cr, .int .i64 zI, .int .i64 aI, .int .i64 j.sure] : Array Value) = cF j (.slice Av j.summary.length cv) (.slice Ar L.length cr) := by
    unfold cF; rw [← HE.out.1, ← HE.out.2.1, ← HE.out.2.2.1, ← HE.out.2.2.2.1]
  obtain ⟨V, hVd⟩ : ∃ V, V = Value.slice Av j.summary.length cv := ⟨_, rfl⟩
  obtain ⟨VR, hVR⟩ : ∃ VR, VR = Value.slice Ar L.length cr := ⟨_, rfl⟩
  obtain ⟨col2, hcol2⟩ : ∃ col2, col2 = colN col w.heap.size fun _ => Role.tm := ⟨_, rfl⟩
  have h12 : Below w1.heap.size w1 W2 := by rw [← hW2]; exact below_alloc (Below.refl _ _) _
  have h02 : Below w.heap.size w W2 := HB.out.trans (h12.mono HB.out.size)
  have hc2 : Ch b w col W2 col2 (fun _ => False) := by rw [hcol2]; exact Ch.of_new h02 HA.out.le _
  have hom : OM b w.heap.size W2 col2 g gB d j (.slice Av j.summary.length cv) (.slice Ar L.length cr) j.summary L := by
    refine ⟨⟨HA.out.ch hc2 (fun _ _ h => h), ?_, ?_⟩, ?_⟩
    · rw [← hW2, hgB, ← hlit]; exact blk_new w1 _
    · rw [hcol2, colN_ge (by rw [hgB]; exact HB.out.size)]; exact fun h => h
    · rw [hcol2]
      exact (OB.start HV.out HRl.out).below h12
  have hbg : b ≤ gB := by rw [hgB]; exact Nat.le_trans HA.out.le HB.out.size
  have HBg := Aside0.mk hbg
  have HWg := Aside0.mk (show w.heap.size ≤ gB by rw [hgB]; exact HB.out.size)
  have HC2 := Aside0.mk (hc2.mono (S' := isP) fun _ h => h.elim)
  have HOM := Aside0.mk hom
  have HBox : Aside0 (∀ {W : World}, W.heap[gB]? = some (.cells (cF j (.slice Av j.summary.length cv) (.slice Ar L.length cr)) 81 (0, 0)) → W.cell? ⟨gB, 0, none⟩ = some (.int .i64 gI) ∧ W.cell? ⟨gB, 1, none⟩ = some (.int .u32 jsI) ∧ W.cell? ⟨gB, 2, none⟩ = some (.slice Av j.summary.length cv) ∧ W.cell? ⟨gB, 3, none⟩ = some (.slice Ar L.length cr) ∧ W.cell? ⟨gB, 4, none⟩ = some (.int .i64 zI) ∧ W.cell? ⟨gB, 5, none⟩ = some (.int .i64 aI) ∧ W.cell? ⟨gB, 6, none⟩ = some (.int .i64 j.sure) ∧ W.frozen? ⟨gB, 0, none⟩ = false) := ⟨fun {W} hb => by
    rw [← hlit] at hb
    exact ⟨(blk_cell hb 0).trans rfl, (blk_cell hb 1).trans rfl, (blk_cell hb 2).trans rfl, (blk_cell hb 3).trans rfl, (blk_cell hb 4).trans rfl, (blk_cell hb 5).trans rfl, (blk_cell hb 6).trans rfl, blk_frozen hb 0⟩⟩
  obtain ⟨r, hr⟩ : ∃ r, r = (d.mend j).1 := ⟨_, rfl⟩
  obtain ⟨d1, hd1⟩ : ∃ d1, d1 = (d.mend j).2 := ⟨_, rfl⟩
  have HMe : Aside0 (Calls Tryd.prog 33 #[.pointer (some ⟨g, 0, none⟩), .agg #[.int .i64 gI, .int .u32 jsI, .slice Av j.summary.length cv, .slice Ar L.length cr, .int .i64 zI, .int .i64 aI, .int .i64 j.sure]] W2 fun e w' => e = .returned (.int .i64 r) ∧ ∃ col3, Ch b W2 col2 w' col3 isP ∧ OM b w.heap.size w' col3 g gB d1 j (.slice Av j.summary.length cv) (.slice Ar L.length cr) j.summary L) := ⟨by
    rw [hlit]
    refine (mend_calls hom.mb.da j _ _ HSm.out.1 HSm.out.2).mono fun e w' h => ⟨by rw [hr]; exact h.1, ?_⟩
    rw [hd1]
    exact hom.post h.2⟩
  rw [← hr, ← hd1] at HRr
  obtain ⟨k0, k1, k2, k3, k4, k5, k6, y0⟩ := HBox.out hom.mb.box
  clear c0 hW2 hgB hlit hVd hVR V VR hcol2 h12 h02 hc2 hom hbg hr hd1 HSk HB HV HRl HA HJ
  by_cases c1 : 0 < gI
  · have e1 : decide (0 < gI) = true := decide_eq_true c1
    by_cases c2 : jsI = smI
    · have e2 : (jsI != smI) = false := by simp [c2]
      have e3 : decide (jsI = smI) = true := decide_eq_true c2
      have e4 : (gI == 0) = false := by simp only [beq_eq_false_iff_ne, ne_eq]; omega
      have e5 : decide (gI = 0) = false := decide_eq_false (by omega)
      have HR2 : Aside0 (R = if r ≠ 0 then ⟨r, 0, [], [], d1⟩ else ⟨0, j.gen, j.summary, j.recs, d1⟩) := ⟨by
        rw [HRr.out, if_neg (by have := HE.out; omega)]
        refine ite_same Iff.rfl rfl (if_neg (by have := HE.out; omega))⟩
      clear c1 c2 HRr
      by_cases h0 : r = 0
      · have z1 : (r != 0) = false := by simp [h0]
        have z2 : decide (r = 0) = true := decide_eq_true h0
        have HR3 : Aside0 (R = ⟨0, j.gen, j.summary, j.recs, d1⟩) := ⟨by rw [HR2.out, if_neg (by simp [h0])]⟩
        clear h0
        go_upto_region 14 with (go_at_call 33; refine HMe.out.mono ?_; rintro e w3 ⟨rfl, col3, hc3, hm3⟩; have HC3 := Aside0.mk hc3; have HM3 := Aside0.mk hm3; clear k0 k1 k2 k3 k4 k5 k6 y0; obtain ⟨k0, k1, k2, k3, k4, k5, k6, y0⟩ := HBox.out hm3.mb.box; clear hc3 hm3)
        have a2 : ∀ o, (w3.alloc o).cell? ⟨gB, 2, none⟩ = some (.slice Av j.summary.length cv) := fun o => ((below_alloc (Below.refl _ _) o).cell (p := ⟨gB, 2, none⟩) (blk_lt HM3.out.mb.box)).trans k2
        have a3 : ∀ o, (w3.alloc o).cell? ⟨gB, 3, none⟩ = some (.slice Ar L.length cr) := fun o => ((below_alloc (Below.refl _ _) o).cell (p := ⟨gB, 3, none⟩) (blk_lt HM3.out.mb.box)).trans k3
        go_region
        clear a2 a3 k0 k1 k2 k3 k4 k5 k6 y0
        go_wp2
        refine bodyPost_ret (res_open rfl rfl rfl rfl) rfl ?_
        rw [HE.out.1, HE.out.2.2.2.2]
        exact open_end HR3.out (HC2.out.trans HC3.out) HM3.out.mb.da HM3.out.ob HL.out (below_drew (below_alloc (Below.refl _ _) _)) (W_drew (blk_new w3 _)) (Nat.le_refl _)
      · have z1 : (r != 0) = true := by simp [h0]
        have z2 : decide (r = 0) = false := decide_eq_false h0
        have HR3 : Aside0 (R = ⟨r, 0, [], [], d1⟩) := ⟨by rw [HR2.out, if_pos h0]⟩
        have HH := Aside0.mk h0
        clear h0
        go_wp2_with (go_at_call 33; refine HMe.out.mono ?_; rintro e w3 ⟨rfl, col3, hc3, hm3⟩; have HC3 := Aside0.mk hc3; have HM3 := Aside0.mk hm3; clear k0 k1 k2 k3 k4 k5 k6 y0 hc3 hm3)
        refine bodyPost_ret (res_open rfl rfl rfl rfl) rfl ?_
        rw [HR3.out]
        exact ⟨col3, HC2.out.trans HC3.out, HM3.out.mb.da, fun _ => rfl, fun h => absurd h HH.out⟩
    · have e2 : (jsI != smI) = true := by simp [c2]
      have e3 : decide (jsI = smI) = false := decide_eq_false c2
      have HR2 : Aside0 (R = ⟨198, 0, [], [], d⟩) := ⟨by
        rw [HRr.out, if_pos (by have := HE.out; omega)]⟩
      clear c1 c2 HRr k2 k3 k4 k5 k6 y0
      go_wp2
      refine bodyPost_ret (res_open rfl rfl rfl rfl) rfl ?_
      rw [HR2.out]
      exact ⟨col2, HC2.out, HOM.out.mb.da, fun _ => rfl, fun h => by cases h⟩
  · have e1 : decide (0 < gI) = false := decide_eq_false c1
    have hg0 : j.gen = 0 := by have := HE.out.1; omega
    have e4 : (gI == 0) = true := by
      have := HE.out.1
      simp only [beq_iff_eq]; omega
    have e5 : decide (gI = 0) = true := decide_eq_true (by have := HE.out.1; omega)
    obtain ⟨P, hP⟩ : ∃ P, P = pieceS 0 sum 0 [] := ⟨_, rfl⟩
    rw [← hP] at HRr
    obtain ⟨r2, hr2⟩ : ∃ r2, r2 = (d1.lay (nameS 1) P).1 := ⟨_, rfl⟩
    obtain ⟨d2, hd2⟩ : ∃ d2, d2 = (d1.lay (nameS 1) P).2 := ⟨_, rfl⟩
    have HR2 : Aside0 (R = if r ≠ 0 then ⟨r, 0, [], [], d1⟩ else (if r2 ≠ 0 then ⟨r2, 0, [], [], d2⟩ else ⟨0, 1, j.summary, j.recs, d2⟩)) := ⟨by
      rw [HRr.out, if_neg (by have := HE.out; omega), hr2, hd2]
      exact ite_same Iff.rfl rfl (if_pos hg0)⟩
    have hPl : P.length = 18 := by rw [hP, pieceS_len]; rfl
    have hPb : Byt P := by rw [hP]; exact pieceS_byt ⟨by omega, by omega⟩ byt_nil
    have HNa : Aside0 (∀ W, VP b W → Calls Tryd.prog 24 #[.int .i64 1] W fun e w' => e = .returned (.string (nameS 1)) ∧ Below W.heap.size W w') := ⟨fun W h => name_calls 1 (by decide) W h⟩
    have HPc : Aside0 (∀ W : World, Calls Tryd.prog 25 #[.int .i64 0, .int .u32 smI, .int .u8 0, .slice none 0 0] W fun e w' => ∃ v, e = .returned v ∧ w'.ownsRow W.heap.size 5 1 v P.length (nums .u8 P) ∧ Below W.heap.size W w') := ⟨fun W => by
      rw [HE.out.2.2.2.2, hP]
      exact piece_calls 0 sum 0 none 0 [] W (by omega) HSum.out ⟨by omega, by omega⟩ byt_nil (by decide) ⟨rfl, by decide, fun h => by simp at h⟩⟩
    have HLay : Aside0 (∀ W col' A c, OM b w.heap.size W col' g gB d1 { j with gen := 1 } (.slice Av j.summary.length cv) (.slice Ar L.length cr) j.summary L → XRow W col' isP A P → P.length ≤ c → Calls Tryd.prog 23 #[.pointer (some ⟨g, 0, none⟩), .string (nameS 1), .slice A P.length c] W fun e w' => e = .returned (.int .i64 r2) ∧ ∃ col7, Ch b W col' w' col7 isP ∧ OM b w.heap.size w' col7 g gB d2 { j with gen := 1 } (.slice Av j.summary.length cv) (.slice Ar L.length cr) j.summary L) := ⟨fun W col' A c hm hx hc => by
      refine (lay_calls hm.mb.da (nameS 1) A c P (by rw [nameS_size (by decide)]; decide) hx hc (by omega) hPb).mono fun e w' h => ⟨by rw [hr2]; exact h.1, ?_⟩
      rw [hd2]
      exact hm.post h.2⟩
    have HBox1 : Aside0 (∀ {W : World}, W.heap[gB]? = some (.cells (cF { j with gen := 1 } (.slice Av j.summary.length cv) (.slice Ar L.length cr)) 81 (0, 0)) → W.cell? ⟨gB, 0, none⟩ = some (.int .i64 1) ∧ W.cell? ⟨gB, 2, none⟩ = some (.slice Av j.summary.length cv) ∧ W.cell? ⟨gB, 3, none⟩ = some (.slice Ar L.length cr)) := ⟨fun {W} hb => ⟨(blk_cell hb 0).trans rfl, (blk_cell hb 2).trans rfl, (blk_cell hb 3).trans rfl⟩⟩
    clear c1 HRr hg0 hP hr2 hd2 hPl hPb
    by_cases h0 : r = 0
    · have z1 : (r != 0) = false := by simp [h0]
      have z2 : decide (r = 0) = true := decide_eq_true h0
      have HR3 : Aside0 (R = if r2 ≠ 0 then ⟨r2, 0, [], [], d2⟩ else ⟨0, 1, j.summary, j.recs, d2⟩) := ⟨by rw [HR2.out, if_neg (by simp [h0])]⟩
      clear h0 HR2
      go_upto_region 11 with (go_at_call 33; refine HMe.out.mono ?_; rintro e w3 ⟨rfl, col3, hc3, hm3⟩; have HC3 := Aside0.mk hc3; have HM3 := Aside0.mk hm3; clear k0 k1 k2 k3 k4 k5 k6 y0; obtain ⟨k0, k1, k2, k3, k4, k5, k6, y0⟩ := HBox.out hm3.mb.box; clear hc3 hm3)
      obtain ⟨W4, hW4⟩ : ∃ W4, w3.setCell ⟨gB, 0, none⟩ (.int .i64 1) = W4 := ⟨_, rfl⟩
      have hm4 := HM3.out.gen1 HBg.out
      have hc4 : Ch b w3 col3 W4 col3 (fun r => r = col3 gB) := by rw [← hW4]; exact Ch.one_set HM3.out.mb.da.le HBg.out 0 _
      have h34 : Below b w3 W4 := hc4.below
      rw [hW4] at hm4 ⊢
      have HM4 := Aside0.mk hm4
      have HW4 := Aside0.mk hW4
      have HC4 : Aside0 (Ch b w col W4 col3 isP) := ⟨by rw [← hW4]; exact (HC2.out.trans HC3.out).late HWg.out _⟩
      clear hW4 hm4 hc4 h34 k0 k1 k2 k3 k4 k5 k6 y0
      have HT1 := Aside0.mk trivial
      by_cases h2 : r2 = 0
      · have z3 : (r2 != 0) = false := by simp [h2]
        have z4 : decide (r2 = 0) = true := decide_eq_true h2
        have HR4 : Aside0 (R = ⟨0, 1, j.summary, j.recs, d2⟩) := ⟨by rw [HR3.out, if_neg (by simp [h2])]⟩
        clear h2
        go_upto_region 14 with (first
          | (go_at_call 24; have q_ := HT1.out; clear q_ HT1; refine (HNa.out _ HM4.out.mb.da.vp).mono ?_; rintro e w5 ⟨rfl, hb5⟩; have HM5 := Aside0.mk (HM4.out.below hb5); have HB5 := Aside0.mk hb5; clear hb5)
          | (go_at_call 25; have q_ := HM5.out; clear q_; refine (HPc.out _).mono ?_; rintro e w6 ⟨v6, rfl, ho6, hb6⟩; obtain ⟨col6, A6, c6, rfl, hcap, hc6, hd6, hx6⟩ := piece_x HM5.out.mb.da ho6 hb6; have HM6 := Aside0.mk (HM5.out.go hc6 hd6); have HC6 := Aside0.mk hc6; have HX6 := Aside0.mk hx6; have HCap6 := Aside0.mk hcap; clear ho6 hb6 hcap hc6 hd6 hx6)
          | (go_at_call 23; have q_ := HX6.out; clear q_; refine (HLay.out _ col6 A6 c6 HM6.out HX6.out HCap6.out).mono ?_; rintro e w7 ⟨rfl, col7, hc7, hm7⟩; have HC7 := Aside0.mk hc7; have HM7 := Aside0.mk hm7; obtain ⟨k0, k2, k3⟩ := HBox1.out hm7.mb.box; clear hc7 hm7))
        have HCe := Aside0.mk (HC4.out.trans ((Ch.of_below HB5.out HM4.out.mb.da.le).trans (HC6.out.trans HC7.out)))
        have a2 : ∀ o, (w7.alloc o).cell? ⟨gB, 2, none⟩ = some (.slice Av j.summary.length cv) := fun o => ((below_alloc (Below.refl _ _) o).cell (p := ⟨gB, 2, none⟩) (blk_lt HM7.out.mb.box)).trans k2
        have a3 : ∀ o, (w7.alloc o).cell? ⟨gB, 3, none⟩ = some (.slice Ar L.length cr) := fun o => ((below_alloc (Below.refl _ _) o).cell (p := ⟨gB, 3, none⟩) (blk_lt HM7.out.mb.box)).trans k3
        go_region
        clear a2 a3 k0 k2 k3
        go_wp2
        refine bodyPost_ret (res_open rfl rfl rfl rfl) rfl ?_
        rw [HE.out.2.2.2.2]
        exact open_end HR4.out HCe.out HM7.out.mb.da HM7.out.ob HL.out (below_drew (below_alloc (Below.refl _ _) _)) (W_drew (blk_new w7 _)) (Nat.le_refl _)
      · have z3 : (r2 != 0) = true := by simp [h2]
        have z4 : decide (r2 = 0) = false := decide_eq_false h2
        have HR4 : Aside0 (R = ⟨r2, 0, [], [], d2⟩) := ⟨by rw [HR3.out, if_pos h2]⟩
        have HH := Aside0.mk h2
        clear h2
        go_wp2_with (first
          | (go_at_call 24; have q_ := HT1.out; clear q_ HT1; refine (HNa.out _ HM4.out.mb.da.vp).mono ?_; rintro e w5 ⟨rfl, hb5⟩; have HM5 := Aside0.mk (HM4.out.below hb5); have HB5 := Aside0.mk hb5; clear hb5)
          | (go_at_call 25; have q_ := HM5.out; clear q_; refine (HPc.out _).mono ?_; rintro e w6 ⟨v6, rfl, ho6, hb6⟩; obtain ⟨col6, A6, c6, rfl, hcap, hc6, hd6, hx6⟩ := piece_x HM5.out.mb.da ho6 hb6; have HM6 := Aside0.mk (HM5.out.go hc6 hd6); have HC6 := Aside0.mk hc6; have HX6 := Aside0.mk hx6; have HCap6 := Aside0.mk hcap; clear ho6 hb6 hcap hc6 hd6 hx6)
          | (go_at_call 23; have q_ := HX6.out; clear q_; refine (HLay.out _ col6 A6 c6 HM6.out HX6.out HCap6.out).mono ?_; rintro e w7 ⟨rfl, col7, hc7, hm7⟩; have HC7 := Aside0.mk hc7; have HM7 := Aside0.mk hm7; obtain ⟨k0, k2, k3⟩ := HBox1.out hm7.mb.box; clear hc7 hm7))
        refine bodyPost_ret (res_open rfl rfl rfl rfl) rfl ?_
        rw [HR4.out]
        exact ⟨col7, HC4.out.trans ((Ch.of_below HB5.out HM4.out.mb.da.le).trans (HC6.out.trans HC7.out)), HM7.out.mb.da, fun _ => rfl, fun h => absurd h HH.out⟩
    · have z1 : (r != 0) = true := by simp [h0]
      have z2 : decide (r = 0) = false := decide_eq_false h0
      have HR3 : Aside0 (R = ⟨r, 0, [], [], d1⟩) := ⟨by rw [HR2.out, if_pos h0]⟩
      have HH := Aside0.mk h0
      clear h0
      go_wp2_with (go_at_call 33; refine HMe.out.mono ?_; rintro e w3 ⟨rfl, col3, hc3, hm3⟩; have HC3 := Aside0.mk hc3; have HM3 := Aside0.mk hm3; clear k0 k1 k2 k3 k4 k5 k6 y0 hc3 hm3)
      refine bodyPost_ret (res_open rfl rfl rfl rfl) rfl ?_
      rw [HR3.out]
      exact ⟨col3, HC2.out.trans HC3.out, HM3.out.mb.da, fun _ => rfl, fun h => absurd h HH.out⟩
end Go.Proofs.YthneomomhoilkaaDoor.PA
end
