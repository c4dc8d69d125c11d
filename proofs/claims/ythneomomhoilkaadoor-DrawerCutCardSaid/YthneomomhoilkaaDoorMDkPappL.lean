/- Bytes laid at a file's end, in memory: the program's side. No condition. -/
import Derived.Test.YthneomomhoilkaaDoorMDkPnew
import Derived.Test.YthneomomhoilkaaDoorML
namespace Go.Proofs.YthneomomhoilkaaDoor.PA
open Go.RowKit Go.Maps Go.Proofs.YthneomomhoilkaaDoorW.PrintWords Go.Proofs.YthneomomhoilkaaDoorW.PrintLast Go.Proofs.YthneomomhoilkaaDoorW.PrintMore
set_option linter.unusedVariables false
set_option linter.unusedSimpArgs false
theorem Ch.set_new {b : Nat} {W W' : World} {col col' : RCol} {S : Role → Prop} (m : Ch b W col W' col' S) {p : Addr} (hg : W.heap.size ≤ p.block) (v : Value) : Ch b W col (W'.setCell p v) col' S :=
  ⟨m.below.setCell (Nat.le_trans m.le hg) v, m.le, m.same, fun k hk hn => (Below.heap_setCell W' p v k (fun e => by have : k = p.block := e; omega)).trans (m.block k hk hn)⟩
set_option maxRecDepth 100000 in
theorem res_cell {W : World} {ge : Nat} {x : Int} {tmps : Array Value} (ht : tmps.getD 6 undef = .pointer (some ⟨ge, 0, none⟩)) (hc : W.cell? ⟨ge, 0, none⟩ = some (.int .i64 x)) :
    (results Tryd.f35 tmps).run Tryd.prog W = .ok (.int .i64 x) W := by
  have hr : Tryd.f35.results = #[.cell 6 34] := by kernel_rfl
  have ht' : tmps[6]?.getD undef = .pointer (some ⟨ge, 0, none⟩) := by rw [← ht]; simp
  simp [results, hr, go_sem, ht', hc]
theorem set_same {W : World} {ge : Nat} {v u : Value} (h : W.cell? ⟨ge, 0, none⟩ = some u) : (W.setCell ⟨ge, 0, none⟩ v).cell? ⟨ge, 0, none⟩ = some v := World.cell?_setCell_same _ _ _ h
section
variable {b g m : Nat} {W W' : World} {col col' : RCol} {d : Dk} {gb : ByteArray → Nat} {ar : Bool} {u : Int}
theorem PDm.set2 (h : PDm b W col g d m gb ar u) (hr : Rises d.fs) {nm : ByteArray} (ht : there d.fs nm = true) {f : Fl} (hf : f.f0 = nm) {v : Value}
    (hc : Ch b W col W' col' (fun r => r = .pf nm ∨ r = .pb nm)) (hb : W'.heap[gb nm]? = some (.cells #[v, .int .i64 f.f2] 76 (0, 0))) (hv : BRow b W' col' (.pb nm) v f.f1) :
    PDm b W' col' g { d with fs := setF d.fs nm f } m gb ar u ∧ Ch b W col W' col' isP := by
  have hpf := h.file ht
  have htag : col (gb nm) = .pf nm := by have := hpf.tag; rwa [(there_get ht).2.2] at this
  obtain ⟨v0, hv0, _⟩ := hpf.ex
  have hnm := names_set ht hf
  refine ⟨⟨hc.blk h.blk (by rw [h.tag]; exact fun e => by rcases e with e | e <;> cases e), (hc.same _ (blk_lt h.blk)).trans h.tag, h.le, h.arm, h.unit, ?_, (hc.same _ h.map.lt).trans h.mtag, h.mle, ?_⟩, hc.mono fun r e => by rcases e with rfl | rfl <;> trivial⟩
  · obtain ⟨es, clock, hb, r⟩ := h.map
    show W'.ownsMap _ _ _ _ (setF d.fs nm f).length (mapD (setF d.fs nm f) gb)
    rw [setF_len, mapD_names hnm gb]
    exact ⟨es, clock, hc.blk hb (by rw [h.mtag]; exact fun e => by rcases e with e | e <;> cases e), r⟩
  · intro x hx
    rcases set_other hr ht hx with rfl | ⟨hx, hne⟩
    · rw [hf]
      exact ⟨⟨v, hb, by rw [hf]; exact hv⟩, by rw [hf]; exact (hc.same _ (blk_lt hv0)).trans htag, hpf.le⟩
    · exact (h.files x hx).ch hc (fun e => by rcases e with e | e; (exact hne (by cases e; rfl)); cases e) (fun e => by rcases e with e | e; cases e; exact hne (by cases e; rfl))
theorem papp_fin (h : PDm b W col g d m gb ar u) (hr : Rises d.fs) {nm : ByteArray} (ht : there d.fs nm = true) {v v7 : Value} {zs : List Int} {w7 : World} (hv : W.heap[gb nm]? = some (.cells #[v, .int .i64 (getF d.fs nm).f2] 76 (0, 0))) (hrow : BRow b W col (.pb nm) v (getF d.fs nm).f1)
    (hg : W.grownBy w7 v.ownBlock) (ho : w7.ownsRow b 5 1 v7 zs.length (nums .u8 zs)) (hat : v7.ownBlock = v.ownBlock ∨ v7.ownBlock = some W.heap.size) :
    w7.heap[gb nm]? = W.heap[gb nm]? ∧ Below b W w7 ∧ PPost b W col g { d with fs := setF d.fs nm { getF d.fs nm with f1 := zs } } (w7.setCell ⟨gb nm, 0, none⟩ v7) := by
  have hne : ∀ k, v.ownBlock = some k → k ≠ gb nm := fun k hk e => own_ne hrow.own hv (by decide) (by rw [hk, e])
  have hpf := h.file ht
  have htag : col (gb nm) = .pf nm := by have := hpf.tag; rwa [(there_get ht).2.2] at this
  have hc7 : Ch b W col w7 (colN col W.heap.size fun _ => .pb nm) (fun r => r = .pf nm ∨ r = .pb nm) := by
    refine ⟨(Below.refl b W).grown hg h.base (fun j hj => own_base hrow.own j hj), h.base, fun _ hk => colN_lt hk, fun k hk hn => hg.block k hk (fun e => hn (.inr (hrow.tag k e.symm)))⟩
  have hblk : w7.heap[gb nm]? = W.heap[gb nm]? := hg.block _ (blk_lt hv) (fun e => hne _ e.symm rfl)
  have hc8 := hc7.set (p := ⟨gb nm, 0, none⟩) hpf.le (.inl ((colN_lt (blk_lt hv)).trans htag)) v7
  have hr7 : BRow b (w7.setCell ⟨gb nm, 0, none⟩ v7) (colN col W.heap.size fun _ => .pb nm) (.pb nm) v7 zs := by
    refine ⟨own_move ho fun k hk => Below.heap_setCell w7 _ v7 k (fun e => ?_), fun k hk => ?_⟩
    · have e' : k = gb nm := e
      rcases hat with e2 | e2
      · exact hne k (by rw [← e2]; exact hk) e'
      · rw [e2] at hk
        injection hk with hk
        have := blk_lt hv
        omega
    · rcases hat with e2 | e2
      · rw [e2] at hk
        exact (colN_lt (own_lt hrow.own k hk)).trans (hrow.tag k hk)
      · rw [e2] at hk
        injection hk with hk
        exact colN_ge (by omega)
  obtain ⟨h9, hc9⟩ := h.set2 hr ht (f := { getF d.fs nm with f1 := zs }) (there_get ht).2.2 hc8 (blk_to (hblk.trans hv) (by simp)) hr7
  exact ⟨hblk, hc7.below, _, hc9, m, gb, ar, u, h9⟩
end
end Go.Proofs.YthneomomhoilkaaDoor.PA
