/- What 'made' needs of memory: disks in other roles, bytes that are written over in place, a list of files read anew. Conditions: each law's own. -/
import Derived.Test.YthneomomhoilkaaDoorMDkHold
import Derived.Test.YthneomomhoilkaaDoorMDkPnew
import Derived.Test.YthneomomhoilkaaDoorML
namespace Go.Proofs.YthneomomhoilkaaDoor.PA
open Go.RowKit Go.Maps Go.Proofs.YthneomomhoilkaaDoorW.PrintWords Go.Proofs.YthneomomhoilkaaDoorW.PrintLast Go.Proofs.YthneomomhoilkaaDoorW.PrintMore
set_option linter.unusedVariables false
set_option linter.unusedSimpArgs false
section
variable {b B g : Nat} {W : World} {col col' : RCol} {d : Dk}
end
def U8B (W : World) (F n : Nat) : Prop := ∃ cs : Array Value, W.heap[F]? = some (.cells cs 5 (0, 0)) ∧ ∀ k, k < n → ∃ x : Int, cs[k]? = some (.int .u8 x)
theorem U8B.set {W : World} {F n : Nat} (h : U8B W F n) (g i : Nat) (x : Int) : U8B (W.setCell ⟨g, i, none⟩ (.int .u8 x)) F n := by
  obtain ⟨cs, hF, hk⟩ := h
  by_cases hg : g = F
  · subst hg
    refine ⟨cs.setIfInBounds i (.int .u8 x), blk_set hF i _, fun k hkn => ?_⟩
    obtain ⟨y, hy⟩ := hk k hkn
    rw [Array.getElem?_setIfInBounds]
    split
    · rename_i e
      subst e
      rw [if_pos (Array.getElem?_eq_some_iff.1 hy).1]
      exact ⟨x, rfl⟩
    · exact ⟨y, hy⟩
  · exact ⟨cs, (Below.heap_setCell W _ _ F (fun e => hg e.symm)).trans hF, hk⟩
theorem U8B.reads {W : World} {F n : Nat} (h : U8B W F n) (hn : n ≤ 9223372036854775807) : ∃ xs : List Int, xs.length = n ∧ ReadsInt W .u8 (some ⟨F, 0, none⟩) n xs := by
  obtain ⟨cs, hF, hk⟩ := h
  let f : Nat → Int := fun k => if hk' : k < n then (hk k hk').choose else 0
  refine ⟨(List.range n).map f, by simp, by simp, hn, fun _ => ⟨_, rfl, fun j hj => ?_⟩⟩
  rw [add_at]
  refine (blk_cell hF j).trans ?_
  have e : ((List.range n).map f).getD j 0 = f j := by rw [List.getD_eq_getElem?_getD, List.getElem?_map, List.getElem?_range hj]; rfl
  rw [e]
  have e2 : f j = (hk j hj).choose := dif_pos hj
  rw [e2]
  exact (hk j hj).choose_spec
theorem U8B.at {W : World} {F n : Nat} (h : U8B W F n) {k : Nat} (hk : k < n) : (∃ x : Int, W.cell? ⟨F, k, none⟩ = some (.int .u8 x)) ∧ W.frozen? ⟨F, k, none⟩ = false := by
  obtain ⟨cs, hF, h⟩ := h
  obtain ⟨x, hx⟩ := h k hk
  exact ⟨⟨x, (blk_cell hF k).trans hx⟩, blk_frozen hF k⟩
def RdP (W : World) (p : Fl × Value) : Prop := ∃ A c, p.2 = .slice A p.1.f1.length c ∧ p.1.f1.length ≤ c ∧ ReadsInt W .u8 A p.1.f1.length p.1.f1
theorem rows_read {b : Nat} {W : World} {v : Value} {M : List (Fl × Value)} (ho : W.ownsRow b 42 3 v M.length (flatL M)) (hr : ∀ p ∈ M, RdP W p) : ∃ A c, v = .slice A M.length c ∧ M.length ≤ c ∧ Kd.C k42 W A M.length (M.map (·.1)) := by
  have hR : Reps (k42.K W) 3 (M.map (·.1)) (flatL M) := by
    clear ho
    induction M with
    | nil => exact Reps.none _ _
    | cons p r ih =>
      obtain ⟨A, c, hv, hc, hrd⟩ := hr p (by simp)
      have h1 : k42.K W p.1 [.string p.1.f0, p.2, .int .i64 p.1.f2] := by rw [hv]; exact k42_mk W p.1 hc (Kd.C_of_reads (d := (0 : Int)) (readsInt_of.1 hrd))
      have := Kd.reps_append ((Reps.none (k42.K W) 3).snoc h1 rfl) (ih (fun q hq => hr q (List.mem_cons_of_mem _ hq)))
      simpa [flatL_cons] using this
  obtain ⟨A, c, hv, hc⟩ := own_le_cap ho
  obtain ⟨A', c', hv', hrd⟩ := own_reads_row ho hR (by simp)
  rw [hv] at hv'
  injection hv' with e1 e2 e3
  subst e1
  exact ⟨A, c, hv, hc, hrd⟩
theorem remake (W : World) : ∀ M : List (Fl × Value), (∀ p ∈ M, p.1.f1.length ≤ 9223372036854775807 ∧ ∃ Fj c, p.2 = .slice (some ⟨Fj, 0, none⟩) p.1.f1.length c ∧ p.1.f1.length ≤ c ∧ U8B W Fj p.1.f1.length) →
    ∃ M', flatL M' = flatL M ∧ M'.length = M.length ∧ (∀ p ∈ M', RdP W p) ∧ ∀ p ∈ M', ∃ q ∈ M, p.1.f0 = q.1.f0 ∧ p.1.f1.length = q.1.f1.length
  | [], _ => ⟨[], rfl, rfl, ⟨fun p hp => (List.not_mem_nil hp).elim, fun p hp => (List.not_mem_nil hp).elim⟩⟩
  | q :: r, h => by
    obtain ⟨M', h1, h2, h3, h4⟩ := remake W r (fun p hp => h p (List.mem_cons_of_mem _ hp))
    obtain ⟨hq, Fj, c, e, hc, hu⟩ := h q (by simp)
    obtain ⟨xs, hx, hrd⟩ := hu.reads hq
    refine ⟨({ q.1 with f1 := xs }, q.2) :: M', by rw [flatL_cons, flatL_cons, h1], by simp [h2], fun p hp => ?_, fun p hp => ?_⟩
    · rcases List.mem_cons.1 hp with rfl | hp
      · refine ⟨some ⟨Fj, 0, none⟩, c, ?_, ?_, ?_⟩
        · show q.2 = .slice _ xs.length c; rw [hx, e]
        · show xs.length ≤ c; rw [hx]; exact hc
        · show ReadsInt W .u8 _ xs.length xs; rw [hx]; exact hrd
      · exact h3 p hp
    · rcases List.mem_cons.1 hp with rfl | hp
      · exact ⟨q, by simp, rfl, hx⟩
      · obtain ⟨q', hq', e⟩ := h4 p hp
        exact ⟨q', List.mem_cons_of_mem _ hq', e⟩
end Go.Proofs.YthneomomhoilkaaDoor.PA
