/- A room's list of files in memory, as it grows: each file's bytes with marks behind, the list's own marks. Condition: none. -/
import Derived.Test.YthneomomhoilkaaDoorMDkInts
import Derived.Test.YthneomomhoilkaaDoorMB
import Derived.Test.YthneomomhoilkaaDoorML
namespace Go.Proofs.YthneomomhoilkaaDoor.PA
open Go.RowKit Go.Maps Go.Proofs.YthneomomhoilkaaDoorW.PrintWords Go.Proofs.YthneomomhoilkaaDoorW.PrintLast Go.Proofs.YthneomomhoilkaaDoorW.PrintMore
set_option linter.unusedVariables false
set_option linter.unusedSimpArgs false
def FRel (M : List (Fl × Value)) (BL : List (Value × List Int)) : Prop := ∀ (j : Nat) (p : Fl × Value), M[j]? = some p → ∃ Fj cj, p.2 = .slice (some ⟨Fj, 0, none⟩) p.1.f1.length (p.1.f1.length + 600) ∧ BL[j]? = some (.slice (some ⟨Fj, 0, none⟩) (p.1.f1.length + 600) cj, p.1.f1)
theorem FRel.snoc {M : List (Fl × Value)} {BL : List (Value × List Int)} (h : FRel M BL) (hl : M.length = BL.length) (f : Fl) (F c : Nat) :
    FRel (M ++ [(f, .slice (some ⟨F, 0, none⟩) f.f1.length (f.f1.length + 600))]) (BL ++ [(.slice (some ⟨F, 0, none⟩) (f.f1.length + 600) c, f.f1)]) := by
  intro j p hp
  by_cases hj : j < M.length
  · rw [List.getElem?_append_left hj] at hp
    obtain ⟨Fj, cj, h1, h2⟩ := h j p hp
    exact ⟨Fj, cj, h1, by rw [List.getElem?_append_left (by omega)]; exact h2⟩
  · rw [List.getElem?_append_right (by omega)] at hp
    obtain ⟨k, hk⟩ : ∃ k, k = j - M.length := ⟨_, rfl⟩
    rw [← hk] at hp
    have hj0 : k = 0 := by
      rcases k with _ | k
      · rfl
      · simp at hp
    subst hj0
    simp only [List.getElem?_cons_zero, Option.some.injEq] at hp
    subst hp
    refine ⟨F, c, rfl, ?_⟩
    rw [List.getElem?_append_right (by omega), show j - BL.length = 0 by omega]; rfl
end Go.Proofs.YthneomomhoilkaaDoor.PA
