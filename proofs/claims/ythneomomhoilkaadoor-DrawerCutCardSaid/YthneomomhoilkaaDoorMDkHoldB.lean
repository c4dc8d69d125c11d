/- The room's hold of bytes, over all lists that it handed out. Condition: the marks stand behind each. -/
import Derived.Test.YthneomomhoilkaaDoorMDkRoom
import Derived.Test.YthneomomhoilkaaDoorML
namespace Go.Proofs.YthneomomhoilkaaDoor.PA
open Go.RowKit Go.Maps Go.Proofs.YthneomomhoilkaaDoorW.PrintWords Go.Proofs.YthneomomhoilkaaDoorW.PrintLast Go.Proofs.YthneomomhoilkaaDoorW.PrintMore
set_option linter.unusedVariables false
set_option linter.unusedSimpArgs false
theorem RmB.at {b : Nat} {W : World} {col : RCol} {v0 : Value} {BL : List (Value × List Int)} (h : RmB b W col v0 BL) {i : Nat} {p : Value × List Int} (hp : BL[i]? = some p) :
    ∃ B2 c F cap, v0 = .slice (some ⟨B2, 0, none⟩) BL.length c ∧ W.cell? ⟨B2, i, none⟩ = some (.slice (some ⟨F, 0, none⟩) (p.2.length + 600) cap) ∧ ∀ k, k < 600 → W.cell? ⟨F, p.2.length + k, none⟩ = some (.int .u8 (markB k)) := by
  have hi : i < BL.length := (List.getElem?_eq_some_iff.1 hp).1
  obtain ⟨B2, c, hv⟩ := own_form2 h.own (by omega)
  obtain ⟨F, cap, e, ho, _⟩ := h.rows p (List.mem_of_getElem? hp)
  have c1 := h.own.cells (g := B2) (by rw [hv]; rfl) i p.1 (by rw [List.getElem?_map, hp]; rfl)
  rw [add_at, e] at c1
  refine ⟨B2, c, F, cap, hv, c1, fun k hk => ?_⟩
  have c2 := ho.cells (g := F) (by rw [e]; rfl) (p.2.length + k) (.int .u8 (markB k)) (by
    unfold nums
    rw [List.getElem?_map, List.getElem?_append_right (by omega), show p.2.length + k - p.2.length = k by omega]
    unfold marksB
    rw [List.getElem?_map, List.getElem?_range hk]; rfl)
  rwa [add_at] at c2
end Go.Proofs.YthneomomhoilkaaDoor.PA
