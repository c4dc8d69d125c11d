/- A list is the same as itself. Condition: it is no longer than a million. -/
import Derived.Test.YtidbcenbcllfnaaDoorKGrTot
import Derived.Test.YtidbcenbcllfnaaDoorKPAx0
import Derived.Test.YtidbcenbcllfnaaDoorKPAx2
namespace Go.Proofs.YtidbcenbcllfnaaDoor.Gr
open Go.RowKit Go.Proofs.YtidbcenbcllfnaaDoorW.PrintWords Go.Proofs.YtidbcenbcllfnaaDoorW.PrintLast Go.Proofs.YtidbcenbcllfnaaDoor.PA
set_option linter.unusedVariables false
set_option linter.unusedSectionVars false
set_option linter.unusedSimpArgs false
theorem same_refl (l : List S33) (hl : l.length < 1000000) : Ev (fun k => levylaw4_same.f k l l) true := by
  suffices h : ∀ (d i : Nat), l.length = i + d → Ev (fun k => levylaw4_same.l0 k l l (i : Int)) true by
    refine Ev.congr (fun k => ?_) (h l.length 0 (by omega))
    unfold levylaw4_same.f
    rw [if_pos rfl]
    rfl
  intro d
  induction d with
  | zero =>
    intro i hi
    refine ⟨1, fun k hk => ?_⟩
    obtain ⟨n, rfl⟩ : ∃ n, k = n + 1 := ⟨k - 1, by omega⟩
    show levylaw4_same.l0 (n + 1) l l (i : Int) = _
    unfold levylaw4_same.l0
    rw [if_neg (by omega)]
  | succ d ih =>
    intro i hi
    obtain ⟨K, hK⟩ := ih (i + 1) (by omega)
    refine ⟨K + 1, fun k hk => ?_⟩
    obtain ⟨n, rfl⟩ : ∃ n, k = n + 1 := ⟨k - 1, by omega⟩
    have h := hK n (by omega)
    dsimp only at h
    show levylaw4_same.l0 (n + 1) l l (i : Int) = _
    unfold levylaw4_same.l0
    have e1 : wrap64 ((i : Int) + 1) = ((i + 1 : Nat) : Int) := by rw [wrI (by omega) (by omega)]; omega
    rw [e1, h, if_pos (by omega), if_pos (by omega), if_pos (by omega), if_neg (by simp)]
end Go.Proofs.YtidbcenbcllfnaaDoor.Gr
