/- DaysTexts, the pure law: what Print and Parse answer is what the document's answer, for every number and every text. No condition beyond the given ones (a 64-bit number, a text of the form's size). -/
import Derived.Test.YtlipkhhpjelicaaDoorDaysText
import Derived.Test.YtlipkhhpjelicaaDoorPAx0
import Derived.Test.YtlipkhhpjelicaaDoorPAx16
import Derived.Test.YtlipkhhpjelicaaDoorPAx17
import Derived.Test.YtlipkhhpjelicaaDoorPAx20
namespace Go.Proofs.YtlipkhhpjelicaaDoor.Pure
set_option linter.unusedVariables false
open Go.RowKit Go.Proofs.YtlipkhhpjelicaaDoorW.PrintWords Go.Proofs.YtlipkhhpjelicaaDoorW.PrintLast Go.Proofs.YtlipkhhpjelicaaDoor.PA Go.Proofs.YtlipkhhpjelicaaDoor.Cal Go.Proofs.YtlipkhhpjelicaaDoor.Days

theorem print_both (n : Int) : ∃ r : ByteArray × Int, Ev (fun k => days_Print.f k n) r ∧ Ev (fun k => levyref2_Print.f k n) r := by
  by_cases h : 0 ≤ n ∧ n ≤ 109572
  · obtain ⟨m, hm⟩ := mon_exists h.1 h.2
    exact ⟨_, print_p hm, rprint_p hm⟩
  · exact ⟨_, print_no h, rprint_no h⟩

theorem DaysTexts : levylaw2_DaysTexts.Pure := by
  intro n s _ _
  obtain ⟨r, ⟨K1, h1⟩, ⟨K2, h2⟩⟩ := print_both n
  obtain ⟨K3, h3⟩ := rparse_p s
  dsimp only at h1 h2 h3
  refine ⟨K1 + K2 + K3, ?_⟩
  unfold levylaw2_DaysTexts.f
  rw [h1 _ (by omega), h2 _ (by omega), h3 _ (by omega)]
  unfold days_Parse.f
  simp only [Option.bind_some, if_true, beq_self_eq_true]

end Go.Proofs.YtlipkhhpjelicaaDoor.Pure
