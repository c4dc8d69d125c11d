/- What the laws over days begin with: a number brought into the calendar, and the known example. Conditions: each law's own. -/
import Derived.Test.YtlipkhhpjelicaaDoorDaysEval
import Derived.Test.YtlipkhhpjelicaaDoorPAx0
import Derived.Test.YtlipkhhpjelicaaDoorPAx9
namespace Go.Proofs.YtlipkhhpjelicaaDoor.Pure
set_option linter.unusedVariables false
open Go.RowKit Go.Proofs.YtlipkhhpjelicaaDoorW.PrintWords Go.Proofs.YtlipkhhpjelicaaDoorW.PrintLast Go.Proofs.YtlipkhhpjelicaaDoor.PA Go.Proofs.YtlipkhhpjelicaaDoor.Cal Go.Proofs.YtlipkhhpjelicaaDoor.Days

theorem bd64 {x : Int} (h : (Lit.int .i64 x).wf = true) : -9223372036854775808 ≤ x ∧ x ≤ 9223372036854775807 := by
  simpa [Lit.wf, IntKind.min, IntKind.max, IntKind.signed, IntKind.bits] using h

theorem day_some {n : Int} (h : (Lit.int .i64 n).wf = true) : ∃ v, levylaw2_day.f n = some v ∧ 0 ≤ v ∧ v ≤ 109572 := by
  have hb := bd64 h
  unfold levylaw2_day.f
  by_cases hn : n < 0
  · rw [if_pos hn, wr (x := n + 1) (by omega) (by omega), wr (by omega) (by omega), Int.tmod_eq_emod_of_nonneg (by omega)]
    exact ⟨_, rfl, by omega, by omega⟩
  · rw [if_neg hn, Int.tmod_eq_emod_of_nonneg (by omega)]
    exact ⟨_, rfl, by omega, by omega⟩

theorem B1201 : B 1201 = 36555 := by
  have h := B12 100
  have h2 : B 1201 = B 1200 + Cal.len 1200 := rfl
  have h3 : Cal.len 1200 = 31 := by decide
  have h4 : D (1900 + ((100 : Nat) : Int)) = 36524 := by decide
  rw [show 12 * 100 = 1200 from rfl, h4] at h
  omega
theorem mon_known : Mon 36583 1201 := by
  have h := B1201
  have h2 : B (1201 + 1) = B 1201 + Cal.len 1201 := rfl
  have h3 : Cal.len 1201 = 29 := by decide
  exact ⟨by decide, by omega, by omega⟩

theorem known_ev : Ev (fun k => levylaw2_known.f k) true := by
  obtain ⟨K1, h1⟩ := number_p 2000 2 29
  obtain ⟨K2, h2⟩ := date_yes mon_known
  have e1 : numS 2000 2 29 = (36583, 0) := by
    unfold numS
    have : lastD 2000 2 = 29 := by decide
    rw [this, if_neg (by decide), if_neg (by decide), show 12 * ((2000 : Int) - 1900).toNat + ((2 : Int) - 1).toNat = 1201 from rfl, B1201]
    rfl
  have e2 : dateS 36583 1201 = (2000, 2, 29) := by unfold dateS; rw [B1201]; rfl
  dsimp only at h1 h2
  rw [e1] at h1
  rw [e2] at h2
  dsimp only at h2
  refine ⟨K1 + K2 + 3, fun k hk => ?_⟩
  obtain ⟨k, rfl⟩ : ∃ m, k = m + 1 + 1 := ⟨k - 2, by omega⟩
  show levylaw2_known.f (k + 1 + 1) = some true
  unfold levylaw2_known.f
  rw [last_p, last_p, last_p, show lastD 2000 2 = 29 by decide, show lastD 2001 2 = 28 by decide, show lastD 2001 1 = 31 by decide]
  simp only [Option.bind_some, if_true, levylaw2_known.j0]
  rw [h1 _ (by omega), h2 _ (by omega), weekday_p (by omega)]
  rfl

end Go.Proofs.YtlipkhhpjelicaaDoor.Pure
