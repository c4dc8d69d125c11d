/- DaysDates, the pure law: what the printed Leap, Last, Number, Date and Weekday answer is what the document's printed ones answer, for all numbers. No condition beyond the given ones (that the arguments are 64-bit numbers). -/
import Derived.Test.YtlipkhhpjelicaaDoorDaysEval
import Derived.Test.YtlipkhhpjelicaaDoorPAx0
import Derived.Test.YtlipkhhpjelicaaDoorPAx2
import Derived.Test.YtlipkhhpjelicaaDoorPAx3
import Derived.Test.YtlipkhhpjelicaaDoorPAx4
import Derived.Test.YtlipkhhpjelicaaDoorPAx5
import Derived.Test.YtlipkhhpjelicaaDoorPAx6
import Derived.Test.YtlipkhhpjelicaaDoorPAx7
import Derived.Test.YtlipkhhpjelicaaDoorPAx8
namespace Go.Proofs.YtlipkhhpjelicaaDoor.Pure
open Go.RowKit Go.Proofs.YtlipkhhpjelicaaDoorW.PrintWords Go.Proofs.YtlipkhhpjelicaaDoorW.PrintLast Go.Proofs.YtlipkhhpjelicaaDoor.PA Go.Proofs.YtlipkhhpjelicaaDoor.Cal Go.Proofs.YtlipkhhpjelicaaDoor.Days

theorem date_both (n : Int) : ∃ r : Int × Int × Int × Int, Ev (fun k => days_Date.f k n) r ∧ Ev (fun k => levyref2_Date.f k n) r := by
  by_cases h : 0 ≤ n ∧ n ≤ 109572
  · obtain ⟨m, hm⟩ := mon_exists h.1 h.2
    exact ⟨_, date_yes hm, rdate_yes hm⟩
  · exact ⟨_, date_no h, rdate_no h⟩

theorem weekday_some (n : Int) : ∃ r, days_Weekday.f n = some r ∧ levyref2_Weekday.f n = some r := by
  by_cases h : 0 ≤ n ∧ n ≤ 109572
  · exact ⟨_, weekday_p h, weekday_p h⟩
  · exact ⟨_, weekday_no h, weekday_no h⟩

theorem DaysDates : levylaw2_DaysDates.Pure := by
  intro y m d n _ _ _ _
  refine Ev.rounds ?_
  refine Ev.congr (f := fun k => (days_Last.f k y m).bind fun a => (levyref2_Last.f k y m).bind fun b => levylaw2_DaysDates.j0 k y m d n (a != b)) (fun k => ?_) ?_
  · unfold levylaw2_DaysDates.f
    rw [leap_p, leap_r]; simp only [Option.bind_some]; rw [if_neg (by simp)]
  refine Ev.bind (last_pE y m) (Ev.bind (last_rE y m) ?_)
  refine Ev.step (f := fun k => (days_Number.f k y m d).bind fun a => (levyref2_Number.f k y m d).bind fun b => if a.1 = b.1 then levylaw2_DaysDates.j1 k n (a.2 != b.2) else levylaw2_DaysDates.j1 k n true) (fun k => by simp only [levylaw2_DaysDates.j0]; rw [if_neg (by simp)]) ?_
  refine Ev.bind (number_p y m d) (Ev.bind (number_r y m d) ?_)
  refine Ev.congr (f := fun k => levylaw2_DaysDates.j1 k n false) (fun k => by rw [if_pos rfl, bne_self_eq_false]) ?_
  obtain ⟨r, h1, h2⟩ := date_both n
  obtain ⟨s, h3, h4⟩ := weekday_some n
  refine Ev.step (f := fun k => (days_Date.f k n).bind fun a => (levyref2_Date.f k n).bind fun b => if (a.1 == b.1 && (a.2.1 == b.2.1 && (a.2.2.1 == b.2.2.1))) = true then (if a.2.2.2 = b.2.2.2 then (some true) else some false) else some false) (fun k => ?_) ?_
  · simp only [levylaw2_DaysDates.j1]
    rw [if_neg (by simp), h3, h4]
    simp only [Option.bind_some, if_true, beq_self_eq_true]
  refine Ev.bind h1 (Ev.bind h2 ?_)
  refine Ev.congr (fun k => ?_) (Ev.now _)
  simp

end Go.Proofs.YtlipkhhpjelicaaDoor.Pure
