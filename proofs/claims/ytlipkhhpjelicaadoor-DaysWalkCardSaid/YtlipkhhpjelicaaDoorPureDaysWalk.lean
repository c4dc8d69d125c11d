/- DaysWalk, the pure law: each day's successor has the next date and weekday; numbers, dates and texts go there and back. No condition beyond the given one (a 64-bit number). -/
import Derived.Test.YtlipkhhpjelicaaDoorDaysText
import Derived.Test.YtlipkhhpjelicaaDoorDaysKnown
import Derived.Test.YtlipkhhpjelicaaDoorPAx0
import Derived.Test.YtlipkhhpjelicaaDoorPAx21
namespace Go.Proofs.YtlipkhhpjelicaaDoor.Pure
set_option linter.unusedVariables false
open Go.RowKit Go.Proofs.YtlipkhhpjelicaaDoorW.PrintWords Go.Proofs.YtlipkhhpjelicaaDoorW.PrintLast Go.Proofs.YtlipkhhpjelicaaDoor.PA Go.Proofs.YtlipkhhpjelicaaDoor.Cal Go.Proofs.YtlipkhhpjelicaaDoor.Days

/-- Behind the month's last day stands the next month. -/
theorem mon_next {n : Int} {q : Nat} (h : Mon n q) (hn : n < 109572) : (n - B q + 1 = Cal.len q ∧ q + 1 < 3600 ∧ Mon (n + 1) (q + 1) ∧ n + 1 - B (q + 1) = 0) ∨ (n - B q + 1 < Cal.len q ∧ Mon (n + 1) q) := by
  have hs : B (q + 1) = B q + Cal.len q := rfl
  have hs2 : B (q + 1 + 1) = B (q + 1) + Cal.len (q + 1) := rfl
  have hl := h.len
  have hlow := h.2.1
  have hlb := len_bd (q + 1)
  by_cases c : n - B q + 1 = Cal.len q
  · left
    have hq : q + 1 < 3600 := by
      refine Classical.byContradiction fun hc => ?_
      have hq3 : q + 1 = 3600 := by have := h.1; omega
      have := B3600
      rw [← hq3] at this
      omega
    exact ⟨c, hq, ⟨hq, by omega, by omega⟩, by omega⟩
  · right
    exact ⟨by omega, h.1, by omega, by omega⟩

theorem DaysWalk : levylaw2_DaysWalk.Pure := by
  intro a0 w0
  obtain ⟨n, en, n0, n1⟩ := day_some w0
  obtain ⟨q, hq⟩ := mon_exists n0 n1
  have hqb := hq.1
  have hlow := hq.2.1
  have hlen := hq.len
  have hlb := len_bd q
  obtain ⟨K0, h0⟩ := known_ev
  obtain ⟨K1, h1⟩ := date_yes hq
  obtain ⟨K2, h2⟩ := number_p (dateS n q).1 (dateS n q).2.1 (dateS n q).2.2
  obtain ⟨K3, h3⟩ := print_p hq
  have enum : numS (dateS n q).1 (dateS n q).2.1 (dateS n q).2.2 = (n, 0) := by
    have := numS_ok hqb (d := n - B q + 1) (by omega) (by omega)
    unfold dateS
    simp only
    rw [this]
    simp only [Prod.mk.injEq, and_true]; omega
  have y0 : 0 ≤ (dateS n q).1 ∧ (dateS n q).1 ≤ 9999 := by unfold dateS; simp only; omega
  have m0 : 0 ≤ (dateS n q).2.1 ∧ (dateS n q).2.1 ≤ 99 := by unfold dateS; simp only; omega
  have d0 : 0 ≤ (dateS n q).2.2 ∧ (dateS n q).2.2 ≤ 99 := by unfold dateS; simp only; omega
  have epar := parse_text y0.1 y0.2 m0.1 m0.2 d0.1 d0.2
  rw [enum] at epar h2
  rw [if_pos rfl] at epar
  dsimp only at h0 h1 h2 h3 epar
  by_cases hend : n = 109572
  · obtain ⟨K4, h4⟩ := date_no (n := n + 1) (by omega)
    dsimp only at h4
    refine ⟨K0 + K1 + K2 + K3 + K4 + 5, ?_⟩
    unfold levylaw2_DaysWalk.f
    rw [h0 _ (by omega), Option.bind_some, if_pos rfl, en, Option.bind_some, h1 _ (by omega), Option.bind_some]
    dsimp only
    rw [h2 _ (by omega), Option.bind_some, h3 _ (by omega), Option.bind_some]
    unfold days_Parse.f
    dsimp only
    rw [epar, Option.bind_some]
    dsimp only
    rw [if_pos rfl, if_pos rfl, if_pos rfl, if_pos rfl, if_pos rfl, if_pos rfl, strOfNums_size, if_pos (by rfl)]
    have hb : ((10 : Int) != 10) = false := by decide
    rw [hb]
    have e1 : dateS n q = (2199, 12, 31) := by
      have hm : Mon 109572 3599 := by
        have h36 := B3600
        have hs : B 3600 = B 3599 + Cal.len 3599 := rfl
        have hl : Cal.len 3599 = 31 := by decide
        exact ⟨by decide, by omega, by rw [h36]; decide⟩
      rw [hend] at hq
      obtain rfl := mon_unique hq hm
      rw [hend]
      have h36 := B3600
      have hs : B 3600 = B 3599 + Cal.len 3599 := rfl
      have hl : Cal.len 3599 = 31 := by decide
      have hB : B 3599 = 109542 := by omega
      unfold dateS
      rw [hB]
      rfl
    simp only [levylaw2_DaysWalk.j0]
    rw [if_neg (by decide), wr (by omega) (by omega), h4 _ (by omega), Option.bind_some, if_pos hend, if_pos rfl, e1]
    rfl
  · have hn : n < 109572 := by omega
    have w1 := weekday_p (n := n) ⟨n0, n1⟩
    have w2 := weekday_p (n := n + 1) (by omega)
    have hweek : n % 7 + 1 ≥ 1 ∧ n % 7 + 1 ≤ 7 ∧ (n + 1) % 7 + 1 = wrap64 (Int.tmod (n % 7 + 1) 7 + 1) := by
      rw [Int.tmod_eq_emod_of_nonneg (by omega), wr (by omega) (by omega)]; omega
    -- the common front: all tests of the day itself hold
    have front : ∀ k, K0 + K1 + K2 + K3 ≤ k → levylaw2_DaysWalk.f k a0 = levylaw2_DaysWalk.j0 k n false (dateS n q).1 (dateS n q).2.1 (dateS n q).2.2 := by
      intro k hk
      unfold levylaw2_DaysWalk.f
      rw [h0 _ (by omega), Option.bind_some, if_pos rfl, en, Option.bind_some, h1 _ (by omega), Option.bind_some]
      dsimp only
      rw [h2 _ (by omega), Option.bind_some, h3 _ (by omega), Option.bind_some]
      unfold days_Parse.f
      dsimp only
      rw [epar, Option.bind_some]
      dsimp only
      rw [if_pos rfl, if_pos rfl, if_pos rfl, if_pos rfl, if_pos rfl, if_pos rfl, strOfNums_size, if_pos (by rfl)]
      have hb : ((10 : Int) != 10) = false := by decide
      rw [hb]
    have last : ∀ (k : Nat) (y m d : Int) (r : Int × Int × Int), (if m = 13 then (y + 1, 1, 1) else (y, m, d)) = r → 0 ≤ y → y ≤ 3000 → (y = (dateS n q).1) →
        levylaw2_DaysWalk.j1 (k + 1) n 0 (dateS n q).1 (dateS n q).2.1 (dateS n q).2.2 r.1 r.2.1 r.2.2 y m d = some true := by
      intro k y m d r hr hy0 hy1 hy
      simp only [levylaw2_DaysWalk.j1]
      by_cases h13 : m = 13
      · rw [if_pos h13] at hr
        subst hr
        rw [if_pos h13, w1, Option.bind_some, wr (x := n + 1) (by omega) (by omega), w2, Option.bind_some, if_pos trivial, ← hy, wr (x := y + 1) (by omega) (by omega), if_pos (by simp)]
        dsimp only
        rw [if_pos hweek.2.2, if_pos hweek.1, decide_eq_true hweek.2.1]
      · rw [if_neg h13] at hr
        subst hr
        rw [if_neg h13, w1, Option.bind_some, wr (x := n + 1) (by omega) (by omega), w2, Option.bind_some, if_pos trivial, if_pos (by simp)]
        dsimp only
        rw [if_pos hweek.2.2, if_pos hweek.1, decide_eq_true hweek.2.1]
    rcases mon_next hq hn with ⟨c1, c2, c3, c4⟩ | ⟨c1, c2⟩
    · obtain ⟨K4, h4⟩ := date_yes c3
      dsimp only at h4
      refine ⟨K0 + K1 + K2 + K3 + K4 + 5, ?_⟩
      rw [front _ (by omega)]
      simp only [levylaw2_DaysWalk.j0]
      rw [if_neg (by decide), wr (x := n + 1) (by omega) (by omega), h4 _ (by omega), Option.bind_some, if_neg hend, last_p, Option.bind_some]
      rw [show lastD (dateS n q).1 (dateS n q).2.1 = Cal.len q from rfl, if_pos (show (dateS n q).2.2 = Cal.len q from c1), wr (x := (dateS n q).2.1 + 1) (by omega) (by omega)]
      refine last _ _ _ _ (dateS (n + 1) (q + 1)) ?_ y0.1 (by unfold dateS; simp only; omega) rfl
      unfold dateS
      simp only
      by_cases h12 : q % 12 = 11
      · rw [if_pos (by omega)]
        simp only [Prod.mk.injEq]; omega
      · rw [if_neg (by omega)]
        simp only [Prod.mk.injEq]; omega
    · obtain ⟨K4, h4⟩ := date_yes c2
      dsimp only at h4
      refine ⟨K0 + K1 + K2 + K3 + K4 + 5, ?_⟩
      rw [front _ (by omega)]
      simp only [levylaw2_DaysWalk.j0]
      rw [if_neg (by decide), wr (x := n + 1) (by omega) (by omega), h4 _ (by omega), Option.bind_some, if_neg hend, last_p, Option.bind_some]
      rw [show lastD (dateS n q).1 (dateS n q).2.1 = Cal.len q from rfl, if_neg (show ¬ (dateS n q).2.2 = Cal.len q from by unfold dateS; simp only; omega), wr (x := (dateS n q).2.2 + 1) (by omega) (by omega)]
      refine last _ _ _ _ (dateS (n + 1) q) ?_ y0.1 (by unfold dateS; simp only; omega) rfl
      unfold dateS
      simp only
      rw [if_neg (by omega)]
      simp only [Prod.mk.injEq, true_and]; omega

end Go.Proofs.YtlipkhhpjelicaaDoor.Pure
