/- DaysBetween, the pure law: the greatest number of months that fits; ages are months by twelve, but for who is born on 29 February. No condition beyond the given ones (that the arguments are 64-bit numbers). -/
import Derived.Test.YtlipkhhpjelicaaDoorPureDaysAdd
import Derived.Test.YtlipkhhpjelicaaDoorPAx0
import Derived.Test.YtlipkhhpjelicaaDoorPAx14
namespace Go.Proofs.YtlipkhhpjelicaaDoor.Pure
set_option linter.unusedVariables false
open Go.RowKit Go.Proofs.YtlipkhhpjelicaaDoorW.PrintWords Go.Proofs.YtlipkhhpjelicaaDoorW.PrintLast Go.Proofs.YtlipkhhpjelicaaDoor.PA Go.Proofs.YtlipkhhpjelicaaDoor.Cal Go.Proofs.YtlipkhhpjelicaaDoor.Days

theorem len_feb (q : Nat) (h : q % 12 = 1) : Cal.len q = if leapB (1900 + ((q / 12 : Nat) : Int)) = true then 29 else 28 := by
  unfold Cal.len lastD
  rw [h, if_neg (by omega), if_pos (by omega)]
theorem len_same {p q : Nat} (h : q % 12 = p % 12) (hn : q % 12 ≠ 1) : Cal.len q = Cal.len p := by
  unfold Cal.len
  rw [h]
  exact lastD_other (by omega)

theorem between_main {a b : Int} (h : a ≤ b) (a0 : 0 ≤ a) (b1 : b ≤ 109572) : Ev (fun k => levylaw2_DaysBetween.j0 k a b) true := by
  obtain ⟨p, hp⟩ := mon_exists a0 (show a ≤ 109572 by omega)
  obtain ⟨q, hq⟩ := mon_exists (show 0 ≤ b by omega) b1
  have hpb := hp.1
  have hqb := hq.1
  have hle := mon_le hp hq h
  have hbd := bet0_bd hp hq h
  have hpl := hp.len
  have hql := hq.len
  have hp2 := hp.2.1
  have hq2 := hq.2.1
  have hqlb := len_bd q
  have hplb := len_bd p
  have hqs : B (q + 1) = B q + Cal.len q := rfl
  obtain ⟨t, et⟩ : ∃ t, t = bet0 a p b q := ⟨_, rfl⟩
  have ebet : betS a p b q = t := by unfold betS; rw [if_neg (by omega), et]
  have ebet2 : betS b q a p = -t := by
    unfold betS
    by_cases e : a < b
    · rw [if_pos e, et]
    · rw [if_neg e]
      obtain rfl : a = b := by omega
      obtain rfl := mon_unique hp hq
      rw [et]
      unfold bet0
      rw [if_neg (by omega)]
      omega
  -- which of the two it is
  have ht : (t = (q : Int) - p ∧ min (a - B p) (Cal.len q - 1) ≤ b - B q) ∨ (t = (q : Int) - p - 1 ∧ min (a - B p) (Cal.len q - 1) > b - B q) := by
    rw [et]; unfold bet0
    split
    · rename_i hc; exact Or.inr ⟨rfl, by omega⟩
    · rename_i hc; exact Or.inl ⟨rfl, by omega⟩
  rw [← et] at hbd
  have ht3 : t < 3600 := by
    rcases ht with ⟨e, _⟩ | ⟨e, _⟩ <;> omega
  obtain ⟨K1, h1⟩ := between_p hp hq
  obtain ⟨K2, h2⟩ := add_p hp t
  obtain ⟨K3, h3⟩ := add_p hp (t + 1)
  obtain ⟨K4, h4⟩ := between_p hq hp
  obtain ⟨K5, h5⟩ := age_p hp hq h
  obtain ⟨K6, h6⟩ := date_yes hp
  obtain ⟨K7, h7⟩ := date_yes hq
  dsimp only at h1 h2 h3 h4 h5 h6 h7
  rw [ebet] at h1
  rw [ebet2] at h4
  have eadd := addS_ok (n := a) (m := p) (t := t) (by omega) ht3 (by omega) (by rcases ht with ⟨e, _⟩ | ⟨e, _⟩ <;> omega)
  have hx : (addS a p t).1 ≤ b := by
    rw [eadd]
    rcases ht with ⟨e, hc⟩ | ⟨e, hc⟩
    · rw [show ((p : Int) + t).toNat = q by omega]; simp only; omega
    · have hpq : p < q := by
        refine Classical.byContradiction fun hn => ?_
        obtain rfl : p = q := by omega
        omega
      have hs : B (q - 1 + 1) = B (q - 1) + Cal.len (q - 1) := rfl
      rw [show q - 1 + 1 = q by omega] at hs
      rw [show ((p : Int) + t).toNat = q - 1 by omega]; simp only; omega
  have hy : (addS a p (t + 1)).2 = 0 → ¬ (addS a p (t + 1)).1 ≤ b := by
    intro hz
    obtain ⟨z1, z2, z3, z4⟩ := addS_zero hz
    rw [addS_ok z1 z2 z3 z4]
    rcases ht with ⟨e, hc⟩ | ⟨e, hc⟩
    · have := len_bd (q + 1)
      have := hq.2.2
      rw [show ((p : Int) + (t + 1)).toNat = q + 1 by omega]; simp only; omega
    · rw [show ((p : Int) + (t + 1)).toNat = q by omega]; simp only; omega
  -- the years
  have hdiv : wrap64 (Int.tdiv t 12) = t / 12 := by rw [Int.tdiv_eq_ediv_of_nonneg (by omega), wr (by omega) (by omega)]
  have hcorr : (q % 12 = 1 ∧ p % 12 = 1 ∧ a - B p = 28 ∧ b - B q = 27 ∧ ¬ leapB (1900 + ((q / 12 : Nat) : Int)) = true) → ageS a p b q = t / 12 - 1 := by
    rintro ⟨c1, c2, c3, c4, c5⟩
    have hl := len_feb q c1
    rw [if_neg c5] at hl
    unfold ageS
    rw [if_pos (Or.inr ⟨by omega, by omega⟩)]
    rcases ht with ⟨e, hc⟩ | ⟨e, hc⟩ <;> omega
  have hplain : ¬ (q % 12 = 1 ∧ p % 12 = 1 ∧ a - B p = 28 ∧ b - B q = 27 ∧ ¬ leapB (1900 + ((q / 12 : Nat) : Int)) = true) → ageS a p b q = t / 12 := by
    intro hn
    unfold ageS
    by_cases c1 : q % 12 < p % 12
    · rw [if_pos (Or.inl c1)]
      rcases ht with ⟨e, hc⟩ | ⟨e, hc⟩ <;> omega
    · by_cases c2 : q % 12 = p % 12
      · by_cases c3 : b - B q < a - B p
        · rw [if_pos (Or.inr ⟨c2, c3⟩)]
          rcases ht with ⟨e, hc⟩ | ⟨e, hc⟩
          · -- the month of b is too short for a's day
            exfalso
            by_cases cf : q % 12 = 1
            · have hl := len_feb q cf
              have hl2 := len_feb p (by omega)
              by_cases cl : leapB (1900 + ((q / 12 : Nat) : Int)) = true
              · rw [if_pos cl] at hl
                have : Cal.len p ≤ 29 := by rw [hl2]; split <;> omega
                omega
              · rw [if_neg cl] at hl
                have : Cal.len p ≤ 29 := by rw [hl2]; split <;> omega
                exact hn ⟨cf, by omega, by omega, by omega, cl⟩
            · have := len_same c2 cf
              omega
          · omega
        · rw [if_neg (by omega)]
          rcases ht with ⟨e, hc⟩ | ⟨e, hc⟩ <;> omega
      · rw [if_neg (by omega)]
        rcases ht with ⟨e, hc⟩ | ⟨e, hc⟩ <;> omega
  have hab := hbd
  refine ⟨K1 + K2 + K3 + K4 + K5 + K6 + K7 + 5, fun k hk => ?_⟩
  obtain ⟨k, rfl⟩ : ∃ m, k = m + 1 + 1 + 1 := ⟨k - 3, by omega⟩
  have last : levylaw2_DaysBetween.j2 (k + 1) a b t false = some true := by
    simp only [levylaw2_DaysBetween.j2]
    rw [if_neg (by simp), h5 _ (by omega), h6 _ (by omega), h7 _ (by omega)]
    simp only [Option.bind_some, if_true, leap_p]
    rw [hdiv]
    by_cases c1 : (dateS a p).2.1 = 2
    · rw [if_pos c1]
      by_cases c2 : (dateS a p).2.2 = 29
      · rw [if_pos c2]
        by_cases c3 : (dateS b q).2.1 = 2
        · rw [if_pos c3]
          by_cases c4 : (dateS b q).2.2 = 28
          · rw [if_pos c4]
            unfold dateS at c1 c2 c3 c4
            simp only at c1 c2 c3 c4
            by_cases c5 : leapB (dateS b q).1 = true
            · rw [if_pos c5, hplain (fun hh => hh.2.2.2.2 c5), beq_self_eq_true]
            · rw [if_neg c5, hcorr ⟨by omega, by omega, by omega, by omega, c5⟩, wr (by omega) (by omega), beq_self_eq_true]
          · rw [if_neg c4, hplain (fun hh => c4 (by unfold dateS; simp only; omega)), beq_self_eq_true]
        · rw [if_neg c3, hplain (fun hh => c3 (by unfold dateS; simp only; omega)), beq_self_eq_true]
      · rw [if_neg c2, hplain (fun hh => c2 (by unfold dateS; simp only; omega)), beq_self_eq_true]
    · rw [if_neg c1, hplain (fun hh => c1 (by unfold dateS; simp only; omega)), beq_self_eq_true]
  have mid : levylaw2_DaysBetween.j1 (k + 1 + 1) a b t false = some true := by
    simp only [levylaw2_DaysBetween.j1]
    rw [if_neg (by simp), h4 _ (by omega)]
    simp only [Option.bind_some, if_true]
    rw [wr (by omega) (by omega), bne_self_eq_false]
    exact last
  show levylaw2_DaysBetween.j0 (k + 1 + 1 + 1) a b = some true
  simp only [levylaw2_DaysBetween.j0]
  rw [h1 _ (by omega)]
  simp only [Option.bind_some]
  rw [h2 _ (by omega)]
  simp only [Option.bind_some]
  rw [wr (x := t + 1) (by omega) (by omega), h3 _ (by omega)]
  simp only [Option.bind_some, if_true]
  rw [show (addS a p t).2 = 0 by rw [eadd]]
  simp only [if_true]
  rw [if_neg (by omega), if_neg (by omega)]
  by_cases hz : (addS a p (t + 1)).2 = 0
  · rw [if_pos hz, decide_eq_false (hy hz)]
    exact mid
  · rw [if_neg hz]
    exact mid

theorem DaysBetween : levylaw2_DaysBetween.Pure := by
  intro a0 a1 w0 w1
  obtain ⟨n, en, n0, n1⟩ := day_some w0
  obtain ⟨m, em, m0, m1⟩ := day_some w1
  obtain ⟨K0, h0⟩ := known_ev
  by_cases c : m < n
  · obtain ⟨K1, h1⟩ := between_main (show m ≤ n by omega) m0 n1
    dsimp only at h0 h1
    refine ⟨K0 + K1, ?_⟩
    unfold levylaw2_DaysBetween.f
    rw [h0 _ (by omega), en, em]
    simp only [Option.bind_some, if_true]
    rw [if_pos c, h1 _ (by omega)]
  · obtain ⟨K1, h1⟩ := between_main (show n ≤ m by omega) n0 m1
    dsimp only at h0 h1
    refine ⟨K0 + K1, ?_⟩
    unfold levylaw2_DaysBetween.f
    rw [h0 _ (by omega), en, em]
    simp only [Option.bind_some, if_true]
    rw [if_neg c, h1 _ (by omega)]

end Go.Proofs.YtlipkhhpjelicaaDoor.Pure
