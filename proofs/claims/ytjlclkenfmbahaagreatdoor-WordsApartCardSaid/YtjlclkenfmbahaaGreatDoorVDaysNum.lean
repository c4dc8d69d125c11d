/- What the printed functions of the calendar (the program's and the document's) come to, said by the plain calendar: month lengths, the day on which a month begins, the month of a day. Conditions: each law's own. -/
import Derived.Test.YtjlclkenfmbahaaGreatDoorVCal
import Derived.Test.YtjlclkenfmbahaaGreatDoorVPAx0
import Derived.Test.YtjlclkenfmbahaaGreatDoorVL
namespace Go.Proofs.YtjlclkenfmbahaaGreatDoor.Days
open Go.RowKit Go.Proofs.YtjlclkenfmbahaaGreatDoorW.PrintWords Go.Proofs.YtjlclkenfmbahaaGreatDoorW.PrintLast Go.Proofs.YtjlclkenfmbahaaGreatDoor.PA Go.Proofs.YtjlclkenfmbahaaGreatDoor.Cal
theorem wr {x : Int} (h1 : -9223372036854775808 ≤ x) (h2 : x ≤ 9223372036854775807) : wrap64 x = x := by unfold wrap64; omega
theorem ev_const {α : Type} {g : Nat → Option α} {r : α} (h : ∀ k, g (k + 1) = some r) : Ev g r := ⟨1, fun k hk => by obtain ⟨m, rfl⟩ : ∃ m, k = m + 1 := ⟨k - 1, by omega⟩; exact h m⟩
theorem leap_p (y : Int) : days_Leap.f y = some (leapB y) := by
 unfold days_Leap.f leapB
 split
 ·split <;> rfl
 ·rfl
theorem leap_r (y : Int) : levyref2_Leap.f y = some (leapB y) := leap_p y
theorem twelve {m : Int} (h1 : ¬ m < 1) (h2 : ¬ 12 < m) : m = 1 ∨ m = 2 ∨ m = 3 ∨ m = 4 ∨ m = 5 ∨ m = 6 ∨ m = 7 ∨ m = 8 ∨ m = 9 ∨ m = 10 ∨ m = 11 ∨ m = 12 := by omega
theorem last_p (k : Nat) (y m : Int) : days_Last.f (k + 1) y m = some (lastD y m) := by
 unfold days_Last.f
 by_cases h1 : m < 1
 ·rw [if_pos h1]; simp only [days_Last.j0, if_true]; unfold lastD; rw [if_pos (Or.inl h1)]
 ·rw [if_neg h1]
  by_cases h2 : 12 < m
  ·rw [decide_eq_true (show m > 12 from h2)]; simp only [days_Last.j0, if_true]; unfold lastD; rw [if_pos (Or.inr h2)]
  ·rw [decide_eq_false (show ¬ m > 12 from h2)]
   simp only [days_Last.j0, leap_p, Option.bind_some]
   rcases twelve h1 h2 with rfl | rfl | rfl | rfl | rfl | rfl | rfl | rfl | rfl | rfl | rfl | rfl <;> cases hl : leapB y <;> simp [lastD, hl, wrap64, rd, tab3]
theorem last_r (k : Nat) (y m : Int) : levyref2_Last.f (k + 1) y m = some (lastD y m) := by
 unfold levyref2_Last.f
 by_cases h1 : m < 1
 ·have e : ∀ n : Int, 1 ≤ n → ¬ m = n := fun n hn => by omega
  rw [if_neg (e 4 (by omega)), if_neg (e 6 (by omega)), if_neg (e 9 (by omega)), beq_eq_false_iff_ne.2 (e 11 (by omega))]
  simp only [levyref2_Last.j0]
  rw [if_neg (by simp), if_neg (e 2 (by omega)), if_neg (e 1 (by omega)), if_neg (e 3 (by omega)), if_neg (e 5 (by omega)), if_neg (e 7 (by omega)), if_neg (e 8 (by omega)), if_neg (e 10 (by omega)), if_neg (e 12 (by omega))]
  unfold lastD; rw [if_pos (Or.inl h1)]
 ·by_cases h2 : 12 < m
  ·have e : ∀ n : Int, n ≤ 12 → ¬ m = n := fun n hn => by omega
   rw [if_neg (e 4 (by omega)), if_neg (e 6 (by omega)), if_neg (e 9 (by omega)), beq_eq_false_iff_ne.2 (e 11 (by omega))]
   simp only [levyref2_Last.j0]
   rw [if_neg (by simp), if_neg (e 2 (by omega)), if_neg (e 1 (by omega)), if_neg (e 3 (by omega)), if_neg (e 5 (by omega)), if_neg (e 7 (by omega)), if_neg (e 8 (by omega)), if_neg (e 10 (by omega)), if_neg (e 12 (by omega))]
   unfold lastD; rw [if_pos (Or.inr h2)]
  ·simp only [levyref2_Last.j0, leap_r, Option.bind_some]
   rcases twelve h1 h2 with rfl | rfl | rfl | rfl | rfl | rfl | rfl | rfl | rfl | rfl | rfl | rfl <;> cases hl : leapB y <;> simp [lastD, hl]
theorem last_pE (y m : Int) : Ev (fun k => days_Last.f k y m) (lastD y m) := ev_const fun k => last_p k y m
theorem last_rE (y m : Int) : Ev (fun k => levyref2_Last.f k y m) (lastD y m) := ev_const fun k => last_r k y m
theorem ahead_p {y : Int} (h1 : 1 ≤ y) (h2 : y ≤ 3000) : days_daysAhead.f y = some (D y) := by
 unfold days_daysAhead.f D
 rw [wr (x := y - 1) (by omega) (by omega), Int.tdiv_eq_ediv_of_nonneg (by omega), Int.tdiv_eq_ediv_of_nonneg (by omega), Int.tdiv_eq_ediv_of_nonneg (by omega)]
 simp (disch := omega) only [wr]
theorem number_loop (j : Nat) {i : Nat} (hi : i < 12) (_hj : j < 300) (d : Nat) : ∀ (i0 : Nat) (x : Int), i = i0 + d → 0 ≤ x → x ≤ 1000000 + 31 * (i0 : Int) →
  Ev (fun k => days_Number.l0 k (1900 + (j : Int)) ((i : Int) + 1) x ((i0 : Int) + 1)) (x + (B (12 * j + i) - B (12 * j + i0)), 0) := by
 induction d with
 | zero =>
  intro i0 x he h0 h1
  obtain rfl : i = i0 := by omega
  refine ev_const fun k => ?_
  simp only [days_Number.l0]
  rw [if_neg (by omega)]
  simp
 | succ d ih =>
  intro i0 x he h0 h1
  have hl : lastD (1900 + (j : Int)) ((i0 : Int) + 1) = Cal.len (12 * j + i0) := (lenE j i0 (by omega)).symm
  have hb := len_bd (12 * j + i0)
  have hB : B (12 * j + (i0 + 1)) = B (12 * j + i0) + Cal.len (12 * j + i0) := rfl
  have := ih (i0 + 1) (x + Cal.len (12 * j + i0)) (by omega) (by omega) (by omega)
  refine Ev.step (f := fun k => (days_Last.f k (1900 + (j : Int)) ((i0 : Int) + 1)).bind fun t => days_Number.l0 k (1900 + (j : Int)) ((i : Int) + 1) (wrap64 (x + t)) (wrap64 ((i0 : Int) + 1 + 1))) (fun k => ?_) ?_
  ·simp only [days_Number.l0]
   rw [if_pos (by omega)]
  ·refine Ev.bind (last_pE _ _) ?_
   rw [hl, wr (x := x + _) (by omega) (by omega), wr (x := (i0 : Int) + 1 + 1) (by omega) (by omega)]
   rw [show (i0 : Int) + 1 + 1 = ((i0 + 1 : Nat) : Int) + 1 by omega]
   rw [show x + (B (12 * j + i) - B (12 * j + i0)) = x + Cal.len (12 * j + i0) + (B (12 * j + i) - B (12 * j + (i0 + 1))) by omega]
   exact this
def numS (y m d : Int) : Int × Int :=
 if d < 1 ∨ lastD y m < d then (0, 20) else if y < 1900 ∨ 2199 < y then (0, 21) else (B (12 * (y - 1900).toNat + (m - 1).toNat) + d - 1, 0)
theorem month_of {y m d : Int} (h1 : 1 ≤ d) (h2 : d ≤ lastD y m) : 1 ≤ m ∧ m ≤ 12 := by
 unfold lastD at h2
 split at h2 <;> omega
theorem number_p (y m d : Int) : Ev (fun k => days_Number.f k y m d) (numS y m d) := by
 unfold numS
 by_cases h1 : d < 1
 ·rw [if_pos (Or.inl h1)]
  refine ev_const fun k => ?_
  unfold days_Number.f
  rw [if_pos h1]
  simp only [days_Number.j0, if_true]
 ·have hb := lastD_le y m
  refine Ev.congr (f := fun k => (days_Last.f k y m).bind fun t => days_Number.j0 k y m d (decide (d > t))) (fun k => by unfold days_Number.f; rw [if_neg h1]) ?_
  refine Ev.bind (last_pE _ _) ?_
  by_cases h2 : lastD y m < d
  ·rw [if_pos (Or.inr h2), decide_eq_true (show d > lastD y m from h2)]
   exact ev_const fun k => by simp only [days_Number.j0, if_true]
  ·rw [if_neg (by omega), decide_eq_false (show ¬ d > lastD y m from h2)]
   obtain ⟨m1, m2⟩ := month_of (show 1 ≤ d by omega) (show d ≤ lastD y m by omega)
   by_cases h3 : y < 1900
   ·rw [if_pos (Or.inl h3)]
    refine Ev.step (f := fun k => days_Number.j1 k y m d true) (fun k => by simp only [days_Number.j0]; rw [if_neg (by simp), if_pos h3]) ?_
    exact ev_const fun k => by simp only [days_Number.j1, if_true]
   ·refine Ev.step (f := fun k => days_Number.j1 k y m d (decide (y > 2199))) (fun k => by simp only [days_Number.j0]; rw [if_neg (by simp), if_neg h3]) ?_
    by_cases h4 : 2199 < y
    ·rw [if_pos (Or.inr h4), decide_eq_true (show y > 2199 from h4)]
     exact ev_const fun k => by simp only [days_Number.j1, if_true]
    ·rw [if_neg (by omega), decide_eq_false (show ¬ y > 2199 from h4)]
     obtain ⟨j, hj, rfl⟩ : ∃ j : Nat, j < 300 ∧ y = 1900 + (j : Int) := ⟨(y - 1900).toNat, by omega, by omega⟩
     obtain ⟨i, hi, rfl⟩ : ∃ i : Nat, i < 12 ∧ m = (i : Int) + 1 := ⟨(m - 1).toNat, by omega, by omega⟩
     have hD := D_bd (show j ≤ 300 by omega)
     have hB := B12 j
     refine Ev.step (f := fun k => days_Number.l0 k (1900 + (j : Int)) ((i : Int) + 1) (D (1900 + (j : Int)) + d - 1) 1) (fun k => ?_) ?_
     ·simp only [days_Number.j1]
      rw [if_neg (by simp), ahead_p (by omega) (by omega)]
      simp only [Option.bind_some]
      rw [wr (x := D _ + d) (by omega) (by omega), wr (x := D _ + d - 1) (by omega) (by omega)]
     ·have := number_loop j hi hj i 0 (D (1900 + (j : Int)) + d - 1) (by omega) (by omega) (by omega)
      rw [show (1900 + (j : Int) - 1900).toNat = j by omega, show ((i : Int) + 1 - 1).toNat = i by omega]
      rw [show B (12 * j + i) + d - 1 = D (1900 + (j : Int)) + d - 1 + (B (12 * j + i) - B (12 * j + 0)) by rw [Nat.add_zero]; omega]
      exact this
theorem begins_months (j : Nat) {i : Nat} (hi : i ≤ 12) (hj : j ≤ 300) (d : Nat) : ∀ (i0 : Nat) (x : Int), i = i0 + d → 0 ≤ x → x ≤ 1000000 + 31 * (i0 : Int) →
  Ev (fun k => levyref2_begins.l1 k (12 * (j : Int) + i) x j (12 * (j : Int) + i0)) (x + (B (12 * j + i) - B (12 * j + i0))) := by
 induction d with
 | zero =>
  intro i0 x he h0 h1
  obtain rfl : i = i0 := by omega
  refine ev_const fun k => ?_
  simp only [levyref2_begins.l1]
  rw [if_neg (by omega)]
  simp
 | succ d ih =>
  intro i0 x he h0 h1
  have hl : lastD (1900 + (j : Int)) ((i0 : Int) + 1) = Cal.len (12 * j + i0) := (lenE j i0 (by omega)).symm
  have hb := len_bd (12 * j + i0)
  have hB : B (12 * j + (i0 + 1)) = B (12 * j + i0) + Cal.len (12 * j + i0) := rfl
  have := ih (i0 + 1) (x + Cal.len (12 * j + i0)) (by omega) (by omega) (by omega)
  refine Ev.step (f := fun k => (levyref2_Last.f k (1900 + (j : Int)) ((i0 : Int) + 1)).bind fun t => levyref2_begins.l1 k (12 * (j : Int) + i) (wrap64 (x + t)) j (wrap64 (12 * (j : Int) + i0 + 1))) (fun k => ?_) ?_
  ·simp only [levyref2_begins.l1]
   rw [if_pos (by omega), wr (x := 1900 + (j : Int)) (by omega) (by omega), Int.tmod_eq_emod_of_nonneg (by omega), show (12 * (j : Int) + (i0 : Int)) % 12 = i0 by omega, wr (x := (i0 : Int) + 1) (by omega) (by omega)]
  ·refine Ev.bind (last_rE _ _) ?_
   rw [hl, wr (x := x + _) (by omega) (by omega), wr (x := 12 * (j : Int) + i0 + 1) (by omega) (by omega)]
   rw [show 12 * (j : Int) + i0 + 1 = 12 * (j : Int) + ((i0 + 1 : Nat) : Int) by omega]
   rw [show x + (B (12 * j + i) - B (12 * j + i0)) = x + Cal.len (12 * j + i0) + (B (12 * j + i) - B (12 * j + (i0 + 1))) by omega]
   exact this
theorem begins_years (j : Nat) {i : Nat} (hi : i < 12) (hj : j ≤ 300) (d : Nat) : ∀ (j0 : Nat), j = j0 + d →
  Ev (fun k => levyref2_begins.l0 k (12 * (j : Int) + i) (D (1900 + (j0 : Int))) j0) (B (12 * j + i)) := by
 induction d with
 | zero =>
  intro j0 he
  obtain rfl : j = j0 := by omega
  have hD := D_bd hj
  have := begins_months j (show i ≤ 12 by omega) hj i 0 (D (1900 + (j : Int))) (by omega) (by omega) (by omega)
  rw [show D (1900 + (j : Int)) + (B (12 * j + i) - B (12 * j + 0)) = B (12 * j + i) by rw [Nat.add_zero, B12]; omega] at this
  refine Ev.step (fun k => ?_) this
  simp only [levyref2_begins.l0]
  rw [Int.tdiv_eq_ediv_of_nonneg (by omega), show (12 * (j : Int) + (i : Int)) / 12 = j by omega, wr (x := (j : Int)) (by omega) (by omega), if_neg (by omega), wr (x := 12 * (j : Int)) (by omega) (by omega)]
  simp
 | succ d ih =>
  intro j0 he
  have := ih (j0 + 1) (by omega)
  have hD := D_bd (show j0 ≤ 300 by omega)
  have hs := D_succ (y := 1900 + (j0 : Int)) (by omega)
  rw [show (1900 : Int) + ((j0 + 1 : Nat) : Int) = 1900 + (j0 : Int) + 1 by omega, hs] at this
  refine Ev.step (fun k => ?_) this
  simp only [levyref2_begins.l0]
  rw [Int.tdiv_eq_ediv_of_nonneg (by omega), show (12 * (j : Int) + (i : Int)) / 12 = j by omega, wr (x := (j : Int)) (by omega) (by omega), if_pos (by omega), wr (x := 1900 + (j0 : Int)) (by omega) (by omega), leap_r]
  simp only [Option.bind_some]
  rw [wr (x := D _ + 365) (by omega) (by omega), wr (x := (j0 : Int) + 1) (by omega) (by omega)]
  unfold lp
  by_cases hl : leapB (1900 + (j0 : Int)) = true
  ·rw [if_pos hl, if_pos hl, wr (by omega) (by omega)]
   rfl
  ·rw [if_neg hl, if_neg hl]
   simp
theorem begins_r {n : Nat} (h : n ≤ 3600) : Ev (fun k => levyref2_begins.f k (n : Int)) (B n) := by
 have := begins_years (n / 12) (i := n % 12) (by omega) (by omega) (n / 12) 0 (by omega)
 rw [show 12 * (n / 12) + n % 12 = n by omega, show (12 : Int) * ((n / 12 : Nat) : Int) + ((n % 12 : Nat) : Int) = (n : Int) by omega] at this
 exact this
theorem number_r (y m d : Int) : Ev (fun k => levyref2_Number.f k y m d) (numS y m d) := by
 unfold numS
 have hb := lastD_le y m
 refine Ev.congr (f := fun k => (levyref2_Last.f k y m).bind fun t => if d < 1 then levyref2_Number.j0 k y m d true else levyref2_Number.j0 k y m d (decide (d > t))) (fun k => rfl) ?_
 refine Ev.bind (last_rE _ _) ?_
 by_cases h1 : d < 1
 ·rw [if_pos (Or.inl h1)]
  exact ev_const fun k => by rw [if_pos h1]; simp only [levyref2_Number.j0, if_true]
 ·by_cases h2 : lastD y m < d
  ·rw [if_pos (Or.inr h2)]
   exact ev_const fun k => by rw [if_neg h1, decide_eq_true (show d > lastD y m from h2)]; simp only [levyref2_Number.j0, if_true]
  ·rw [if_neg (by omega)]
   obtain ⟨m1, m2⟩ := month_of (show 1 ≤ d by omega) (show d ≤ lastD y m by omega)
   by_cases h3 : y < 1900
   ·rw [if_pos (Or.inl h3)]
    exact ev_const fun k => by rw [if_neg h1, decide_eq_false (show ¬ d > lastD y m from h2)]; simp only [levyref2_Number.j0]; rw [if_neg (by simp), if_pos h3]
   ·by_cases h4 : 2199 < y
    ·rw [if_pos (Or.inr h4)]
     exact ev_const fun k => by rw [if_neg h1, decide_eq_false (show ¬ d > lastD y m from h2)]; simp only [levyref2_Number.j0]; rw [if_neg (by simp), if_neg h3, if_pos h4]
    ·rw [if_neg (by omega)]
     have hB := B_nonneg (12 * (y - 1900).toNat + (m - 1).toNat)
     have hT := B_top (k := 12 * (y - 1900).toNat + (m - 1).toNat) (by omega)
     refine Ev.step (f := fun k => (levyref2_begins.f k ((12 * (y - 1900).toNat + (m - 1).toNat : Nat) : Int)).bind fun t => some (wrap64 (wrap64 (t + d) - 1), 0)) (fun k => ?_) ?_
     ·rw [if_neg h1, decide_eq_false (show ¬ d > lastD y m from h2)]
      simp only [levyref2_Number.j0]
      rw [if_neg (by simp), if_neg h3, if_neg (show ¬ y > 2199 from h4)]
      rw [wr (x := y - 1900) (by omega) (by omega), wr (x := 12 * (y - 1900)) (by omega) (by omega), wr (x := 12 * (y - 1900) + m) (by omega) (by omega), wr (x := 12 * (y - 1900) + m - 1) (by omega) (by omega)]
      rw [show ((12 * (y - 1900).toNat + (m - 1).toNat : Nat) : Int) = 12 * (y - 1900) + m - 1 by omega]
     ·refine Ev.bind (begins_r (by omega)) ?_
      rw [wr (x := B _ + d) (by omega) (by omega), wr (by omega) (by omega)]
      exact Ev.now _
end Go.Proofs.YtjlclkenfmbahaaGreatDoor.Days
