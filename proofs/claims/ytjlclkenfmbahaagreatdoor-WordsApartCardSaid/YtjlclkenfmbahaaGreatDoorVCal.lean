/- Plain arithmetic of the calendar, with no program in sight: month lengths, the day on which each of the 3600 months begins, the month of a day. No condition but those that each law states. -/
namespace Go.Proofs.YtjlclkenfmbahaaGreatDoor.Cal
def leapB (y : Int) : Bool := if Int.tmod y 4 = 0 then (if Int.tmod y 100 = 0 then (Int.tmod y 400 == 0) else true) else false
def lastD (y m : Int) : Int :=
 if m < 1 ∨ 12 < m then 0 else if m = 2 then (if leapB y = true then 29 else 28)
 else if m = 4 ∨ m = 6 ∨ m = 9 ∨ m = 11 then 30 else 31
def len (k : Nat) : Int := lastD (1900 + (k / 12 : Nat)) ((k % 12 : Nat) + 1)
def B : Nat → Int
 | 0 => 0
 | k + 1 => B k + len k
def D (y : Int) : Int := 365 * (y - 1900) + ((y - 1) / 4 - (y - 1) / 100 + (y - 1) / 400 - 460)
def lp (y : Int) : Int := if leapB y = true then 1 else 0
theorem leap_iff {y : Int} (h : 0 ≤ y) : leapB y = true ↔ (y % 4 = 0 ∧ (y % 100 ≠ 0 ∨ y % 400 = 0)) := by
 unfold leapB
 rw [Int.tmod_eq_emod_of_nonneg h, Int.tmod_eq_emod_of_nonneg h, Int.tmod_eq_emod_of_nonneg h]
 by_cases h4 : y % 4 = 0
 ·by_cases h1 : y % 100 = 0
  ·by_cases h40 : y % 400 = 0 <;> simp [h4, h1, h40]
  ·simp [h4, h1]
 ·simp [h4]
theorem D_succ {y : Int} (h : 1 ≤ y) : D (y + 1) = D y + 365 + lp y := by
 unfold D lp
 by_cases hl : leapB y = true
 ·rw [if_pos hl]
  have := (leap_iff (by omega)).1 hl
  omega
 ·rw [if_neg hl]
  have hn : ¬ (y % 4 = 0 ∧ (y % 100 ≠ 0 ∨ y % 400 = 0)) := fun e => hl ((leap_iff (by omega)).2 e)
  omega
theorem lastD_le (y m : Int) : 0 ≤ lastD y m ∧ lastD y m ≤ 31 := by
 unfold lastD
 split
 ·omega
 ·split
  ·split <;> omega
  ·split <;> omega
theorem lastD_ge (y : Int) {m : Int} (h1 : 1 ≤ m) (h2 : m ≤ 12) : 28 ≤ lastD y m := by
 unfold lastD
 rw [if_neg (by omega)]
 split
 ·split <;> omega
 ·split <;> omega
theorem len_bd (k : Nat) : 28 ≤ len k ∧ len k ≤ 31 := ⟨lastD_ge _ (by omega) (by omega), (lastD_le _ _).2⟩
theorem lenE (j i : Nat) (hi : i < 12) : len (12 * j + i) = lastD (1900 + j) (i + 1) := by
 unfold len
 have h1 : (12 * j + i) / 12 = j := by omega
 have h2 : (12 * j + i) % 12 = i := by omega
 rw [h1, h2]
theorem year_sum (y : Int) : lastD y (0 + 1) + lastD y (1 + 1) + lastD y (2 + 1) + lastD y (3 + 1) + lastD y (4 + 1) + lastD y (5 + 1) + lastD y (6 + 1) + lastD y (7 + 1) + lastD y (8 + 1) + lastD y (9 + 1) + lastD y (10 + 1) + lastD y (11 + 1) = 365 + lp y := by
 unfold lastD lp
 by_cases h : leapB y = true <;> simp [h]
theorem B12 (j : Nat) : B (12 * j) = D (1900 + j) := by
 induction j with
 | zero => decide
 | succ j ih =>
  have e : 12 * (j + 1) = 12 * j + 0 + 1 + 1 + 1 + 1 + 1 + 1 + 1 + 1 + 1 + 1 + 1 + 1 := by omega
  have hs := year_sum (1900 + (j : Int))
  have hd := D_succ (y := 1900 + (j : Int)) (by omega)
  rw [e]
  simp only [B]
  rw [show 12 * j + 0 + 1 = 12 * j + 1 from rfl, show 12 * j + 1 + 1 = 12 * j + 2 from rfl, show 12 * j + 2 + 1 = 12 * j + 3 from rfl, show 12 * j + 3 + 1 = 12 * j + 4 from rfl, show 12 * j + 4 + 1 = 12 * j + 5 from rfl, show 12 * j + 5 + 1 = 12 * j + 6 from rfl, show 12 * j + 6 + 1 = 12 * j + 7 from rfl, show 12 * j + 7 + 1 = 12 * j + 8 from rfl, show 12 * j + 8 + 1 = 12 * j + 9 from rfl, show 12 * j + 9 + 1 = 12 * j + 10 from rfl, show 12 * j + 10 + 1 = 12 * j + 11 from rfl]
  have e0 : len (12 * j + 0) = lastD (1900 + j) (0 + 1) := lenE j 0 (by omega)
  have e1 : len (12 * j + 1) = lastD (1900 + j) (1 + 1) := lenE j 1 (by omega)
  have e2 : len (12 * j + 2) = lastD (1900 + j) (2 + 1) := lenE j 2 (by omega)
  have e3 : len (12 * j + 3) = lastD (1900 + j) (3 + 1) := lenE j 3 (by omega)
  have e4 : len (12 * j + 4) = lastD (1900 + j) (4 + 1) := lenE j 4 (by omega)
  have e5 : len (12 * j + 5) = lastD (1900 + j) (5 + 1) := lenE j 5 (by omega)
  have e6 : len (12 * j + 6) = lastD (1900 + j) (6 + 1) := lenE j 6 (by omega)
  have e7 : len (12 * j + 7) = lastD (1900 + j) (7 + 1) := lenE j 7 (by omega)
  have e8 : len (12 * j + 8) = lastD (1900 + j) (8 + 1) := lenE j 8 (by omega)
  have e9 : len (12 * j + 9) = lastD (1900 + j) (9 + 1) := lenE j 9 (by omega)
  have e10 : len (12 * j + 10) = lastD (1900 + j) (10 + 1) := lenE j 10 (by omega)
  have e11 : len (12 * j + 11) = lastD (1900 + j) (11 + 1) := lenE j 11 (by omega)
  have e0' : len (12 * j) = lastD (1900 + j) (0 + 1) := e0
  rw [e0', e1, e2, e3, e4, e5, e6, e7, e8, e9, e10, e11, ih]
  have hc : (1900 + ((j + 1 : Nat) : Int)) = 1900 + (j : Int) + 1 := by omega
  rw [hc, hd]
  omega
theorem B_add (a d : Nat) : B a + 28 * d ≤ B (a + d) := by
 induction d with
 | zero => simp
 | succ d ih =>
  have := len_bd (a + d)
  show B a + 28 * ((d + 1 : Nat) : Int) ≤ B (a + d) + len (a + d)
  omega
theorem B_mono {a b : Nat} (h : a ≤ b) : B a ≤ B b := by
 have := B_add a (b - a)
 rw [show a + (b - a) = b by omega] at this
 omega
theorem B_nonneg (a : Nat) : 0 ≤ B a := B_mono (Nat.zero_le a)
theorem B3600 : B 3600 = 109573 := by
 have := B12 300
 rw [show 12 * 300 = 3600 from rfl] at this
 rw [this]; decide
theorem B_top {k : Nat} (h : k ≤ 3600) : B k ≤ 109573 := B3600 ▸ B_mono h
def Mon (n : Int) (k : Nat) : Prop := k < 3600 ∧ B k ≤ n ∧ n < B (k + 1)
theorem D_bd {a : Nat} (h : a ≤ 300) : 0 ≤ D (1900 + a) ∧ D (1900 + a) ≤ 109573 := by
 rw [← B12]; exact ⟨B_nonneg _, B_top (by omega)⟩
end Go.Proofs.YtjlclkenfmbahaaGreatDoor.Cal
