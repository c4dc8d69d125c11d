/- Several texts of this claim in one, each in a section of its own; what nothing reaches is left out. Conditions: each law's own. -/
import Derived.Test.YtjlclkenfmbahaaGreatDoorMPAx0
import Derived.Test.YtjlclkenfmbahaaGreatDoorML
import Derived.BigRegion
import Derived.RegionTactic
import Derived.ChangeAlike
import Derived.RangeFuncNested
import Derived.RangeFuncBound
import Derived.RangeFuncCalls
import Derived.RangeFuncLeaves
import Derived.Shelf.Abstract
import Derived.Shelf.RegionOpen
import Derived.WalkKit
import Derived.OwnWalkIn
import Derived.TacticsInMore
import Derived.LoopNIn
import Derived.LoopIn
import Derived.Lib.ItoaNum
import Derived.Lib.TrimByte
import Derived.Laws.BytesArg
import Derived.Test.YtjlclkenfmbahaaGreatDoorProg
import Derived.Ground.NamesProg
import Derived.Shelf.Strconv.Itoa4
import Derived.Shelf.Strings.Trim
import Derived.Shelf.Strings.Builder1
import Derived.Shelf.Strings.BuilderF
import Derived.Shelf.Strings.BuilderK
import Derived.Deep.QuietTactic
import Derived.BigQuiet
import Derived.Laws.RangeString
import Derived.WalkSpells
import Derived.Lib.Hide
import Derived.Deep.RegionWith
import Derived.Deep.DeepCutAuto
import Derived.Maps.AppendAt
set_option linter.unusedVariables false
set_option linter.unusedSimpArgs false
set_option linter.unusedSectionVars false
section
namespace Go.Proofs.YtjlclkenfmbahaaGreatDoor.Cal
def leapB (y : Int) : Bool := if Int.tmod y 4 = 0 then (if Int.tmod y 100 = 0 then (Int.tmod y 400 == 0) else true) else false
def lastD (y m : Int) : Int :=
 if m < 1 ∨ 12 < m then 0 else if m = 2 then (if leapB y = true then 29 else 28)
 else if m = 4 ∨ m = 6 ∨ m = 9 ∨ m = 11 then 30 else 31
def len (k : Nat) : Int := lastD (1900 + (k / 12 : Nat)) ((k % 12 : Nat) + 1)
def B : Nat → Int
 | 0 => 0
 | k + 1 => B k + len k
def D (y : Int) : Int := 365 * (y - 1900) + ((y - 1) / 4 - (y - 1) / 100 + (y - 1) / 400 - 460)
def lp (y : Int) : Int := if leapB y = true then 1 else 0
theorem leap_iff {y : Int} (h : 0 ≤ y) : leapB y = true ↔ (y % 4 = 0 ∧ (y % 100 ≠ 0 ∨ y % 400 = 0)) := by
 unfold leapB
 rw [Int.tmod_eq_emod_of_nonneg h, Int.tmod_eq_emod_of_nonneg h, Int.tmod_eq_emod_of_nonneg h]
 by_cases h4 : y % 4 = 0
 ·by_cases h1 : y % 100 = 0
  ·by_cases h40 : y % 400 = 0 <;> simp [h4, h1, h40]
  ·simp [h4, h1]
 ·simp [h4]
theorem D_succ {y : Int} (h : 1 ≤ y) : D (y + 1) = D y + 365 + lp y := by
 unfold D lp
 by_cases hl : leapB y = true
 ·rw [if_pos hl]
  have := (leap_iff (by omega)).1 hl
  omega
 ·rw [if_neg hl]
  have hn : ¬ (y % 4 = 0 ∧ (y % 100 ≠ 0 ∨ y % 400 = 0)) := fun e => hl ((leap_iff (by omega)).2 e)
  omega
theorem D_guess {q : Int} (h : 0 ≤ q) : D (1900 + q) ≤ 366 * q := by unfold D; omega
theorem lastD_le (y m : Int) : 0 ≤ lastD y m ∧ lastD y m ≤ 31 := by
 unfold lastD
 split
 ·omega
 ·split
  ·split <;> omega
  ·split <;> omega
theorem lastD_ge (y : Int) {m : Int} (h1 : 1 ≤ m) (h2 : m ≤ 12) : 28 ≤ lastD y m := by
 unfold lastD
 rw [if_neg (by omega)]
 split
 ·split <;> omega
 ·split <;> omega
theorem len_bd (k : Nat) : 28 ≤ len k ∧ len k ≤ 31 := ⟨lastD_ge _ (by omega) (by omega), (lastD_le _ _).2⟩
theorem lenE (j i : Nat) (hi : i < 12) : len (12 * j + i) = lastD (1900 + j) (i + 1) := by
 unfold len
 have h1 : (12 * j + i) / 12 = j := by omega
 have h2 : (12 * j + i) % 12 = i := by omega
 rw [h1, h2]
theorem year_sum (y : Int) : lastD y (0 + 1) + lastD y (1 + 1) + lastD y (2 + 1) + lastD y (3 + 1) + lastD y (4 + 1) + lastD y (5 + 1) + lastD y (6 + 1) + lastD y (7 + 1) + lastD y (8 + 1) + lastD y (9 + 1) + lastD y (10 + 1) + lastD y (11 + 1) = 365 + lp y := by
 unfold lastD lp
 by_cases h : leapB y = true <;> simp [h]
theorem B12 (j : Nat) : B (12 * j) = D (1900 + j) := by
 induction j with
 | zero => decide
 | succ j ih =>
  have e : 12 * (j + 1) = 12 * j + 0 + 1 + 1 + 1 + 1 + 1 + 1 + 1 + 1 + 1 + 1 + 1 + 1 := by omega
  have hs := year_sum (1900 + (j : Int))
  have hd := D_succ (y := 1900 + (j : Int)) (by omega)
  rw [e]
  simp only [B]
  rw [show 12 * j + 0 + 1 = 12 * j + 1 from rfl, show 12 * j + 1 + 1 = 12 * j + 2 from rfl, show 12 * j + 2 + 1 = 12 * j + 3 from rfl, show 12 * j + 3 + 1 = 12 * j + 4 from rfl, show 12 * j + 4 + 1 = 12 * j + 5 from rfl, show 12 * j + 5 + 1 = 12 * j + 6 from rfl, show 12 * j + 6 + 1 = 12 * j + 7 from rfl, show 12 * j + 7 + 1 = 12 * j + 8 from rfl, show 12 * j + 8 + 1 = 12 * j + 9 from rfl, show 12 * j + 9 + 1 = 12 * j + 10 from rfl, show 12 * j + 10 + 1 = 12 * j + 11 from rfl]
  have e0 : len (12 * j + 0) = lastD (1900 + j) (0 + 1) := lenE j 0 (by omega)
  have e1 : len (12 * j + 1) = lastD (1900 + j) (1 + 1) := lenE j 1 (by omega)
  have e2 : len (12 * j + 2) = lastD (1900 + j) (2 + 1) := lenE j 2 (by omega)
  have e3 : len (12 * j + 3) = lastD (1900 + j) (3 + 1) := lenE j 3 (by omega)
  have e4 : len (12 * j + 4) = lastD (1900 + j) (4 + 1) := lenE j 4 (by omega)
  have e5 : len (12 * j + 5) = lastD (1900 + j) (5 + 1) := lenE j 5 (by omega)
  have e6 : len (12 * j + 6) = lastD (1900 + j) (6 + 1) := lenE j 6 (by omega)
  have e7 : len (12 * j + 7) = lastD (1900 + j) (7 + 1) := lenE j 7 (by omega)
  have e8 : len (12 * j + 8) = lastD (1900 + j) (8 + 1) := lenE j 8 (by omega)
  have e9 : len (12 * j + 9) = lastD (1900 + j) (9 + 1) := lenE j 9 (by omega)
  have e10 : len (12 * j + 10) = lastD (1900 + j) (10 + 1) := lenE j 10 (by omega)
  have e11 : len (12 * j + 11) = lastD (1900 + j) (11 + 1) := lenE j 11 (by omega)
  have e0' : len (12 * j) = lastD (1900 + j) (0 + 1) := e0
  rw [e0', e1, e2, e3, e4, e5, e6, e7, e8, e9, e10, e11, ih]
  have hc : (1900 + ((j + 1 : Nat) : Int)) = 1900 + (j : Int) + 1 := by omega
  rw [hc, hd]
  omega
theorem B_add (a d : Nat) : B a + 28 * d ≤ B (a + d) := by
 induction d with
 | zero => simp
 | succ d ih =>
  have := len_bd (a + d)
  show B a + 28 * ((d + 1 : Nat) : Int) ≤ B (a + d) + len (a + d)
  omega
theorem B_mono {a b : Nat} (h : a ≤ b) : B a ≤ B b := by
 have := B_add a (b - a)
 rw [show a + (b - a) = b by omega] at this
 omega
theorem B_nonneg (a : Nat) : 0 ≤ B a := B_mono (Nat.zero_le a)
theorem B3600 : B 3600 = 109573 := by
 have := B12 300
 rw [show 12 * 300 = 3600 from rfl] at this
 rw [this]; decide
theorem B_top {k : Nat} (h : k ≤ 3600) : B k ≤ 109573 := B3600 ▸ B_mono h
theorem exists_mon (K : Nat) {n : Int} (h0 : 0 ≤ n) (h1 : n < B K) : ∃ k, k < K ∧ B k ≤ n ∧ n < B (k + 1) := by
 induction K with
 | zero => exact absurd h1 (by show ¬ n < 0; omega)
 | succ K ih =>
  by_cases h : n < B K
  ·obtain ⟨k, a, b, c⟩ := ih h
   exact ⟨k, by omega, b, c⟩
  ·exact ⟨K, by omega, by omega, h1⟩
def Mon (n : Int) (k : Nat) : Prop := k < 3600 ∧ B k ≤ n ∧ n < B (k + 1)
theorem mon_exists {n : Int} (h0 : 0 ≤ n) (h1 : n ≤ 109572) : ∃ k, Mon n k := by
 obtain ⟨k, a, b, c⟩ := exists_mon 3600 h0 (by rw [B3600]; omega)
 exact ⟨k, a, b, c⟩
theorem Mon.day {n : Int} {k : Nat} (h : Mon n k) : 0 ≤ n ∧ n ≤ 109572 := by
 obtain ⟨a, b, c⟩ := h
 have h1 := B_nonneg k
 have h2 := B_top (k := k + 1) (by omega)
 omega
theorem mon_le {n n' : Int} {k k' : Nat} (h : Mon n k) (h' : Mon n' k') (hn : n ≤ n') : k ≤ k' := by
 refine Classical.byContradiction fun hk => ?_
 have := B_mono (show k' + 1 ≤ k by omega)
 obtain ⟨_, a, b⟩ := h
 obtain ⟨_, a', b'⟩ := h'
 omega
theorem mon_unique {n : Int} {k k' : Nat} (h : Mon n k) (h' : Mon n k') : k = k' :=
 Nat.le_antisymm (mon_le h h' (Int.le_refl _)) (mon_le h' h (Int.le_refl _))
theorem Mon.len {n : Int} {k : Nat} (h : Mon n k) : n - B k < len k := by
 obtain ⟨_, a, b⟩ := h
 have : B (k + 1) = B k + Cal.len k := rfl
 omega
theorem D_mono {a b : Nat} (h : a ≤ b) : D (1900 + a) ≤ D (1900 + b) := by
 rw [← B12, ← B12]; exact B_mono (by omega)
theorem D_bd {a : Nat} (h : a ≤ 300) : 0 ≤ D (1900 + a) ∧ D (1900 + a) ≤ 109573 := by
 rw [← B12]; exact ⟨B_nonneg _, B_top (by omega)⟩
end Go.Proofs.YtjlclkenfmbahaaGreatDoor.Cal
end
section
namespace Go.Proofs.YtjlclkenfmbahaaGreatDoor.Days
open Go.RowKit Go.Proofs.YtjlclkenfmbahaaGreatDoorW.PrintWords Go.Proofs.YtjlclkenfmbahaaGreatDoorW.PrintLast Go.Proofs.YtjlclkenfmbahaaGreatDoor.PA Go.Proofs.YtjlclkenfmbahaaGreatDoor.Cal
theorem wr {x : Int} (h1 : -9223372036854775808 ≤ x) (h2 : x ≤ 9223372036854775807) : wrap64 x = x := by unfold wrap64; omega
theorem ev_const {α : Type} {g : Nat → Option α} {r : α} (h : ∀ k, g (k + 1) = some r) : Ev g r := ⟨1, fun k hk => by obtain ⟨m, rfl⟩ : ∃ m, k = m + 1 := ⟨k - 1, by omega⟩; exact h m⟩
theorem leap_p (y : Int) : days_Leap.f y = some (leapB y) := by
 unfold days_Leap.f leapB
 split
 ·split <;> rfl
 ·rfl
theorem leap_r (y : Int) : levyref2_Leap.f y = some (leapB y) := leap_p y
theorem twelve {m : Int} (h1 : ¬ m < 1) (h2 : ¬ 12 < m) : m = 1 ∨ m = 2 ∨ m = 3 ∨ m = 4 ∨ m = 5 ∨ m = 6 ∨ m = 7 ∨ m = 8 ∨ m = 9 ∨ m = 10 ∨ m = 11 ∨ m = 12 := by omega
theorem last_p (k : Nat) (y m : Int) : days_Last.f (k + 1) y m = some (lastD y m) := by
 unfold days_Last.f
 by_cases h1 : m < 1
 ·rw [if_pos h1]; simp only [days_Last.j0, if_true]; unfold lastD; rw [if_pos (Or.inl h1)]
 ·rw [if_neg h1]
  by_cases h2 : 12 < m
  ·rw [decide_eq_true (show m > 12 from h2)]; simp only [days_Last.j0, if_true]; unfold lastD; rw [if_pos (Or.inr h2)]
  ·rw [decide_eq_false (show ¬ m > 12 from h2)]
   simp only [days_Last.j0, leap_p, Option.bind_some]
   rcases twelve h1 h2 with rfl | rfl | rfl | rfl | rfl | rfl | rfl | rfl | rfl | rfl | rfl | rfl <;> cases hl : leapB y <;> simp [lastD, hl, wrap64, rd, tab3]
theorem last_r (k : Nat) (y m : Int) : levyref2_Last.f (k + 1) y m = some (lastD y m) := by
 unfold levyref2_Last.f
 by_cases h1 : m < 1
 ·have e : ∀ n : Int, 1 ≤ n → ¬ m = n := fun n hn => by omega
  rw [if_neg (e 4 (by omega)), if_neg (e 6 (by omega)), if_neg (e 9 (by omega)), beq_eq_false_iff_ne.2 (e 11 (by omega))]
  simp only [levyref2_Last.j0]
  rw [if_neg (by simp), if_neg (e 2 (by omega)), if_neg (e 1 (by omega)), if_neg (e 3 (by omega)), if_neg (e 5 (by omega)), if_neg (e 7 (by omega)), if_neg (e 8 (by omega)), if_neg (e 10 (by omega)), if_neg (e 12 (by omega))]
  unfold lastD; rw [if_pos (Or.inl h1)]
 ·by_cases h2 : 12 < m
  ·have e : ∀ n : Int, n ≤ 12 → ¬ m = n := fun n hn => by omega
   rw [if_neg (e 4 (by omega)), if_neg (e 6 (by omega)), if_neg (e 9 (by omega)), beq_eq_false_iff_ne.2 (e 11 (by omega))]
   simp only [levyref2_Last.j0]
   rw [if_neg (by simp), if_neg (e 2 (by omega)), if_neg (e 1 (by omega)), if_neg (e 3 (by omega)), if_neg (e 5 (by omega)), if_neg (e 7 (by omega)), if_neg (e 8 (by omega)), if_neg (e 10 (by omega)), if_neg (e 12 (by omega))]
   unfold lastD; rw [if_pos (Or.inr h2)]
  ·simp only [levyref2_Last.j0, leap_r, Option.bind_some]
   rcases twelve h1 h2 with rfl | rfl | rfl | rfl | rfl | rfl | rfl | rfl | rfl | rfl | rfl | rfl <;> cases hl : leapB y <;> simp [lastD, hl]
theorem last_pE (y m : Int) : Ev (fun k => days_Last.f k y m) (lastD y m) := ev_const fun k => last_p k y m
theorem last_rE (y m : Int) : Ev (fun k => levyref2_Last.f k y m) (lastD y m) := ev_const fun k => last_r k y m
theorem ahead_p {y : Int} (h1 : 1 ≤ y) (h2 : y ≤ 3000) : days_daysAhead.f y = some (D y) := by
 unfold days_daysAhead.f D
 rw [wr (x := y - 1) (by omega) (by omega), Int.tdiv_eq_ediv_of_nonneg (by omega), Int.tdiv_eq_ediv_of_nonneg (by omega), Int.tdiv_eq_ediv_of_nonneg (by omega)]
 simp (disch := omega) only [wr]
def numS (y m d : Int) : Int × Int :=
 if d < 1 ∨ lastD y m < d then (0, 20) else if y < 1900 ∨ 2199 < y then (0, 21) else (B (12 * (y - 1900).toNat + (m - 1).toNat) + d - 1, 0)
theorem month_of {y m d : Int} (h1 : 1 ≤ d) (h2 : d ≤ lastD y m) : 1 ≤ m ∧ m ≤ 12 := by
 unfold lastD at h2
 split at h2 <;> omega
theorem numS_ok {q : Nat} (hq : q < 3600) {d : Int} (h1 : 1 ≤ d) (h2 : d ≤ Cal.len q) : numS (1900 + ((q / 12 : Nat) : Int)) (((q % 12 : Nat) : Int) + 1) d = (B q + d - 1, 0) := by
 unfold numS
 have hl : lastD (1900 + ((q / 12 : Nat) : Int)) (((q % 12 : Nat) : Int) + 1) = Cal.len q := rfl
 rw [hl, if_neg (by omega), if_neg (by omega)]
 rw [show 12 * (1900 + ((q / 12 : Nat) : Int) - 1900).toNat + (((q % 12 : Nat) : Int) + 1 - 1).toNat = q by omega]
theorem begins_months (j : Nat) {i : Nat} (hi : i ≤ 12) (hj : j ≤ 300) (d : Nat) : ∀ (i0 : Nat) (x : Int), i = i0 + d → 0 ≤ x → x ≤ 1000000 + 31 * (i0 : Int) →
  Ev (fun k => levyref2_begins.l1 k (12 * (j : Int) + i) x j (12 * (j : Int) + i0)) (x + (B (12 * j + i) - B (12 * j + i0))) := by
 induction d with
 | zero =>
  intro i0 x he h0 h1
  obtain rfl : i = i0 := by omega
  refine ev_const fun k => ?_
  simp only [levyref2_begins.l1]
  rw [if_neg (by omega)]
  simp
 | succ d ih =>
  intro i0 x he h0 h1
  have hl : lastD (1900 + (j : Int)) ((i0 : Int) + 1) = Cal.len (12 * j + i0) := (lenE j i0 (by omega)).symm
  have hb := len_bd (12 * j + i0)
  have hB : B (12 * j + (i0 + 1)) = B (12 * j + i0) + Cal.len (12 * j + i0) := rfl
  have := ih (i0 + 1) (x + Cal.len (12 * j + i0)) (by omega) (by omega) (by omega)
  refine Ev.step (f := fun k => (levyref2_Last.f k (1900 + (j : Int)) ((i0 : Int) + 1)).bind fun t => levyref2_begins.l1 k (12 * (j : Int) + i) (wrap64 (x + t)) j (wrap64 (12 * (j : Int) + i0 + 1))) (fun k => ?_) ?_
  ·simp only [levyref2_begins.l1]
   rw [if_pos (by omega), wr (x := 1900 + (j : Int)) (by omega) (by omega), Int.tmod_eq_emod_of_nonneg (by omega), show (12 * (j : Int) + (i0 : Int)) % 12 = i0 by omega, wr (x := (i0 : Int) + 1) (by omega) (by omega)]
  ·refine Ev.bind (last_rE _ _) ?_
   rw [hl, wr (x := x + _) (by omega) (by omega), wr (x := 12 * (j : Int) + i0 + 1) (by omega) (by omega)]
   rw [show 12 * (j : Int) + i0 + 1 = 12 * (j : Int) + ((i0 + 1 : Nat) : Int) by omega]
   rw [show x + (B (12 * j + i) - B (12 * j + i0)) = x + Cal.len (12 * j + i0) + (B (12 * j + i) - B (12 * j + (i0 + 1))) by omega]
   exact this
theorem begins_years (j : Nat) {i : Nat} (hi : i < 12) (hj : j ≤ 300) (d : Nat) : ∀ (j0 : Nat), j = j0 + d →
  Ev (fun k => levyref2_begins.l0 k (12 * (j : Int) + i) (D (1900 + (j0 : Int))) j0) (B (12 * j + i)) := by
 induction d with
 | zero =>
  intro j0 he
  obtain rfl : j = j0 := by omega
  have hD := D_bd hj
  have := begins_months j (show i ≤ 12 by omega) hj i 0 (D (1900 + (j : Int))) (by omega) (by omega) (by omega)
  rw [show D (1900 + (j : Int)) + (B (12 * j + i) - B (12 * j + 0)) = B (12 * j + i) by rw [Nat.add_zero, B12]; omega] at this
  refine Ev.step (fun k => ?_) this
  simp only [levyref2_begins.l0]
  rw [Int.tdiv_eq_ediv_of_nonneg (by omega), show (12 * (j : Int) + (i : Int)) / 12 = j by omega, wr (x := (j : Int)) (by omega) (by omega), if_neg (by omega), wr (x := 12 * (j : Int)) (by omega) (by omega)]
  simp
 | succ d ih =>
  intro j0 he
  have := ih (j0 + 1) (by omega)
  have hD := D_bd (show j0 ≤ 300 by omega)
  have hs := D_succ (y := 1900 + (j0 : Int)) (by omega)
  rw [show (1900 : Int) + ((j0 + 1 : Nat) : Int) = 1900 + (j0 : Int) + 1 by omega, hs] at this
  refine Ev.step (fun k => ?_) this
  simp only [levyref2_begins.l0]
  rw [Int.tdiv_eq_ediv_of_nonneg (by omega), show (12 * (j : Int) + (i : Int)) / 12 = j by omega, wr (x := (j : Int)) (by omega) (by omega), if_pos (by omega), wr (x := 1900 + (j0 : Int)) (by omega) (by omega), leap_r]
  simp only [Option.bind_some]
  rw [wr (x := D _ + 365) (by omega) (by omega), wr (x := (j0 : Int) + 1) (by omega) (by omega)]
  unfold lp
  by_cases hl : leapB (1900 + (j0 : Int)) = true
  ·rw [if_pos hl, if_pos hl, wr (by omega) (by omega)]
   rfl
  ·rw [if_neg hl, if_neg hl]
   simp
theorem begins_r {n : Nat} (h : n ≤ 3600) : Ev (fun k => levyref2_begins.f k (n : Int)) (B n) := by
 have := begins_years (n / 12) (i := n % 12) (by omega) (by omega) (n / 12) 0 (by omega)
 rw [show 12 * (n / 12) + n % 12 = n by omega, show (12 : Int) * ((n / 12 : Nat) : Int) + ((n % 12 : Nat) : Int) = (n : Int) by omega] at this
 exact this
theorem number_r (y m d : Int) : Ev (fun k => levyref2_Number.f k y m d) (numS y m d) := by
 unfold numS
 have hb := lastD_le y m
 refine Ev.congr (f := fun k => (levyref2_Last.f k y m).bind fun t => if d < 1 then levyref2_Number.j0 k y m d true else levyref2_Number.j0 k y m d (decide (d > t))) (fun k => rfl) ?_
 refine Ev.bind (last_rE _ _) ?_
 by_cases h1 : d < 1
 ·rw [if_pos (Or.inl h1)]
  exact ev_const fun k => by rw [if_pos h1]; simp only [levyref2_Number.j0, if_true]
 ·by_cases h2 : lastD y m < d
  ·rw [if_pos (Or.inr h2)]
   exact ev_const fun k => by rw [if_neg h1, decide_eq_true (show d > lastD y m from h2)]; simp only [levyref2_Number.j0, if_true]
  ·rw [if_neg (by omega)]
   obtain ⟨m1, m2⟩ := month_of (show 1 ≤ d by omega) (show d ≤ lastD y m by omega)
   by_cases h3 : y < 1900
   ·rw [if_pos (Or.inl h3)]
    exact ev_const fun k => by rw [if_neg h1, decide_eq_false (show ¬ d > lastD y m from h2)]; simp only [levyref2_Number.j0]; rw [if_neg (by simp), if_pos h3]
   ·by_cases h4 : 2199 < y
    ·rw [if_pos (Or.inr h4)]
     exact ev_const fun k => by rw [if_neg h1, decide_eq_false (show ¬ d > lastD y m from h2)]; simp only [levyref2_Number.j0]; rw [if_neg (by simp), if_neg h3, if_pos h4]
    ·rw [if_neg (by omega)]
     have hB := B_nonneg (12 * (y - 1900).toNat + (m - 1).toNat)
     have hT := B_top (k := 12 * (y - 1900).toNat + (m - 1).toNat) (by omega)
     refine Ev.step (f := fun k => (levyref2_begins.f k ((12 * (y - 1900).toNat + (m - 1).toNat : Nat) : Int)).bind fun t => some (wrap64 (wrap64 (t + d) - 1), 0)) (fun k => ?_) ?_
     ·rw [if_neg h1, decide_eq_false (show ¬ d > lastD y m from h2)]
      simp only [levyref2_Number.j0]
      rw [if_neg (by simp), if_neg h3, if_neg (show ¬ y > 2199 from h4)]
      rw [wr (x := y - 1900) (by omega) (by omega), wr (x := 12 * (y - 1900)) (by omega) (by omega), wr (x := 12 * (y - 1900) + m) (by omega) (by omega), wr (x := 12 * (y - 1900) + m - 1) (by omega) (by omega)]
      rw [show ((12 * (y - 1900).toNat + (m - 1).toNat : Nat) : Int) = 12 * (y - 1900) + m - 1 by omega]
     ·refine Ev.bind (begins_r (by omega)) ?_
      rw [wr (x := B _ + d) (by omega) (by omega), wr (by omega) (by omega)]
      exact Ev.now _
end Go.Proofs.YtjlclkenfmbahaaGreatDoor.Days
end
section
namespace Go.Proofs.YtjlclkenfmbahaaGreatDoor.PA
open Go.RowKit Go.Proofs.YtjlclkenfmbahaaGreatDoorW.PrintWords Go.Proofs.YtjlclkenfmbahaaGreatDoorW.PrintLast Go.Proofs.YtjlclkenfmbahaaGreatDoorW.PrintMore
def isLt (b : UInt8) : Bool := decide (97 ≤ b.toNat) && decide (b.toNat ≤ 122)
def isDg (b : UInt8) : Bool := decide (48 ≤ b.toNat) && decide (b.toNat ≤ 57)
def isWd (b : UInt8) : Bool := isLt b || isDg b || b.toNat == 95
def isSg (b : UInt8) : Bool := [40, 41, 44, 58, 46, 61, 33, 60, 62, 43, 45, 42, 47].contains b.toNat
def isLu (b : UInt8) : Bool := isLt b || b.toNat == 95
def ofN (n : Nat) : Int := if n < 128 then rd tab1 (n : Int) else 0
def clsN (m : Int) (n : Nat) : Bool := Go.bits .and .u8 (ofN n) m != 0
theorem cls_7 (b : UInt8) : clsN 7 b.toNat = isWd b := by
 have h : ∀ n, n < 256 → clsN 7 n = ((decide (97 ≤ n) && decide (n ≤ 122)) || (decide (48 ≤ n) && decide (n ≤ 57)) || n == 95) := by decide +kernel
 exact h b.toNat b.toNat_lt
theorem cls_1 (b : UInt8) : clsN 1 b.toNat = isLt b := by
 have h : ∀ n, n < 256 → clsN 1 n = (decide (97 ≤ n) && decide (n ≤ 122)) := by decide +kernel
 exact h b.toNat b.toNat_lt
theorem cls_8 (b : UInt8) : clsN 8 b.toNat = isSg b := by
 have h : ∀ n, n < 256 → clsN 8 n = [40, 41, 44, 58, 46, 61, 33, 60, 62, 43, 45, 42, 47].contains n := by decide +kernel
 exact h b.toNat b.toNat_lt
abbrev Ls (s : ByteArray) : List UInt8 := s.data.toList
theorem Ls_len (s : ByteArray) : (Ls s).length = s.size := by rw [Array.length_toList]; rfl
def atP (p : UInt8 → Bool) (s : ByteArray) (i : Nat) : Bool := match (Ls s)[i]? with | some b => p b | none => false
def runP (p : UInt8 → Bool) (s : ByteArray) (i : Nat) : Nat := (((Ls s).drop i).takeWhile p).length
theorem bt_of (s : ByteArray) {i : Nat} {b : UInt8} (h : (Ls s)[i]? = some b) : bt s (i : Int) = (b.toNat : Int) ∧ i < s.size := by
 have hi : i < (Ls s).length := (List.getElem?_eq_some_iff.1 h).1
 have hs : i < s.size := by rw [Ls_len] at hi; exact hi
 refine ⟨?_, hs⟩
 unfold bt
 rw [Int.toNat_natCast, dif_pos hs]
 obtain ⟨_, hb⟩ := List.getElem?_eq_some_iff.1 h
 have : s[i]'hs = b := by rw [← hb]; simp [ByteArray.getElem_eq_getElem_data]
 rw [this]
theorem byte_some (s : ByteArray) {i : Nat} (h : i < s.size) : ∃ b, (Ls s)[i]? = some b := ⟨_, List.getElem?_eq_getElem (by rw [Ls_len]; exact h)⟩
theorem byte_none (s : ByteArray) {i : Nat} (h : ¬ i < s.size) : (Ls s)[i]? = none := List.getElem?_eq_none (by rw [Ls_len]; omega)
theorem runP_yes {p : UInt8 → Bool} {s : ByteArray} {i : Nat} (h : atP p s i = true) : runP p s i = runP p s (i + 1) + 1 ∧ i < s.size := by
 unfold atP at h
 cases hb : (Ls s)[i]? with
 | none => rw [hb] at h; cases h
 | some b =>
  rw [hb] at h
  obtain ⟨hi, e⟩ := List.getElem?_eq_some_iff.1 hb
  refine ⟨?_, (bt_of s hb).2⟩
  unfold runP
  rw [List.drop_eq_getElem_cons hi, e, List.takeWhile_cons, if_pos h, List.length_cons]
theorem runP_no {p : UInt8 → Bool} {s : ByteArray} {i : Nat} (h : atP p s i = false) : runP p s i = 0 := by
 unfold atP at h
 unfold runP
 cases hb : (Ls s)[i]? with
 | none => rw [List.drop_of_length_le (List.getElem?_eq_none_iff.1 hb)]; rfl
 | some b =>
  rw [hb] at h
  obtain ⟨hi, e⟩ := List.getElem?_eq_some_iff.1 hb
  rw [List.drop_eq_getElem_cons hi, e, List.takeWhile_cons, if_neg (by simp [h])]
  rfl
theorem runP_le (p : UInt8 → Bool) (s : ByteArray) (i : Nat) (h : i ≤ s.size) : i + runP p s i ≤ s.size := by
 have h1 : runP p s i ≤ ((Ls s).drop i).length := (List.takeWhile_prefix p).length_le
 rw [List.length_drop, Ls_len] at h1
 omega
theorem of_eval {n : Nat} (h : n < 256) : words_of.f (n : Int) = some (ofN n) := by
 unfold words_of.f ofN
 have hw : wrap64 (n : Int) = n := by unfold wrap64; omega
 rw [hw]
 by_cases h1 : n < 128
 ·rw [if_pos (by omega), if_pos (by omega), if_pos (by omega), if_pos h1]
 ·rw [if_neg (by omega), if_neg h1]
def nameR (s : ByteArray) (p : Nat) (e3 e4 : Int) : S57 × Bool × Nat × Int × Int :=
 if runP isWd s p ≤ 12 then (⟨1, p, s.extract p (p + runP isWd s p), 0, 0⟩, true, p + runP isWd s p, e3, e4)
 else (⟨0, 0, ⟨#[]⟩, 0, 0⟩, false, p + runP isWd s p, 40, p)
structure St (w0 w W : World) (g : Nat) (s : ByteArray) (x : Int) (l : Bool) (e3 e4 : Int) : Prop where
 i : IsS88 w0 W g s x l e3 e4
 b : Below w0.heap.size w0 W
 k : KeepBut w W g none
 r : W.heap[w.heap.size]? = some (.cells #[.int .i64 0, .int .i64 0, .string ⟨#[]⟩, .int .i64 0, .int .i64 0] 57 (0, 0))
 gl : g < w.heap.size
 wl : w0.heap.size ≤ w.heap.size
section
variable {w0 w W W' : World} {g : Nat} {s : ByteArray} {x : Int} {l : Bool} {e3 e4 : Int}
theorem St.drew (h : St w0 w W g s x l e3 e4) : St w0 w W.drew g s x l e3 e4 := ⟨h.i.drew, below_drew1 h.b, keep_drew h.k, blk_drew h.r, h.gl, h.wl⟩
theorem St.step (h : St w0 w W g s x l e3 e4) (hb : Below (w.heap.size + 1) W W') (hsz : w.heap.size + 1 ≤ W.heap.size) : St w0 w W' g s x l e3 e4 := by
 have hs : W.heap.size ≤ W'.heap.size := hb.size
 refine ⟨⟨(hb.block g (by have := h.gl; omega)).trans h.i.1, h.i.2⟩, ?_, ⟨Nat.le_trans h.k.1 hs, fun i hi hg hr => (hb.block i (by omega)).trans (h.k.2 i hi hg hr)⟩, (hb.block _ (by omega)).trans h.r, h.gl, h.wl⟩
 exact h.b.trans (hb.mono (by have := h.wl; omega))
theorem St.size (h : St w0 w W g s x l e3 e4) : w.heap.size + 1 ≤ W.heap.size := blk_lt h.r
theorem St.c0 (h : St w0 w W g s x l e3 e4) : W.cell? ⟨g, 0, none⟩ = some (.string s) := cellS88_0 h.i.1
theorem St.c1 (h : St w0 w W g s x l e3 e4) : W.cell? ⟨g, 1, none⟩ = some (.int .i64 x) := cellS88_1 h.i.1
theorem St.c2 (h : St w0 w W g s x l e3 e4) : W.cell? ⟨g, 2, none⟩ = some (.bool l) := cellS88_2 h.i.1
theorem St.f (h : St w0 w W g s x l e3 e4) (j : Nat) : W.frozen? ⟨g, j, none⟩ = false := blk_frozen h.i.1 j
theorem St.q0 (h : St w0 w W g s x l e3 e4) : W.cell? ⟨w.heap.size, 0, none⟩ = some (.int .i64 0) := (blk_cell h.r 0).trans rfl
theorem St.z (h : St w0 w W g s x l e3 e4) (j : Nat) : W.frozen? ⟨w.heap.size, j, none⟩ = false := blk_frozen h.r j
end
end Go.Proofs.YtjlclkenfmbahaaGreatDoor.PA
end
section
namespace Go.Proofs.YtjlclkenfmbahaaGreatDoor.PA
open Go.RowKit Go.Shelf Go.Proofs.YtjlclkenfmbahaaGreatDoorW.PrintWords Go.Proofs.YtjlclkenfmbahaaGreatDoorW.PrintLast Go.Proofs.YtjlclkenfmbahaaGreatDoorW.PrintMore
attribute [local go_sem] Oper.semAt_some
abbrev Nx := S57 × Bool × Nat × Bool × Int × Int
inductive Gives (NX : Nat → Bool → Nx) : Nat → Bool → List S57 → Nat × Bool × Int × Int → Prop
 | stop {p : Nat} {l : Bool} {t : S57} {r : Nat × Bool × Int × Int} (h : NX p l = (t, false, r)) : Gives NX p l [] r
 | more {p p' : Nat} {l l' : Bool} {t : S57} {xs : List S57} {r : Nat × Bool × Int × Int} (h : NX p l = (t, true, p', l', 0, 0)) (hr : Gives NX p' l' xs r) : Gives NX p l (t :: xs) r
theorem Gives.one {NX : Nat → Bool → Nx} {p : Nat} {l : Bool} {xs ys : List S57} {r r' : Nat × Bool × Int × Int} (h : Gives NX p l xs r) (h' : Gives NX p l ys r') : xs = ys := by
 induction h generalizing ys r' with
 | stop h =>
  cases h' with
  | stop h1 => rfl
  | more h1 _ => rw [h] at h1; cases h1
 | more h _ ih =>
  cases h' with
  | stop h1 => rw [h] at h1; cases h1
  | more h1 h2 =>
   rw [h] at h1
   cases h1
   rw [ih h2]
end Go.Proofs.YtjlclkenfmbahaaGreatDoor.PA
end
section
namespace Go.Proofs.YtjlclkenfmbahaaGreatDoor.Dig
open Go.Lib
def B (l : List UInt8) : ByteArray := ⟨l.toArray⟩
theorem B_size (l : List UInt8) : (B l).size = l.length := by simp [B, ByteArray.size]
theorem B_append (a b : List UInt8) : B a ++ B b = B (a ++ b) := by
 apply ByteArray.ext
 simp [B]
theorem B_tail (x : UInt8) (l : List UInt8) : (B (x :: l)).extract 1 (B (x :: l)).size = B l := by
 apply ByteArray.ext
 simp [B, ByteArray.size]
def dig (d : Nat) : UInt8 := UInt8.ofNat (48 + d)
theorem dig_zero {d : Nat} (h : d < 10) : dig d = 48 ↔ d = 0 := by
 constructor
 ·intro e
  have : ∀ q : Fin 10, dig q.val = 48 → q.val = 0 := by decide
  exact this ⟨d, h⟩ e
 ·rintro rfl; rfl
theorem dec_small {u : Nat} (h : u < 10) : decDigits u = [dig u] := by rw [decDigits, dif_pos h]; rfl
theorem dec_big {u : Nat} (h : ¬ u < 10) : decDigits u = decDigits (u / 10) ++ [dig (u % 10)] := by rw [decDigits, dif_neg h]; rfl
def pad : Nat → Nat → List UInt8
 | 0, _ => []
 | j + 1, p => pad j (p / 10) ++ [dig (p % 10)]
theorem pad_len : ∀ (j p : Nat), (pad j p).length = j
 | 0, _ => rfl
 | j + 1, p => by show (pad j (p / 10) ++ [dig (p % 10)]).length = j + 1; rw [List.length_append, pad_len j]; rfl
theorem pad_left : ∀ (j p : Nat), pad (j + 1) p = dig (p / 10 ^ j % 10) :: pad j (p % 10 ^ j)
 | 0, p => by simp [pad]
 | j + 1, p => by
  show pad (j + 1) (p / 10) ++ [dig (p % 10)] = dig (p / 10 ^ (j + 1) % 10) :: (pad j (p % 10 ^ (j + 1) / 10) ++ [dig (p % 10 ^ (j + 1) % 10)])
  rw [pad_left j (p / 10), Nat.div_div_eq_div_mul, List.cons_append, Nat.pow_succ, Nat.mul_comm (10 ^ j) 10]
  congr 2
  ·rw [Nat.mod_mul_right_div_self]
  ·rw [Nat.mod_mul_right_mod]
theorem dec_pad : ∀ (j a p : Nat), 0 < a → p < 10 ^ j → decDigits (10 ^ j * a + p) = decDigits a ++ pad j p
 | 0, a, p, ha, hp => by
  have : p = 0 := by simpa using hp
  subst this
  simp [pad]
 | j + 1, a, p, ha, hp => by
  have hpow : 0 < 10 ^ j := Nat.pow_pos (by decide)
  have e1 : (10 ^ (j + 1) * a + p) = 10 * (10 ^ j * a) + p := by rw [Nat.pow_succ, Nat.mul_comm (10 ^ j) 10, Nat.mul_assoc]
  have hbig : ¬ (10 ^ (j + 1) * a + p) < 10 := by
   have : 1 ≤ 10 ^ j * a := Nat.mul_pos hpow ha
   omega
  have e2 : (10 ^ (j + 1) * a + p) / 10 = 10 ^ j * a + p / 10 := by rw [e1]; omega
  have e3 : (10 ^ (j + 1) * a + p) % 10 = p % 10 := by rw [e1]; omega
  rw [dec_big hbig, e2, e3, dec_pad j a (p / 10) ha (by rw [Nat.pow_succ] at hp; omega), List.append_assoc]
  rfl
theorem trimR_nil : trimRightB [] 48 = [] := rfl
theorem trimR_cons (d : UInt8) (l : List UInt8) : trimRightB (d :: l) 48 = if trimRightB l 48 = [] then (if d = 48 then [] else [d]) else d :: trimRightB l 48 := by
 unfold trimRightB
 rw [List.reverse_cons, List.dropWhile_append]
 by_cases h : (l.reverse.dropWhile (· == 48)) = []
 ·simp only [h, List.isEmpty_nil, if_true, List.reverse_nil]
  by_cases hd : d = 48
  ·subst hd; simp [List.dropWhile]
  ·rw [if_neg hd]
   have : (d == 48) = false := by simpa using hd
   simp [List.dropWhile, this]
 ·have h2 : (l.reverse.dropWhile (· == 48)).isEmpty = false := by simpa [List.isEmpty_iff] using h
  rw [h2]
  simp [h]
def longdiv (d : Nat) : Nat → Nat → Option (List UInt8)
 | 0, r => if r = 0 then some [] else none
 | j + 1, r => if r = 0 then some [] else (longdiv d j (10 * r % d)).map (dig (10 * r / d) :: ·)
theorem longdiv_zero (d : Nat) : ∀ j, longdiv d j 0 = some []
 | 0 => rfl
 | j + 1 => rfl
theorem pad_zero : ∀ j, trimRightB (pad j 0) 48 = []
 | 0 => rfl
 | j + 1 => by
  rw [pad_left, Nat.zero_div, Nat.zero_mod, Nat.zero_mod, trimR_cons, pad_zero j]
  rfl
theorem longdiv_pad {d : Nat} (hd : 0 < d) : ∀ (j r : Nat), r < d → (r * 10 ^ j) % d = 0 → longdiv d j r = some (trimRightB (pad j (r * 10 ^ j / d)) 48)
 | 0, r, hr, h => by
  have : r = 0 := by rw [Nat.pow_zero, Nat.mul_one, Nat.mod_eq_of_lt hr] at h; exact h
  subst this
  rfl
 | j + 1, r, hr, h => by
  by_cases h0 : r = 0
  ·subst h0
   rw [longdiv_zero, Nat.zero_mul, Nat.zero_div, pad_zero]
  ·have hpow : 0 < 10 ^ j := Nat.pow_pos (by decide)
   have e0 : r * 10 ^ (j + 1) = (10 * r) * 10 ^ j := by rw [Nat.pow_succ, ← Nat.mul_assoc, Nat.mul_right_comm, Nat.mul_comm r 10]
   obtain ⟨q, hq⟩ : ∃ q, q = 10 * r / d := ⟨_, rfl⟩
   obtain ⟨r', hr'⟩ : ∃ r', r' = 10 * r % d := ⟨_, rfl⟩
   have hdiv : 10 * r = d * q + r' := by rw [hq, hr']; exact (Nat.div_add_mod _ _).symm
   have hlt : r' < d := by rw [hr']; exact Nat.mod_lt _ hd
   have e1 : r * 10 ^ (j + 1) = r' * 10 ^ j + d * (q * 10 ^ j) := by rw [e0, hdiv, Nat.add_mul, Nat.mul_assoc, Nat.add_comm]
   have hmod : r' * 10 ^ j % d = 0 := by rw [e1, Nat.add_mul_mod_self_left] at h; exact h
   have hquo : r * 10 ^ (j + 1) / d = r' * 10 ^ j / d + q * 10 ^ j := by rw [e1, Nat.add_mul_div_left _ _ hd]
   have hsm : r' * 10 ^ j / d < 10 ^ j := by
    rw [Nat.div_lt_iff_lt_mul hd, Nat.mul_comm (10 ^ j) d]
    exact Nat.mul_lt_mul_of_pos_right hlt hpow
   have hq10 : q < 10 := by
    rw [hq, Nat.div_lt_iff_lt_mul hd]
    omega
   have f1 : (r' * 10 ^ j / d + q * 10 ^ j) / 10 ^ j % 10 = q := by
    rw [Nat.add_mul_div_right _ _ hpow, Nat.div_eq_of_lt hsm, Nat.zero_add, Nat.mod_eq_of_lt hq10]
   have f2 : (r' * 10 ^ j / d + q * 10 ^ j) % 10 ^ j = r' * 10 ^ j / d := by
    rw [Nat.add_mul_mod_self_right, Nat.mod_eq_of_lt hsm]
   show (if r = 0 then some [] else (longdiv d j (10 * r % d)).map (dig (10 * r / d) :: ·)) = _
   rw [if_neg h0, ← hq, ← hr', longdiv_pad hd j r' hlt hmod, hquo, pad_left, f1, f2, trimR_cons]
   by_cases ht : trimRightB (pad j (r' * 10 ^ j / d)) 48 = []
   ·rw [if_pos ht, ht]
    have hr0 : r' = 0 := by
     refine Classical.byContradiction fun hc => ?_
     have := longdiv_pad hd j r' hlt hmod
     rw [ht] at this
     cases j with
     | zero => unfold longdiv at this; rw [if_neg hc] at this; cases this
     | succ j =>
      unfold longdiv at this
      rw [if_neg hc] at this
      cases hl : longdiv d j (10 * r' % d) with
      | none => rw [hl] at this; cases this
      | some l => rw [hl] at this; cases this
    have hqp : q ≠ 0 := by
     intro hz
     rw [hz, hr0] at hdiv
     omega
    rw [if_neg (fun e => hqp ((dig_zero hq10).1 e))]
    rfl
   ·rw [if_neg ht]
    rfl
theorem longdiv_none {d : Nat} (hd : 0 < d) : ∀ (j r : Nat), r < d → (r * 10 ^ j) % d ≠ 0 → longdiv d j r = none
 | 0, r, hr, h => by
  have : r ≠ 0 := by rw [Nat.pow_zero, Nat.mul_one, Nat.mod_eq_of_lt hr] at h; exact h
  unfold longdiv
  rw [if_neg this]
 | j + 1, r, hr, h => by
  have h0 : r ≠ 0 := by rintro rfl; simp at h
  have e0 : r * 10 ^ (j + 1) = (10 * r) * 10 ^ j := by rw [Nat.pow_succ, ← Nat.mul_assoc, Nat.mul_right_comm, Nat.mul_comm r 10]
  have hlt : 10 * r % d < d := Nat.mod_lt _ hd
  have hmod : (10 * r % d) * 10 ^ j % d ≠ 0 := by
   rw [Nat.mod_mul_mod]
   rw [e0] at h
   exact h
  show (if r = 0 then some [] else (longdiv d j (10 * r % d)).map (dig (10 * r / d) :: ·)) = _
  rw [if_neg h0, longdiv_none hd j _ hlt hmod]
  rfl
end Go.Proofs.YtjlclkenfmbahaaGreatDoor.Dig
end
section
namespace Go.Proofs.YtjlclkenfmbahaaGreatDoor.Pure
open Go.RowKit Go.Lib Go.Proofs.YtjlclkenfmbahaaGreatDoorW.PrintWords Go.Proofs.YtjlclkenfmbahaaGreatDoorW.PrintLast Go.Proofs.YtjlclkenfmbahaaGreatDoor.PA Go.Proofs.YtjlclkenfmbahaaGreatDoor.Dig
theorem wr {x : Int} (h1 : -9223372036854775808 ≤ x) (h2 : x ≤ 9223372036854775807) : wrap64 x = x := by unfold wrap64; omega
def numsB (l : List UInt8) : List Int := l.map fun b => (b.toNat : Int)
theorem strOf_numsB (l : List UInt8) : strOfNums (numsB l) = B l := by
 unfold numsB strOfNums B
 rw [List.map_map]
 congr 2
 rw [List.map_congr_left (g := id) (fun b _ => by simp), List.map_id]
theorem digI {d : Nat} (h : d < 10) : wrap64 (48 + (d : Int)) % 256 = ((dig d).toNat : Int) := by
 rw [wr (by omega) (by omega)]
 have : ∀ q : Fin 10, (48 + (q.val : Int)) % 256 = ((dig q.val).toNat : Int) := by decide
 exact this ⟨d, h⟩
theorem dec_len (u : Nat) (h : u < 18446744073709551616) : (decDigits u).length ≤ 20 := by
 rw [decDigits_length]
 by_cases h1 : 1 ≤ u
 ·have := numDigits_eq u h1 h
  split at this <;> omega
 ·rw [nDigits_small (by omega)]; omega
end Go.Proofs.YtjlclkenfmbahaaGreatDoor.Pure
end
section
namespace Go.Proofs
open Go.Shelf
def Tryz.lays173_ren : Go.Shelf.Ren := ⟨fun | 173 => 77 | 246 => 117 | 283 => 188 | 284 => 189 | 285 => 190 | 286 => 191 | 129 => 210 | 317 => 209 | 318 => 211 | 319 => 212 | 320 => 213 | 337 => 226 | 338 => 227 | n => n, fun | 2 => 2 | 3 => 3 | 9 => 9 | 4 => 4 | 171 => 213 | 0 => 0 | 53 => 187 | 37 => 76 | 5 => 5 | 173 => 216 | 212 => 235 | 51 => 100 | 20 => 20 | 213 => 236 | 46 => 237 | 232 => 252 | 233 => 253 | n => n, fun | 17 => 2 | 18 => 4 | 19 => 5 | n => n⟩
theorem Tryz.lays173 : Go.Proofs.LaysM.n173 Tryz.prog Tryz.lays173_ren := {
 mixed := by kernel_rfl
 f129 := Tryz.func210.trans (congrArg some (by kernel_rfl))
 f173 := Tryz.func77.trans (congrArg some (by kernel_rfl))
 f246 := Tryz.func117.trans (congrArg some (by kernel_rfl))
 f283 := Tryz.func188.trans (congrArg some (by kernel_rfl))
 f284 := Tryz.func189.trans (congrArg some (by kernel_rfl))
 f285 := Tryz.func190.trans (congrArg some (by kernel_rfl))
 f286 := Tryz.func191.trans (congrArg some (by kernel_rfl))
 f317 := Tryz.func209.trans (congrArg some (by kernel_rfl))
 f318 := Tryz.func211.trans (congrArg some (by kernel_rfl))
 f319 := Tryz.func212.trans (congrArg some (by kernel_rfl))
 f320 := Tryz.func213.trans (congrArg some (by kernel_rfl))
 f337 := Tryz.func226.trans (congrArg some (by kernel_rfl))
 f338 := Tryz.func227.trans (congrArg some (by kernel_rfl))
 t0 := Tryz.underlying0
 a0 := Tryz.isAgg0
 z0 := Tryz.sizeOf0
 v0 := Tryz.zeroValue0
 t2 := Tryz.underlying2
 a2 := Tryz.isAgg2
 z2 := Tryz.sizeOf2
 v2 := Tryz.zeroValue2
 t3 := Tryz.underlying3
 a3 := Tryz.isAgg3
 z3 := Tryz.sizeOf3
 v3 := Tryz.zeroValue3
 t4 := Tryz.underlying4
 a4 := Tryz.isAgg4
 z4 := Tryz.sizeOf4
 v4 := Tryz.zeroValue4
 t5 := Tryz.underlying5
 a5 := Tryz.isAgg5
 z5 := Tryz.sizeOf5
 v5 := Tryz.zeroValue5
 t9 := Tryz.underlying9
 a9 := Tryz.isAgg9
 z9 := Tryz.sizeOf9
 v9 := Tryz.zeroValue9
 t20 := Tryz.underlying20
 a20 := Tryz.isAgg20
 z20 := Tryz.sizeOf20
 v20 := Tryz.zeroValue20
 t37 := Tryz.underlying76
 a37 := Tryz.isAgg76
 z37 := Tryz.sizeOf76
 v37 := Tryz.zeroValue76
 t46 := Tryz.underlying237
 a46 := Tryz.isAgg237
 z46 := Tryz.sizeOf237
 v46 := Tryz.zeroValue237
 t51 := Tryz.underlying100
 a51 := Tryz.isAgg100
 z51 := Tryz.sizeOf100
 v51 := Tryz.zeroValue100
 t53 := Tryz.underlying187
 a53 := Tryz.isAgg187
 z53 := Tryz.sizeOf187
 v53 := Tryz.zeroValue187
 t171 := Tryz.underlying213
 a171 := Tryz.isAgg213
 z171 := Tryz.sizeOf213
 v171 := Tryz.zeroValue213
 t173 := Tryz.underlying216
 a173 := Tryz.isAgg216
 z173 := Tryz.sizeOf216
 v173 := Tryz.zeroValue216
 t212 := Tryz.underlying235
 a212 := Tryz.isAgg235
 z212 := Tryz.sizeOf235
 v212 := Tryz.zeroValue235
 t213 := Tryz.underlying236
 a213 := Tryz.isAgg236
 z213 := Tryz.sizeOf236
 t232 := Tryz.underlying252
 a232 := Tryz.isAgg252
 z232 := Tryz.sizeOf252
 v232 := Tryz.zeroValue252
 t233 := Tryz.underlying253
 a233 := Tryz.isAgg253
 z233 := Tryz.sizeOf253
 v233 := Tryz.zeroValue253
 g17 := by kernel_rfl
 g18 := by kernel_rfl
 g19 := by kernel_rfl
 i0 := by kernel_rfl
 i2 := by kernel_rfl
 i3 := by kernel_rfl
 i4 := by kernel_rfl
 i5 := by kernel_rfl
 i9 := by kernel_rfl
 i20 := by kernel_rfl
 i37 := by kernel_rfl
 i46 := by kernel_rfl
 i51 := by kernel_rfl
 i53 := by kernel_rfl
 i171 := by kernel_rfl
 i173 := by kernel_rfl
 i212 := by kernel_rfl
 i232 := by kernel_rfl
 i233 := by kernel_rfl
 m17 := by kernel_rfl
 m18 := by kernel_rfl
 m19 := by kernel_rfl }
def Tryz.lays162_ren : Go.Shelf.Ren := ⟨fun | 162 => 118 | 232 => 192 | 227 => 193 | 234 => 194 | 236 => 195 | 228 => 214 | 271 => 215 | 151 => 216 | 120 => 228 | 197 => 229 | 152 => 230 | 260 => 233 | 137 => 234 | 119 => 235 | 224 => 236 | 225 => 237 | 217 => 241 | 266 => 242 | n => n, fun | 9 => 9 | 4 => 4 | 3 => 3 | 5 => 5 | 117 => 221 | 116 => 220 | 0 => 0 | 124 => 224 | 21 => 21 | 105 => 239 | 46 => 237 | 119 => 257 | 139 => 260 | 138 => 259 | n => n, fun | 3 => 6 | 4 => 7 | n => n⟩
theorem Tryz.lays162 : Go.Proofs.Lays.n162 Tryz.prog Tryz.lays162_ren := {
 mixed := by kernel_rfl
 f119 := Tryz.func235.trans (congrArg some (by kernel_rfl))
 f120 := Tryz.func228.trans (congrArg some (by kernel_rfl))
 f137 := Tryz.func234.trans (congrArg some (by kernel_rfl))
 f151 := Tryz.func216.trans (congrArg some (by kernel_rfl))
 f152 := Tryz.func230.trans (congrArg some (by kernel_rfl))
 f162 := Tryz.func118.trans (congrArg some (by kernel_rfl))
 f197 := Tryz.func229.trans (congrArg some (by kernel_rfl))
 f217 := Tryz.func241.trans (congrArg some (by kernel_rfl))
 f224 := Tryz.func236.trans (congrArg some (by kernel_rfl))
 f225 := Tryz.func237.trans (congrArg some (by kernel_rfl))
 f227 := Tryz.func193.trans (congrArg some (by kernel_rfl))
 f228 := Tryz.func214.trans (congrArg some (by kernel_rfl))
 f232 := Tryz.func192.trans (congrArg some (by kernel_rfl))
 f234 := Tryz.func194.trans (congrArg some (by kernel_rfl))
 f236 := Tryz.func195.trans (congrArg some (by kernel_rfl))
 f260 := Tryz.func233.trans (congrArg some (by kernel_rfl))
 f266 := Tryz.func242.trans (congrArg some (by kernel_rfl))
 f271 := Tryz.func215.trans (congrArg some (by kernel_rfl))
 t0 := Tryz.underlying0
 a0 := Tryz.isAgg0
 z0 := Tryz.sizeOf0
 v0 := Tryz.zeroValue0
 t3 := Tryz.underlying3
 a3 := Tryz.isAgg3
 z3 := Tryz.sizeOf3
 v3 := Tryz.zeroValue3
 t4 := Tryz.underlying4
 a4 := Tryz.isAgg4
 z4 := Tryz.sizeOf4
 v4 := Tryz.zeroValue4
 t5 := Tryz.underlying5
 a5 := Tryz.isAgg5
 z5 := Tryz.sizeOf5
 v5 := Tryz.zeroValue5
 t9 := Tryz.underlying9
 a9 := Tryz.isAgg9
 z9 := Tryz.sizeOf9
 v9 := Tryz.zeroValue9
 t21 := Tryz.underlying21
 a21 := Tryz.isAgg21
 z21 := Tryz.sizeOf21
 v21 := Tryz.zeroValue21
 t46 := Tryz.underlying237
 a46 := Tryz.isAgg237
 z46 := Tryz.sizeOf237
 v46 := Tryz.zeroValue237
 t105 := Tryz.underlying239
 a105 := Tryz.isAgg239
 z105 := Tryz.sizeOf239
 v105 := Tryz.zeroValue239
 t116 := Tryz.underlying220
 a116 := Tryz.isAgg220
 z116 := Tryz.sizeOf220
 t117 := Tryz.underlying221
 a117 := Tryz.isAgg221
 z117 := Tryz.sizeOf221
 v117 := Tryz.zeroValue221
 t119 := Tryz.underlying257
 a119 := Tryz.isAgg257
 z119 := Tryz.sizeOf257
 t124 := Tryz.underlying224
 a124 := Tryz.isAgg224
 z124 := Tryz.sizeOf224
 v124 := Tryz.zeroValue224
 t138 := Tryz.underlying259
 a138 := Tryz.isAgg259
 z138 := Tryz.sizeOf259
 v138 := Tryz.zeroValue259
 t139 := Tryz.underlying260
 a139 := Tryz.isAgg260
 z139 := Tryz.sizeOf260
 v139 := Tryz.zeroValue260
 g3 := by kernel_rfl
 g4 := by kernel_rfl }
def Tryz.lays283_ren : Go.Shelf.Ren := ⟨fun | 283 => 188 | n => n, fun | 3 => 3 | 9 => 9 | 4 => 4 | n => n, fun | n => n⟩
theorem Tryz.lays283 : Go.Proofs.Lays.n283 Tryz.prog Tryz.lays283_ren := {
 mixed := by kernel_rfl
 f283 := Tryz.func188.trans (congrArg some (by kernel_rfl))
 t3 := Tryz.underlying3
 a3 := Tryz.isAgg3
 z3 := Tryz.sizeOf3
 v3 := Tryz.zeroValue3
 t4 := Tryz.underlying4
 a4 := Tryz.isAgg4
 z4 := Tryz.sizeOf4
 v4 := Tryz.zeroValue4
 t9 := Tryz.underlying9
 a9 := Tryz.isAgg9
 z9 := Tryz.sizeOf9
 v9 := Tryz.zeroValue9 }
def Tryz.lays284_ren : Go.Shelf.Ren := ⟨fun | 284 => 189 | 129 => 210 | 317 => 209 | 318 => 211 | n => n, fun | 53 => 187 | 3 => 3 | 212 => 235 | 0 => 0 | 4 => 4 | 46 => 237 | 5 => 5 | 9 => 9 | n => n, fun | 17 => 2 | n => n⟩
theorem Tryz.lays284 : Go.Proofs.LaysM.n284 Tryz.prog Tryz.lays284_ren := {
 mixed := by kernel_rfl
 f129 := Tryz.func210.trans (congrArg some (by kernel_rfl))
 f284 := Tryz.func189.trans (congrArg some (by kernel_rfl))
 f317 := Tryz.func209.trans (congrArg some (by kernel_rfl))
 f318 := Tryz.func211.trans (congrArg some (by kernel_rfl))
 t0 := Tryz.underlying0
 a0 := Tryz.isAgg0
 z0 := Tryz.sizeOf0
 v0 := Tryz.zeroValue0
 t3 := Tryz.underlying3
 a3 := Tryz.isAgg3
 z3 := Tryz.sizeOf3
 v3 := Tryz.zeroValue3
 t4 := Tryz.underlying4
 a4 := Tryz.isAgg4
 z4 := Tryz.sizeOf4
 v4 := Tryz.zeroValue4
 t5 := Tryz.underlying5
 a5 := Tryz.isAgg5
 z5 := Tryz.sizeOf5
 v5 := Tryz.zeroValue5
 t9 := Tryz.underlying9
 a9 := Tryz.isAgg9
 z9 := Tryz.sizeOf9
 v9 := Tryz.zeroValue9
 t46 := Tryz.underlying237
 a46 := Tryz.isAgg237
 z46 := Tryz.sizeOf237
 v46 := Tryz.zeroValue237
 t53 := Tryz.underlying187
 a53 := Tryz.isAgg187
 z53 := Tryz.sizeOf187
 v53 := Tryz.zeroValue187
 t212 := Tryz.underlying235
 a212 := Tryz.isAgg235
 z212 := Tryz.sizeOf235
 v212 := Tryz.zeroValue235
 g17 := by kernel_rfl
 i0 := by kernel_rfl
 i3 := by kernel_rfl
 i4 := by kernel_rfl
 i5 := by kernel_rfl
 i9 := by kernel_rfl
 i46 := by kernel_rfl
 i53 := by kernel_rfl
 i212 := by kernel_rfl
 m17 := by kernel_rfl }
def Tryz.lays285_ren : Go.Shelf.Ren := ⟨fun | 285 => 190 | n => n, fun | 37 => 76 | 53 => 187 | 3 => 3 | 4 => 4 | 51 => 100 | 9 => 9 | 5 => 5 | 0 => 0 | n => n, fun | n => n⟩
theorem Tryz.lays285 : Go.Proofs.Lays.n285 Tryz.prog Tryz.lays285_ren := {
 mixed := by kernel_rfl
 f285 := Tryz.func190.trans (congrArg some (by kernel_rfl))
 t0 := Tryz.underlying0
 a0 := Tryz.isAgg0
 z0 := Tryz.sizeOf0
 v0 := Tryz.zeroValue0
 t3 := Tryz.underlying3
 a3 := Tryz.isAgg3
 z3 := Tryz.sizeOf3
 v3 := Tryz.zeroValue3
 t4 := Tryz.underlying4
 a4 := Tryz.isAgg4
 z4 := Tryz.sizeOf4
 v4 := Tryz.zeroValue4
 t5 := Tryz.underlying5
 a5 := Tryz.isAgg5
 z5 := Tryz.sizeOf5
 v5 := Tryz.zeroValue5
 t9 := Tryz.underlying9
 a9 := Tryz.isAgg9
 z9 := Tryz.sizeOf9
 v9 := Tryz.zeroValue9
 t37 := Tryz.underlying76
 a37 := Tryz.isAgg76
 z37 := Tryz.sizeOf76
 v37 := Tryz.zeroValue76
 t51 := Tryz.underlying100
 a51 := Tryz.isAgg100
 z51 := Tryz.sizeOf100
 v51 := Tryz.zeroValue100
 t53 := Tryz.underlying187
 a53 := Tryz.isAgg187
 z53 := Tryz.sizeOf187
 v53 := Tryz.zeroValue187 }
def Tryz.lays170_ren : Go.Shelf.Ren := ⟨fun | 170 => 19 | n => n, fun | 70 => 75 | 3 => 3 | 0 => 0 | 72 => 78 | 37 => 76 | 5 => 5 | n => n, fun | n => n⟩
theorem Tryz.lays170 : Go.Proofs.Lays.n170 Tryz.prog Tryz.lays170_ren := {
 mixed := by kernel_rfl
 f170 := Tryz.func19.trans (congrArg some (by kernel_rfl))
 t0 := Tryz.underlying0
 a0 := Tryz.isAgg0
 z0 := Tryz.sizeOf0
 v0 := Tryz.zeroValue0
 t3 := Tryz.underlying3
 a3 := Tryz.isAgg3
 z3 := Tryz.sizeOf3
 v3 := Tryz.zeroValue3
 t37 := Tryz.underlying76
 a37 := Tryz.isAgg76
 z37 := Tryz.sizeOf76
 v37 := Tryz.zeroValue76
 t70 := Tryz.underlying75
 a70 := Tryz.isAgg75
 z70 := Tryz.sizeOf75
 v70 := Tryz.zeroValue75
 t72 := Tryz.underlying78
 a72 := Tryz.isAgg78
 z72 := Tryz.sizeOf78
 v72 := Tryz.zeroValue78 }
def Tryz.lays169_ren : Go.Shelf.Ren := ⟨fun | 169 => 20 | n => n, fun | 70 => 75 | 9 => 9 | 0 => 0 | 72 => 78 | 37 => 76 | 127 => 99 | 3 => 3 | 5 => 5 | n => n, fun | n => n⟩
theorem Tryz.lays169 : Go.Proofs.Lays.n169 Tryz.prog Tryz.lays169_ren := {
 mixed := by kernel_rfl
 f169 := Tryz.func20.trans (congrArg some (by kernel_rfl))
 t0 := Tryz.underlying0
 a0 := Tryz.isAgg0
 z0 := Tryz.sizeOf0
 v0 := Tryz.zeroValue0
 t3 := Tryz.underlying3
 a3 := Tryz.isAgg3
 z3 := Tryz.sizeOf3
 v3 := Tryz.zeroValue3
 t9 := Tryz.underlying9
 a9 := Tryz.isAgg9
 z9 := Tryz.sizeOf9
 v9 := Tryz.zeroValue9
 t37 := Tryz.underlying76
 a37 := Tryz.isAgg76
 z37 := Tryz.sizeOf76
 v37 := Tryz.zeroValue76
 t70 := Tryz.underlying75
 a70 := Tryz.isAgg75
 z70 := Tryz.sizeOf75
 v70 := Tryz.zeroValue75
 t72 := Tryz.underlying78
 a72 := Tryz.isAgg78
 z72 := Tryz.sizeOf78
 v72 := Tryz.zeroValue78
 t127 := Tryz.underlying99
 a127 := Tryz.isAgg99
 z127 := Tryz.sizeOf99
 v127 := Tryz.zeroValue99 }
theorem Tryz.Builder_Extra_169 : Builder.Extra Tryz.prog Tryz.lays169_ren := {
 sizeBuilder := by kernel_rfl
 liesBuilder := by kernel_rfl
 t5 := Tryz.underlying5
 a5 := Tryz.isAgg5
 z5 := Tryz.sizeOf5
 v5 := Tryz.zeroValue5
 infoByte := by kernel_rfl
 cellsByte := by kernel_rfl
 sizeByte := by kernel_rfl
 neB5 := by decide }
open Go.RowKit in
theorem Tryz.Builder_Len_f (B b : Nat) (bs : List Value) (w : World) (h : Lib.IsBuilderF 78 5 B b bs w) :
  Calls Tryz.prog 19 #[.pointer (some ⟨b, 0, none⟩)] w fun e w' => e = .returned (.int .i64 bs.length) ∧ w' = w := Any.Builder_Len_f Tryz.lays170 B b bs w h
open Go.RowKit in
theorem Tryz.Builder_String_any_k (B b : Nat) (l : List UInt8) (w : World) (h : Lib.IsBuilderF 78 5 B b (Lib.byteCells l) w) (hBw : B ≤ w.heap.size) :
  Calls Tryz.prog 20 #[.pointer (some ⟨b, 0, none⟩)] w fun e w' => e = .returned (.string ⟨l.toArray⟩) ∧ (Lib.IsBuilderF 78 5 B b (Lib.byteCells l) w' ∧ Below B w w' ∧ Lib.OthersKept 5 (some b) w w') := Any.Builder_String_any_k Tryz.lays169 Tryz.Builder_Extra_169 B b l w h hBw
end Go.Proofs
end
section
end
section
namespace Go.Proofs.YtjlclkenfmbahaaGreatDoor.PA
open Go.Shelf Go.RowKit
end Go.Proofs.YtjlclkenfmbahaaGreatDoor.PA
end
section
namespace Go.Proofs.YtjlclkenfmbahaaGreatDoor.PA
open Go.RowKit Go.Proofs.YtjlclkenfmbahaaGreatDoorW.PrintWords Go.Proofs.YtjlclkenfmbahaaGreatDoorW.PrintLast Go.Proofs.YtjlclkenfmbahaaGreatDoorW.PrintMore
attribute [local go_sem] max2_int min2_int max_two min_two max_three min_three max_four min_four
def words_digits.l0 : Nat → ByteArray → Int → Int → Int → Option (Int × Bool)
 | 0, _, _, _, _ => none
 | k + 1, x0, x4, x12, x13 => if x13 < x12 then (if 0 ≤ x13 then (if x13 < (x0.size : Int) then (words_digits.l0 k x0 (wrap64 ((wrap64 (10 * x4)) + (((bt x0 x13) - 48) % 256))) x12 (wrap64 (x13 + 1))) else (none)) else (none)) else (some (x4, true))
end Go.Proofs.YtjlclkenfmbahaaGreatDoor.PA
end
section
namespace Go.Proofs.YtjlclkenfmbahaaGreatDoor.PA
open Go.RowKit Go.Proofs.YtjlclkenfmbahaaGreatDoorW.PrintWords Go.Proofs.YtjlclkenfmbahaaGreatDoorW.PrintLast Go.Proofs.YtjlclkenfmbahaaGreatDoorW.PrintMore
theorem wrI {x : Int} (h1 : -9223372036854775808 ≤ x) (h2 : x ≤ 9223372036854775807) : wrap64 x = x := by unfold wrap64; omega
def bA (l : List UInt8) : ByteArray := ⟨l.toArray⟩
theorem bA_Ls (s : ByteArray) : bA (Ls s) = s := rfl
theorem bA_size (l : List UInt8) : (bA l).size = l.length := by
 show l.toArray.size = l.length
 simp
theorem bA_append (a b : List UInt8) : bA a ++ bA b = bA (a ++ b) := by
 apply ByteArray.ext
 rw [ByteArray.data_append]
 simp [bA]
def valA (n : Nat) (l : List UInt8) : Nat := l.foldl (fun n b => 10 * n + (b.toNat - 48)) n
def val (l : List UInt8) : Nat := valA 0 l
theorem valA_cons (n : Nat) (b : UInt8) (l : List UInt8) : valA n (b :: l) = valA (10 * n + (b.toNat - 48)) l := by unfold valA; rw [List.foldl_cons]
theorem dg_bounds {b : UInt8} (h : isDg b = true) : 48 ≤ b.toNat ∧ b.toNat ≤ 57 := by
 unfold isDg at h
 simpa using h
theorem valA_lt (l : List UInt8) (hd : ∀ b ∈ l, isDg b = true) : ∀ n, valA n l < (n + 1) * 10 ^ l.length := by
 induction l with
 | nil => intro n; show n < _; simp
 | cons b l ih =>
  intro n
  have hb := dg_bounds (hd b (by simp))
  have h := ih (fun x hx => hd x (by simp [hx])) (10 * n + (b.toNat - 48))
  rw [valA_cons, List.length_cons, Nat.pow_succ]
  have h2 : (10 * n + (b.toNat - 48) + 1) * 10 ^ l.length ≤ ((n + 1) * 10) * 10 ^ l.length := Nat.mul_le_mul_right _ (by omega)
  have h3 : (n + 1) * (10 ^ l.length * 10) = ((n + 1) * 10) * 10 ^ l.length := by rw [Nat.mul_comm (10 ^ l.length) 10, Nat.mul_assoc]
  omega
theorem val_lt (l : List UInt8) (hd : ∀ b ∈ l, isDg b = true) : val l < 10 ^ l.length := by
 have := valA_lt l hd 0
 unfold val
 omega
theorem valA_append (n : Nat) (a b : List UInt8) : valA n (a ++ b) = valA (valA n a) b := by unfold valA; rw [List.foldl_append]
theorem valA_snoc (n : Nat) (a : List UInt8) (b : UInt8) : valA n (a ++ [b]) = 10 * valA n a + (b.toNat - 48) := by rw [valA_append, valA_cons]; unfold valA; rw [List.foldl_nil]
theorem pow18 {i : Nat} (h : i ≤ 17) : 10 ^ i ≤ 100000000000000000 := Nat.pow_le_pow_right (show 0 < 10 by decide) h
theorem dig_step {acc d : Nat} {x : Int} (ha : acc < 100000000000000000) (hx : x = d) (h1 : 48 ≤ d) (h2 : d ≤ 57) : wrap64 ((wrap64 (10 * (acc : Int))) + ((x - 48) % 256)) = ((10 * acc + (d - 48) : Nat) : Int) := by
 have e0 : wrap64 (10 * (acc : Int)) = 10 * (acc : Int) := wrI (by omega) (by omega)
 rw [e0, hx]
 have e1 : ((d : Int) - 48) % 256 = (d : Int) - 48 := by omega
 rw [e1, wrI (by omega) (by omega)]
 omega
def digitsR (l : List UInt8) : Int × Bool := if 18 < (l.dropWhile (· == 48)).length then (0, false) else ((val l : Int), true)
theorem digits_loop (t : List UInt8) (hd : ∀ b ∈ t, isDg b = true) (ht : t.length ≤ 18) (d : Nat) : ∀ (i acc : Nat), t.length = i + d → acc < 10 ^ i →
  Ev (fun k => words_digits.l0 k (bA t) (acc : Int) ((bA t).size : Int) (i : Int)) ((valA acc (t.drop i) : Int), true) := by
 have hsz := bA_size t
 induction d with
 | zero =>
  intro i acc hi ha
  refine ⟨1, fun k hk => ?_⟩
  obtain ⟨q, rfl⟩ : ∃ q, k = q + 1 := ⟨k - 1, by omega⟩
  show words_digits.l0 (q + 1) (bA t) (acc : Int) ((bA t).size : Int) (i : Int) = _
  unfold words_digits.l0
  rw [if_neg (by omega), List.drop_of_length_le (by omega)]
  rfl
 | succ d ih =>
  intro i acc hi ha
  have hlt : i < t.length := by omega
  obtain ⟨b, hb⟩ : ∃ b, (Ls (bA t))[i]? = some b := ⟨_, List.getElem?_eq_getElem hlt⟩
  have hbt := (bt_of (bA t) hb).1
  have hdrop : t.drop i = b :: t.drop (i + 1) := by
   rw [List.drop_eq_getElem_cons hlt]
   congr 1
   exact (List.getElem?_eq_some_iff.1 hb).2
  have hbm : b ∈ t := List.mem_of_getElem? hb
  have hbd := dg_bounds (hd b hbm)
  have hp := pow18 (i := i) (by omega)
  have hp2 : 10 ^ (i + 1) = 10 ^ i * 10 := Nat.pow_succ ..
  obtain ⟨K, hK⟩ := ih (i + 1) (10 * acc + (b.toNat - 48)) (by omega) (by rw [hp2]; omega)
  refine ⟨K + 1, fun k hk => ?_⟩
  obtain ⟨q, rfl⟩ : ∃ q, k = q + 1 := ⟨k - 1, by omega⟩
  have hK := hK q (by omega)
  dsimp only at hK
  show words_digits.l0 (q + 1) (bA t) (acc : Int) ((bA t).size : Int) (i : Int) = _
  unfold words_digits.l0
  rw [if_pos (by omega), if_pos (by omega), if_pos (by omega)]
  have e1 : wrap64 ((wrap64 (10 * (acc : Int))) + ((bt (bA t) (i : Int) - 48) % 256)) = ((10 * acc + (b.toNat - 48) : Nat) : Int) := dig_step (Nat.lt_of_lt_of_le ha hp) hbt hbd.1 hbd.2
  have e2 : wrap64 ((i : Int) + 1) = ((i + 1 : Nat) : Int) := by rw [wrI (by omega) (by omega)]; omega
  rw [e1, e2, hK, hdrop, valA_cons]
theorem common_loop (n : Nat) : ∀ (b a : Nat), b ≤ n → Ev (fun k => words_common.l0 k (a : Int) (b : Int)) ((max (Nat.gcd a b) 1 : Nat) : Int) := by
 induction n with
 | zero =>
  intro b a hb
  obtain rfl : b = 0 := by omega
  refine ⟨1, fun k hk => ?_⟩
  obtain ⟨q, rfl⟩ : ∃ q, k = q + 1 := ⟨k - 1, by omega⟩
  show words_common.l0 (q + 1) (a : Int) ((0 : Nat) : Int) = _
  unfold words_common.l0
  rw [if_pos (by omega), Nat.gcd_zero_right]
  congr 1
  unfold mx
  omega
 | succ n ih =>
  intro b a hb
  by_cases h0 : b = 0
  ·subst h0
   refine ⟨1, fun k hk => ?_⟩
   obtain ⟨q, rfl⟩ : ∃ q, k = q + 1 := ⟨k - 1, by omega⟩
   show words_common.l0 (q + 1) (a : Int) ((0 : Nat) : Int) = _
   unfold words_common.l0
   rw [if_pos (by omega), Nat.gcd_zero_right]
   congr 1
   unfold mx
   omega
  ·have hm : a % b < b := Nat.mod_lt _ (by omega)
   obtain ⟨K, hK⟩ := ih (a % b) b (by omega)
   refine ⟨K + 1, fun k hk => ?_⟩
   obtain ⟨q, rfl⟩ : ∃ q, k = q + 1 := ⟨k - 1, by omega⟩
   have hK := hK q (by omega)
   dsimp only at hK
   show words_common.l0 (q + 1) (a : Int) (b : Int) = _
   unfold words_common.l0
   rw [if_neg (by omega), show Int.tmod (a : Int) (b : Int) = ((a % b : Nat) : Int) from rfl, hK]
   congr 2
   rw [Nat.gcd_comm a b, Nat.gcd_rec b a, Nat.gcd_comm]
theorem common_eval (a b : Nat) : Ev (fun k => words_common.f k (a : Int) (b : Int)) ((max (Nat.gcd a b) 1 : Nat) : Int) := common_loop b b a (Nat.le_refl _)
def denR (k : Nat) : Nat := 100 * 10 ^ k
def ratioR (a b : List UInt8) : S57 × Bool :=
 if 6 < b.length ∨ b.getLast? = some 48 then (⟨0, 0, ⟨#[]⟩, 0, 0⟩, false)
 else if (digitsR (a ++ b)).2 = false then (⟨0, 0, ⟨#[]⟩, 0, 0⟩, false)
 else (⟨4, 0, ⟨#[]⟩, ((val (a ++ b) / max (Nat.gcd (val (a ++ b)) (denR b.length)) 1 : Nat) : Int), ((denR b.length / max (Nat.gcd (val (a ++ b)) (denR b.length)) 1 : Nat) : Int)⟩,
  decide (((val (a ++ b) / max (Nat.gcd (val (a ++ b)) (denR b.length)) 1 : Nat) : Int) ≤ 1000000000) && decide (((denR b.length / max (Nat.gcd (val (a ++ b)) (denR b.length)) 1 : Nat) : Int) ≤ 1000000000))
theorem denR_succ (k : Nat) : denR (k + 1) = denR k * 10 := by unfold denR; rw [Nat.pow_succ, Nat.mul_assoc]
theorem denR_le {k : Nat} (h : k ≤ 6) : denR k ≤ 100000000 := by
 have : 10 ^ k ≤ 1000000 := Nat.pow_le_pow_right (show 0 < 10 by decide) h
 unfold denR
 omega
theorem last_bt (b : ByteArray) (h : 0 < b.size) : ∃ x : UInt8, (Ls b)[b.size - 1]? = some x ∧ (Ls b).getLast? = some x := by
 obtain ⟨x, hx⟩ := byte_some b (i := b.size - 1) (by omega)
 refine ⟨x, hx, ?_⟩
 rw [List.getLast?_eq_getElem?, Ls_len]; exact hx
end Go.Proofs.YtjlclkenfmbahaaGreatDoor.PA
end
section
namespace Go.Proofs.YtjlclkenfmbahaaGreatDoor.PA
open Go.RowKit Go.Proofs.YtjlclkenfmbahaaGreatDoorW.PrintWords Go.Proofs.YtjlclkenfmbahaaGreatDoorW.PrintLast Go.Proofs.YtjlclkenfmbahaaGreatDoorW.PrintMore Go.Proofs.YtjlclkenfmbahaaGreatDoor.Days
attribute [local go_sem] max2_int min2_int max_two min_two
def dash (i : Nat) : Bool := i == 4 || i == 7
def okAt (s : ByteArray) (i : Nat) : Bool := if dash i then bt s i == 45 else decide (48 ≤ bt s i) && decide (bt s i ≤ 57)
def kAt (i : Nat) : Nat := if i ≤ 4 then 0 else if i ≤ 7 then 1 else 2
def fAt (s : ByteArray) : Nat → Nat → Int
 | 0, _ => 0
 | i + 1, j => if dash i = false ∧ j = kAt i then wrap64 (wrap64 (10 * fAt s i j) + (bt s i - 48) % 256) else fAt s i j
def parseGo (s : ByteArray) : Nat → Nat → Int × Int × Int
 | 0, _ => if s.size = 10 then (if (numS (fAt s 10 0) (fAt s 10 1) (fAt s 10 2)).2 = 0 then ((numS (fAt s 10 0) (fAt s 10 1) (fAt s 10 2)).1, 10, 0) else (0, 0, (numS (fAt s 10 0) (fAt s 10 1) (fAt s 10 2)).2)) else (0, if s.size < 10 then (s.size : Int) else 10, 22)
 | d + 1, i => if okAt s i then parseGo s d (i + 1) else (0, i, 22)
def parseS (s : ByteArray) : Int × Int × Int := parseGo s (min s.size 10) 0
theorem okAt_dash {s : ByteArray} {i : Nat} (hd : dash i = true) : okAt s i = (bt s i == 45) := by unfold okAt; rw [if_pos hd]
theorem okAt_digit {s : ByteArray} {i : Nat} (hd : dash i = false) : okAt s i = (decide (48 ≤ bt s i) && decide (bt s i ≤ 57)) := by unfold okAt; rw [if_neg (by simp [hd])]
theorem kAt_succ {i : Nat} (h : i < 10) : kAt (i + 1) = if dash i then kAt i + 1 else kAt i := by
 obtain rfl | rfl | rfl | rfl | rfl | rfl | rfl | rfl | rfl | rfl : i = 0 ∨ i = 1 ∨ i = 2 ∨ i = 3 ∨ i = 4 ∨ i = 5 ∨ i = 6 ∨ i = 7 ∨ i = 8 ∨ i = 9 := by omega
 all_goals rfl
theorem parseGo_upto (s : ByteArray) (n : Nat) (d : Nat) : ∀ i, n = i + d → (∀ j, j < n → okAt s j = true) → parseGo s d i = parseGo s 0 n := by
 induction d with
 | zero => intro i h _; rw [show i = n by omega]
 | succ d ih =>
  intro i h hall
  show (if okAt s i then parseGo s d (i + 1) else _) = _
  rw [if_pos (hall i (by omega))]
  exact ih (i + 1) (by omega) hall
theorem parseGo_bad (s : ByteArray) (b : Nat) (d : Nat) : ∀ i, i ≤ b → b < i + d → (∀ j, j < b → okAt s j = true) → okAt s b = false → parseGo s d i = (0, (b : Int), 22) := by
 induction d with
 | zero => intro i h1 h2; exact absurd h1 (by omega)
 | succ d ih =>
  intro i h1 h2 hall hb
  show (if okAt s i then parseGo s d (i + 1) else _) = _
  by_cases e : i = b
  ·subst e
   rw [if_neg (by simp [hb])]
  ·rw [if_pos (hall i (by omega))]
   exact ih (i + 1) (by omega) (by omega) hall hb
theorem parse_bad {s : ByteArray} {b : Nat} (h1 : b < s.size) (h2 : b < 10) (hall : ∀ j, j < b → okAt s j = true) (hb : okAt s b = false) : parseS s = (0, (b : Int), 22) :=
 parseGo_bad s b (min s.size 10) 0 (by omega) (by omega) hall hb
theorem parse_end {s : ByteArray} {n : Nat} (hn : n = min s.size 10) (hall : ∀ j, j < n → okAt s j = true) : parseS s = parseGo s 0 n := by
 unfold parseS
 rw [← hn]
 exact parseGo_upto s n n 0 (by omega) hall
theorem next_ok {s : ByteArray} {i : Nat} (hall : ∀ j, j < i → okAt s j = true) (hi : okAt s i = true) : ∀ j, j < i + 1 → okAt s j = true := by
 intro j hj
 by_cases e : j = i
 ·exact e ▸ hi
 ·exact hall j (by omega)
theorem trip_ten {s : ByteArray} (h : s.size = 10) (hall : ∀ j, j < 10 → okAt s j = true) : parseS s = if (numS (fAt s 10 0) (fAt s 10 1) (fAt s 10 2)).2 = 0 then ((numS (fAt s 10 0) (fAt s 10 1) (fAt s 10 2)).1, 10, 0) else (0, 0, (numS (fAt s 10 0) (fAt s 10 1) (fAt s 10 2)).2) := by
 rw [parse_end (n := 10) (by omega) hall]
 show (if s.size = 10 then _ else _) = _
 rw [if_pos h]
end Go.Proofs.YtjlclkenfmbahaaGreatDoor.PA
end
section
namespace Go.Proofs.YtjlclkenfmbahaaGreatDoor.PA
open Go.RowKit Go.Proofs.YtjlclkenfmbahaaGreatDoorW.PrintWords Go.Proofs.YtjlclkenfmbahaaGreatDoorW.PrintLast Go.Proofs.YtjlclkenfmbahaaGreatDoorW.PrintMore
attribute [local go_sem] max2_int min2_int max_two min_two max_three min_three max_four min_four
end Go.Proofs.YtjlclkenfmbahaaGreatDoor.PA
end
section
namespace Go.Proofs.YtjlclkenfmbahaaGreatDoor.PA
open Go.RowKit Go.Proofs.YtjlclkenfmbahaaGreatDoorW.PrintWords Go.Proofs.YtjlclkenfmbahaaGreatDoorW.PrintLast Go.Proofs.YtjlclkenfmbahaaGreatDoorW.PrintMore
def datedT (s : ByteArray) (p i : Nat) : Bool := if i = 4 ∨ i = 7 then atP (fun b => b.toNat == 45) s (p + i) else atP isDg s (p + i)
def datedGo (s : ByteArray) (p : Nat) : Nat → Nat → Bool
 | 0, _ => true
 | d + 1, i => if datedT s p i then datedGo s p d (i + 1) else false
def datedB (s : ByteArray) (p : Nat) : Bool := datedGo s p 10 0
def amountR (a b : List UInt8) : S57 × Bool := (⟨2, 0, ⟨#[]⟩, (digitsR (a ++ b)).1, 0⟩, (digitsR (a ++ b)).2 && decide (b.length = 2) && decide ((digitsR (a ++ b)).1 ≤ 9999999999999))
def countR (a : List UInt8) : S57 × Bool := (⟨3, 0, ⟨#[]⟩, (digitsR a).1, 0⟩, (digitsR a).2 && decide ((digitsR a).1 ≤ 1000000000))
def dateR (s : ByteArray) (p : Nat) (e3 e4 : Int) : S57 × Bool × Nat × Int × Int :=
 if (parseS (s.extract p (p + 10))).2.2 ≠ 0 ∨ atP isWd s (p + 10) = true then (⟨0, 0, ⟨#[]⟩, 0, 0⟩, false, p + 10, 44, p)
 else (⟨5, p, ⟨#[]⟩, (parseS (s.extract p (p + 10))).1, 0⟩, true, p + 10, e3, e4)
theorem datedT_lt {s : ByteArray} {p i : Nat} (h : datedT s p i = true) : p + i < s.size := by
 unfold datedT at h
 rcases Nat.lt_or_ge (p + i) s.size with h1 | h1
 ·exact h1
 ·have hn := byte_none s (i := p + i) (by omega)
  split at h <;> · unfold atP at h; rw [hn] at h; cases h
theorem datedGo_at {s : ByteArray} {p : Nat} (d : Nat) : ∀ i, datedGo s p d i = true → ∀ j, i ≤ j → j < i + d → datedT s p j = true := by
 induction d with
 | zero => intro i _ j h1 h2; omega
 | succ d ih =>
  intro i h j h1 h2
  unfold datedGo at h
  split at h
  ·next ht =>
   rcases Nat.lt_or_ge i j with h3 | h3
   ·exact ih (i + 1) h j (by omega) (by omega)
   ·obtain rfl : i = j := by omega
    exact ht
  ·cases h
theorem datedB_le {s : ByteArray} {p : Nat} (h : datedB s p = true) : p + 10 ≤ s.size := by
 have := datedT_lt (datedGo_at 10 0 h 9 (by omega) (by omega))
 omega
def ptB (s : ByteArray) (q : Nat) : Bool := atP (fun b => b.toNat == 46) s q && atP isDg s (q + 1)
def mB (s : ByteArray) (q : Nat) : Nat := if ptB s q then q + 1 + runP isDg s (q + 1) else q
def partB (s : ByteArray) (q : Nat) : ByteArray := if ptB s q then s.extract (q + 1) (q + 1 + runP isDg s (q + 1)) else ⟨#[]⟩
def pcB (s : ByteArray) (m : Nat) : Bool := atP (fun b => b.toNat == 37) s m
def m2B (s : ByteArray) (m : Nat) : Nat := if pcB s m then m + 1 else m
def resR (s : ByteArray) (p : Nat) : S57 × Bool :=
 let q := p + runP isDg s p
 let m := mB s q
 if atP isLu s (m2B s m) = true then (⟨0, 0, ⟨#[]⟩, 0, 0⟩, false)
 else if 1 < runP isDg s p ∧ bt s (p : Int) = 48 then (⟨0, 0, ⟨#[]⟩, 0, 0⟩, false)
 else if pcB s m = true then ratioR (Ls (s.extract p q)) (Ls (partB s q))
 else if ptB s q = true then amountR (Ls (s.extract p q)) (Ls (partB s q))
 else countR (Ls (s.extract p q))
def numR (s : ByteArray) (p : Nat) (e3 e4 : Int) : S57 × Bool × Nat × Int × Int :=
 if (resR s p).2 = true then (⟨(resR s p).1.f0, p, (resR s p).1.f2, (resR s p).1.f3, (resR s p).1.f4⟩, true, m2B s (mB s (p + runP isDg s p)), e3, e4)
 else (⟨0, 0, ⟨#[]⟩, 0, 0⟩, false, m2B s (mB s (p + runP isDg s p)), 42, p)
theorem mB_le {s : ByteArray} {q : Nat} (h : q ≤ s.size) : mB s q ≤ s.size := by
 unfold mB
 split
 ·next hp =>
  unfold ptB at hp
  have h2 := (Bool.and_eq_true _ _).mp hp
  exact runP_le isDg s (q + 1) (by have := (runP_yes h2.2).2; omega)
 ·exact h
theorem run_digits (s : ByteArray) (p : Nat) (hp : p ≤ s.size) : ∀ x ∈ Ls (s.extract p (p + runP isDg s p)), isDg x = true := by
 intro x hx
 have e : Ls (s.extract p (p + runP isDg s p)) = ((Ls s).drop p).takeWhile isDg := by
  show (s.extract p (p + runP isDg s p)).data.toList = _
  rw [ByteArray.data_extract, Array.toList_extract, List.extract_eq_take_drop, Nat.add_sub_cancel_left]
  unfold runP
  exact (List.prefix_iff_eq_take.1 (List.takeWhile_prefix isDg)).symm
 rw [e] at hx
 exact List.all_eq_true.1 List.all_takeWhile x hx
def numU (l : List UInt8) : List Int := l.map fun b => (b.toNat : Int)
def txtR (s : ByteArray) (p : Nat) (e3 e4 : Int) : Nat → Nat → List UInt8 → S57 × Bool × Nat × Int × Int
 | 0, i, _ => (⟨0, 0, ⟨#[]⟩, 0, 0⟩, false, i, 43, p)
 | d + 1, i, acc => match (Ls s)[i]? with
  | none => (⟨0, 0, ⟨#[]⟩, 0, 0⟩, false, i, 43, p)
  | some c =>
   if (c.toNat : Int) = 10 then (⟨0, 0, ⟨#[]⟩, 0, 0⟩, false, i, 43, p)
   else if (c.toNat : Int) = 34 then (if acc.length ≤ 40 then (⟨6, p, strOfNums (numU acc), 0, 0⟩, true, i + 1, e3, e4) else (⟨0, 0, ⟨#[]⟩, 0, 0⟩, false, i + 1, 40, p))
   else if (c.toNat : Int) = 92 then
    match (Ls s)[i + 1]? with
    | none => (⟨0, 0, ⟨#[]⟩, 0, 0⟩, false, i, 43, i)
    | some c2 => if (c2.toNat : Int) = 34 ∨ (c2.toNat : Int) = 92 then txtR s p e3 e4 d (i + 2) (acc ++ [c2]) else (⟨0, 0, ⟨#[]⟩, 0, 0⟩, false, i, 43, i)
   else if (c.toNat : Int) < 32 ∨ 126 < (c.toNat : Int) then (⟨0, 0, ⟨#[]⟩, 0, 0⟩, false, i, 43, i)
   else txtR s p e3 e4 d (i + 1) (acc ++ [c])
def quotedR (s : ByteArray) (p : Nat) (e3 e4 : Int) : S57 × Bool × Nat × Int × Int := txtR s p e3 e4 (s.size + 1) (p + 1) []
section
variable {P : Program} {ops : Array Oper} {rest : List Oper} {o : Oper} {a : Act} {Q : Exit → Act → World → Prop}
end
def signR (s : ByteArray) (p : Nat) (e3 e4 : Int) : S57 × Bool × Nat × Int × Int :=
 if (bt s p = 33 ∨ bt s p = 60 ∨ bt s p = 62) ∧ p + 1 < s.size ∧ bt s ((p + 1 : Nat) : Int) = 61 then (⟨7, p, s.extract p (p + 2), 0, 0⟩, true, p + 2, e3, e4)
 else if bt s p = 33 then (⟨0, 0, ⟨#[]⟩, 0, 0⟩, false, p + 1, 41, p)
 else (⟨7, p, s.extract p (p + 1), 0, 0⟩, true, p + 1, e3, e4)
def skipB (s : ByteArray) (l : Bool) : Nat → Nat → Nat
 | 0, i => i
 | n + 1, i => match (Ls s)[i]? with
  | none => i
  | some c =>
   if (c.toNat : Int) = 32 ∨ (c.toNat : Int) = 9 then skipB s l n (i + 1)
   else if (c.toNat : Int) = 35 then skipB s l n (i + runP (fun b => b.toNat != 10) s i)
   else if (c.toNat : Int) = 10 then (if l then i else skipB s l n (i + 1))
   else i
def numberR (s : ByteArray) (p : Nat) (e3 e4 : Int) : S57 × Bool × Nat × Int × Int := if datedB s p = true then dateR s p e3 e4 else numR s p e3 e4
def wordR (s : ByteArray) (q : Nat) (c : UInt8) (e3 e4 : Int) : S57 × Bool × Nat × Int × Int :=
 if isLt c = true then nameR s q e3 e4
 else if isDg c = true then numberR s q e3 e4
 else if (c.toNat : Int) = 34 then quotedR s q e3 e4
 else if isSg c = true then signR s q e3 e4
 else (⟨0, 0, ⟨#[]⟩, 0, 0⟩, false, q, 41, q)
def lineR (l : Bool) (q : Nat) (e3 e4 : Int) : S57 × Bool × Nat × Bool × Int × Int :=
 if l then (⟨8, q, ⟨#[]⟩, 0, 0⟩, true, q, false, e3, e4) else (⟨0, 0, ⟨#[]⟩, 0, 0⟩, false, q, false, e3, e4)
def nextAt (s : ByteArray) (q : Nat) (l : Bool) (e3 e4 : Int) : S57 × Bool × Nat × Bool × Int × Int :=
 match (Ls s)[q]? with
 | none => lineR l q e3 e4
 | some c => if (c.toNat : Int) = 10 then lineR l q e3 e4 else ((wordR s q c e3 e4).1, (wordR s q c e3 e4).2.1, (wordR s q c e3 e4).2.2.1, true, (wordR s q c e3 e4).2.2.2.1, (wordR s q c e3 e4).2.2.2.2)
def nextR (s : ByteArray) (p : Nat) (l : Bool) (e3 e4 : Int) : S57 × Bool × Nat × Bool × Int × Int := nextAt s (skipB s l (s.size + 1) p) l e3 e4
section
variable {w0 w W : World} {g : Nat} {s : ByteArray} {l : Bool} {e3 e4 : Int}
end
end Go.Proofs.YtjlclkenfmbahaaGreatDoor.PA
end
section
namespace Go.Proofs.YtjlclkenfmbahaaGreatDoor.PA
open Go.RowKit Go.Shelf Go.Proofs.YtjlclkenfmbahaaGreatDoorW.PrintWords Go.Proofs.YtjlclkenfmbahaaGreatDoorW.PrintLast Go.Proofs.YtjlclkenfmbahaaGreatDoorW.PrintMore
structure KeepR (B G n0 : Nat) (W W' : World) : Prop where
 others : ∀ (k : Nat) (o : Obj), B ≤ k → W.heap[k]? = some o → o.isCells = false → W'.heap[k]? = some o
 scan : W'.heap[G]? = W.heap[G]?
 old : Below n0 W W'
theorem KeepR.trans {B G n0 : Nat} {X Y Z : World} (h : KeepR B G n0 X Y) (k : KeepR B G n0 Y Z) : KeepR B G n0 X Z :=
 ⟨fun i o hi ho hc => k.others i o hi (h.others i o hi ho hc) hc, k.scan.trans h.scan, h.old.trans k.old⟩
theorem KeepR.alloc {B G n0 : Nat} (W : World) (o : Obj) (hG : G < W.heap.size) (hn : n0 ≤ W.heap.size) : KeepR B G n0 W (W.alloc o) :=
 ⟨fun k o' _ h _ => (Below.heap_alloc W o k (Array.getElem?_eq_some_iff.1 h).1).trans h, Below.heap_alloc W o G hG, (Below.refl n0 W).alloc hn o⟩
end Go.Proofs.YtjlclkenfmbahaaGreatDoor.PA
end
section
namespace Go.Proofs.YtjlclkenfmbahaaGreatDoor.PA
open Go.RowKit Go.Shelf Go.Proofs.YtjlclkenfmbahaaGreatDoorW.PrintWords Go.Proofs.YtjlclkenfmbahaaGreatDoorW.PrintLast Go.Proofs.YtjlclkenfmbahaaGreatDoorW.PrintMore
attribute [local go_sem] Oper.semAt_some
section
variable {F : Fence} {n : Nat} {P : Program} {ops : Array Oper} {rest : List Oper} {o : Oper} {a : Act} {Q : Exit → Act → World → Prop}
end
end Go.Proofs.YtjlclkenfmbahaaGreatDoor.PA
end
section
namespace Go.Proofs.YtjlclkenfmbahaaGreatDoor.PA
open Go.RowKit Go.Shelf Go.Proofs.YtjlclkenfmbahaaGreatDoorW.PrintWords Go.Proofs.YtjlclkenfmbahaaGreatDoorW.PrintLast Go.Proofs.YtjlclkenfmbahaaGreatDoorW.PrintMore
def NXs (s : ByteArray) (p : Nat) (l : Bool) : Nx := nextR s p l 0 0
def runG (NX : Nat → Bool → Nx) : Nat → Nat → Bool → Option (List S57 × (Nat × Bool × Int × Int))
 | 0, _, _ => none
 | n + 1, p, l =>
  if (NX p l).2.1 = true then
   (if (NX p l).2.2.2.2.1 = 0 ∧ (NX p l).2.2.2.2.2 = 0 then (runG NX n (NX p l).2.2.1 (NX p l).2.2.2.1).bind fun q => some ((NX p l).1 :: q.1, q.2) else none)
  else some ([], (NX p l).2.2)
def words_Scan.f (s : ByteArray) : Option (List S57 × Int × Int) :=
 if 8000 < s.size then some ([], 0, 40)
 else (runG (NXs s) (2 * s.size + 2) 0 false).bind fun q => some (if q.2.2.2.1 = 0 then q.1 else [], if q.2.2.2.1 = 0 then 0 else q.2.2.2.2, q.2.2.2.1)
theorem byte_lt {s : ByteArray} {i : Nat} {b : UInt8} (h : (Ls s)[i]? = some b) : i < s.size := (bt_of s h).2
theorem name_le {s : ByteArray} {p : Nat} (e3 e4 : Int) (h : p ≤ s.size) : (nameR s p e3 e4).2.2.1 ≤ s.size := by
 have := runP_le isWd s p h
 unfold nameR
 split <;> exact this
theorem m2B_le {s : ByteArray} {m : Nat} (h : m ≤ s.size) : m2B s m ≤ s.size := by
 unfold m2B
 split
 ·next hp => have := (runP_yes (p := fun b => b.toNat == 37) hp).2; omega
 ·exact h
theorem number_le {s : ByteArray} {p : Nat} (e3 e4 : Int) (h : p ≤ s.size) : (numberR s p e3 e4).2.2.1 ≤ s.size := by
 unfold numberR
 split
 ·next hd =>
  have := datedB_le hd
  unfold dateR
  split <;> exact this
 ·have := m2B_le (mB_le (runP_le isDg s p h))
  unfold numR
  split <;> exact this
theorem txt_le {s : ByteArray} {p : Nat} (e3 e4 : Int) (d : Nat) : ∀ (i : Nat) (acc : List UInt8), i ≤ s.size → (txtR s p e3 e4 d i acc).2.2.1 ≤ s.size := by
 induction d with
 | zero => intro i acc h; exact h
 | succ d ih =>
  intro i acc h
  unfold txtR
  split
  ·exact h
  ·next c hb =>
   have hlt := byte_lt hb
   split
   ·exact h
   ·split
    ·split <;> exact hlt
    ·split
     ·split
      ·exact h
      ·next c2 hb2 =>
       have hlt2 := byte_lt hb2
       split
       ·exact ih _ _ hlt2
       ·exact h
     ·split
      ·exact h
      ·exact ih _ _ hlt
theorem sign_le {s : ByteArray} {p : Nat} (e3 e4 : Int) (h : p < s.size) : (signR s p e3 e4).2.2.1 ≤ s.size := by
 unfold signR
 split
 ·next h1 => exact h1.2.1
 ·split <;> exact h
theorem word_le {s : ByteArray} {p : Nat} (c : UInt8) (e3 e4 : Int) (h : p < s.size) : (wordR s p c e3 e4).2.2.1 ≤ s.size := by
 unfold wordR
 split
 ·exact name_le e3 e4 (Nat.le_of_lt h)
 ·split
  ·exact number_le e3 e4 (Nat.le_of_lt h)
  ·split
   ·exact txt_le e3 e4 _ _ _ h
   ·split
    ·exact sign_le e3 e4 h
    ·exact Nat.le_of_lt h
theorem skip_le {s : ByteArray} (l : Bool) (n : Nat) : ∀ i, i ≤ s.size → skipB s l n i ≤ s.size := by
 induction n with
 | zero => intro i h; exact h
 | succ n ih =>
  intro i h
  unfold skipB
  split
  ·exact h
  ·next c hb =>
   have hlt := byte_lt hb
   split
   ·exact ih _ hlt
   ·split
    ·exact ih _ (runP_le _ s i h)
    ·split
     ·split
      ·exact h
      ·exact ih _ hlt
     ·exact h
end Go.Proofs.YtjlclkenfmbahaaGreatDoor.PA
end
