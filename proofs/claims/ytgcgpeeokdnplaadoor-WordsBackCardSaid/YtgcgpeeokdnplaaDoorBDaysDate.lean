/- The date of a day: what the printed functions come to. Conditions: each law's own. -/
import Derived.Test.YtgcgpeeokdnplaaDoorBDaysNum
import Derived.Test.YtgcgpeeokdnplaaDoorBPAx0
import Derived.Test.YtgcgpeeokdnplaaDoorBL
namespace Go.Proofs.YtgcgpeeokdnplaaDoor.Days
set_option linter.unusedVariables false
open Go.RowKit Go.Proofs.YtgcgpeeokdnplaaDoorW.PrintWords Go.Proofs.YtgcgpeeokdnplaaDoorW.PrintLast Go.Proofs.YtgcgpeeokdnplaaDoor.PA Go.Proofs.YtgcgpeeokdnplaaDoor.Cal

/-! ### the date of a day -/
theorem date_months {j i : Nat} (hi : i < 12) (hj : j < 300) {n : Int} (h1 : B (12 * j + i) ≤ n) (h2 : n < B (12 * j + i + 1)) (d : Nat) : ∀ i0 : Nat, i = i0 + d →
    Ev (fun k => days_date.l1 k (1900 + (j : Int)) (n - B (12 * j + i0)) ((i0 : Int) + 1)) (1900 + (j : Int), (i : Int) + 1, n - B (12 * j + i) + 1) := by
  have hT := B_top (k := 12 * j + i + 1) (by omega)
  have hBi : B (12 * j + i + 1) = B (12 * j + i) + Cal.len (12 * j + i) := rfl
  induction d with
  | zero =>
    intro i0 he
    obtain rfl : i = i0 := by omega
    have hl : lastD (1900 + (j : Int)) ((i : Int) + 1) = Cal.len (12 * j + i) := (lenE j i (by omega)).symm
    have hB0 := B_nonneg (12 * j + i)
    refine Ev.step (f := fun k => (days_Last.f k (1900 + (j : Int)) ((i : Int) + 1)).bind fun t => if n - B (12 * j + i) < t then some (1900 + (j : Int), (i : Int) + 1, wrap64 (n - B (12 * j + i) + 1)) else days_date.l1 k (1900 + (j : Int)) (wrap64 (n - B (12 * j + i) - t)) (wrap64 ((i : Int) + 1 + 1))) (fun k => by simp only [days_date.l1]) ?_
    refine Ev.bind (last_pE _ _) ?_
    rw [hl]
    refine Ev.congr (f := fun _ => some (1900 + (j : Int), (i : Int) + 1, n - B (12 * j + i) + 1)) (fun k => ?_) (Ev.now _)
    rw [if_pos (by omega), wr (by omega) (by omega)]
  | succ d ih =>
    intro i0 he
    have hl : lastD (1900 + (j : Int)) ((i0 : Int) + 1) = Cal.len (12 * j + i0) := (lenE j i0 (by omega)).symm
    have hB : B (12 * j + (i0 + 1)) = B (12 * j + i0) + Cal.len (12 * j + i0) := rfl
    have hm := B_mono (show 12 * j + (i0 + 1) ≤ 12 * j + i by omega)
    have hB0 := B_nonneg (12 * j + i0)
    have hlb := len_bd (12 * j + i0)
    have := ih (i0 + 1) (by omega)
    refine Ev.step (f := fun k => (days_Last.f k (1900 + (j : Int)) ((i0 : Int) + 1)).bind fun t => if n - B (12 * j + i0) < t then some (1900 + (j : Int), (i0 : Int) + 1, wrap64 (n - B (12 * j + i0) + 1)) else days_date.l1 k (1900 + (j : Int)) (wrap64 (n - B (12 * j + i0) - t)) (wrap64 ((i0 : Int) + 1 + 1))) (fun k => by simp only [days_date.l1]) ?_
    refine Ev.bind (last_pE _ _) ?_
    rw [hl]
    refine Ev.congr (fun k => ?_) this
    rw [if_neg (by omega), wr (by omega) (by omega), wr (x := (i0 : Int) + 1 + 1) (by omega) (by omega)]
    rw [show n - B (12 * j + i0) - Cal.len (12 * j + i0) = n - B (12 * j + (i0 + 1)) by omega, show (i0 : Int) + 1 + 1 = ((i0 + 1 : Nat) : Int) + 1 by omega]

theorem date_years {j i : Nat} (hi : i < 12) (hj : j < 300) {n : Int} (h1 : B (12 * j + i) ≤ n) (h2 : n < B (12 * j + i + 1)) (d : Nat) : ∀ j0 : Nat, j = j0 + d →
    Ev (fun k => days_date.l0 k n (1900 + (j0 : Int))) (1900 + (j : Int), (i : Int) + 1, n - B (12 * j + i) + 1) := by
  have hT := B_top (k := 12 * j + i + 1) (by omega)
  have hB0 := B_nonneg (12 * j + i)
  have hlow : D (1900 + (j : Int)) ≤ n := by rw [← B12]; exact Int.le_trans (B_mono (by omega)) h1
  have hup : n < D (1900 + (j : Int) + 1) := by
    rw [show (1900 : Int) + (j : Int) + 1 = 1900 + ((j + 1 : Nat) : Int) by omega, ← B12]
    exact Int.lt_of_lt_of_le h2 (B_mono (by omega))
  induction d with
  | zero =>
    intro j0 he
    obtain rfl : j = j0 := by omega
    have hj1 : Ev (fun k => days_date.j1 k n (1900 + (j : Int))) (1900 + (j : Int), (i : Int) + 1, n - B (12 * j + i) + 1) := by
      have := date_months hi hj h1 h2 i 0 (by omega)
      rw [show B (12 * j + 0) = D (1900 + (j : Int)) from B12 j] at this
      refine Ev.step (fun k => ?_) this
      simp only [days_date.j1]
      rw [ahead_p (by omega) (by omega)]
      simp only [Option.bind_some]
      have hD := D_bd (show j ≤ 300 by omega)
      rw [wr (by omega) (by omega)]
      simp
    refine Ev.step (fun k => ?_) hj1
    simp only [days_date.l0]
    by_cases h : 1900 + (j : Int) < 2199
    · rw [if_pos h, wr (x := 1900 + (j : Int) + 1) (by omega) (by omega), ahead_p (by omega) (by omega)]
      simp only [Option.bind_some]
      rw [if_neg (by omega)]
    · rw [if_neg h]
  | succ d ih =>
    intro j0 he
    have := ih (j0 + 1) (by omega)
    have hm := D_mono (show j0 + 1 ≤ j by omega)
    refine Ev.step (fun k => ?_) this
    simp only [days_date.l0]
    rw [if_pos (by omega), wr (x := 1900 + (j0 : Int) + 1) (by omega) (by omega), ahead_p (by omega) (by omega)]
    simp only [Option.bind_some]
    rw [show (1900 : Int) + (j0 : Int) + 1 = 1900 + ((j0 + 1 : Nat) : Int) by omega, if_pos (by omega)]

/-- The date of a day in the month number k. -/
def dateS (n : Int) (k : Nat) : Int × Int × Int := (1900 + ((k / 12 : Nat) : Int), ((k % 12 : Nat) : Int) + 1, n - B k + 1)

theorem date_p {n : Int} {k : Nat} (h : Mon n k) : Ev (fun q => days_date.f q n) (dateS n k) := by
  obtain ⟨h0, h1⟩ := h.day
  obtain ⟨hk, hl, hu⟩ := h
  have e : 12 * (k / 12) + k % 12 = k := by omega
  have hg := D_guess (q := n / 366) (by omega)
  have hq : n / 366 ≤ ((k / 12 : Nat) : Int) := by
    refine Classical.byContradiction fun hc => ?_
    have h2 := B_mono (show k + 1 ≤ 12 * (n / 366).toNat by omega)
    rw [B12] at h2
    rw [show (((n / 366).toNat : Nat) : Int) = n / 366 by omega] at h2
    omega
  have := date_years (j := k / 12) (i := k % 12) (by omega) (by omega) (n := n) (by rw [e]; exact hl) (by rw [e]; exact hu) (k / 12 - (n / 366).toNat) (n / 366).toNat (by omega)
  rw [e] at this
  refine Ev.congr (fun q => ?_) this
  unfold days_date.f
  rw [Int.tdiv_eq_ediv_of_nonneg h0, wr (x := n / 366) (by omega) (by omega), wr (by omega) (by omega), show (((n / 366).toNat : Nat) : Int) = n / 366 by omega]

/-! ### days and no days -/
theorem isDay_p (n : Int) : days_isDay.f n = some (decide (0 ≤ n ∧ n ≤ 109572)) := by
  unfold days_isDay.f
  by_cases h : n ≥ 0
  · rw [if_pos h]; simp only [ge_iff_le] at h; simp [h]
  · rw [if_neg h]
    have : ¬ 0 ≤ n := h
    simp [this]
end Go.Proofs.YtgcgpeeokdnplaaDoor.Days
