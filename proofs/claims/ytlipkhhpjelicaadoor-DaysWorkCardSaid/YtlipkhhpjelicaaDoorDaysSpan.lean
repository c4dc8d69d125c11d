/- What the printed Add, Between, Age and Held (the program's and the document's) come to, said by the plain calendar. Conditions: each law's own. -/
import Derived.Test.YtlipkhhpjelicaaDoorCal
import Derived.Test.YtlipkhhpjelicaaDoorDaysEval
import Derived.Test.YtlipkhhpjelicaaDoorPAx0
import Derived.Test.YtlipkhhpjelicaaDoorPAx2
import Derived.Test.YtlipkhhpjelicaaDoorPAx4
import Derived.Test.YtlipkhhpjelicaaDoorPAx5
import Derived.Test.YtlipkhhpjelicaaDoorPAx6
import Derived.Test.YtlipkhhpjelicaaDoorPAx7
import Derived.Test.YtlipkhhpjelicaaDoorPAx10
import Derived.Test.YtlipkhhpjelicaaDoorPAx11
import Derived.Test.YtlipkhhpjelicaaDoorPAx13
import Derived.Test.YtlipkhhpjelicaaDoorPAx23
import Derived.Test.YtlipkhhpjelicaaDoorPAx24
import Derived.Test.YtlipkhhpjelicaaDoorPAx25
import Derived.Test.YtlipkhhpjelicaaDoorPAx26
import Derived.Test.YtlipkhhpjelicaaDoorPAx27
namespace Go.Proofs.YtlipkhhpjelicaaDoor.Days
set_option linter.unusedVariables false
open Go.RowKit Go.Proofs.YtlipkhhpjelicaaDoorW.PrintWords Go.Proofs.YtlipkhhpjelicaaDoorW.PrintLast Go.Proofs.YtlipkhhpjelicaaDoor.PA Go.Proofs.YtlipkhhpjelicaaDoor.Cal

theorem mn_eq (a b : Int) : mn a b = min a b := by unfold mn; omega

/-- The day so many months behind a day n of the month m. -/
def addS (n : Int) (m : Nat) (t : Int) : Int × Int :=
  if t ≤ -3600 ∨ 3600 ≤ t then (0, 21) else if m + t < 0 ∨ 3600 ≤ m + t then (0, 21)
  else (B (m + t).toNat + min (n - B m) (Cal.len (m + t).toNat - 1), 0)

theorem addS_ok {n : Int} {m : Nat} {t : Int} (h1 : -3600 < t) (h2 : t < 3600) (h3 : 0 ≤ m + t) (h4 : m + t < 3600) : addS n m t = (B (m + t).toNat + min (n - B m) (Cal.len (m + t).toNat - 1), 0) := by
  unfold addS; rw [if_neg (by omega), if_neg (by omega)]

/-- The month of the sum is the one that is meant. -/
theorem add_mon {n : Int} {m : Nat} {t : Int} (hn : Mon n m) (h3 : 0 ≤ m + t) (h4 : m + t < 3600) : Mon (B (m + t).toNat + min (n - B m) (Cal.len (m + t).toNat - 1)) (m + t).toNat := by
  have hl := len_bd (m + t).toNat
  have hs : B ((m + t).toNat + 1) = B (m + t).toNat + Cal.len (m + t).toNat := rfl
  have := hn.2.1
  refine ⟨by omega, by omega, by omega⟩

theorem add_p {n : Int} {m : Nat} (hn : Mon n m) (t : Int) : Ev (fun k => days_Add.f k n t) (addS n m t) := by
  have hd := hn.day
  have hm := hn.1
  have hlow := hn.2.1
  unfold addS
  by_cases h1 : t ≤ -3600
  · rw [if_pos (Or.inl h1)]
    exact ev_const fun k => by unfold days_Add.f; rw [isDay_p, decide_eq_true hd]; simp only [Option.bind_some, if_true]; rw [if_pos h1]; simp only [days_Add.j0, if_true]
  · by_cases h2 : 3600 ≤ t
    · rw [if_pos (Or.inr h2)]
      exact ev_const fun k => by unfold days_Add.f; rw [isDay_p, decide_eq_true hd]; simp only [Option.bind_some, if_true]; rw [if_neg h1, decide_eq_true (show t ≥ 3600 from h2)]; simp only [days_Add.j0, if_true]
    · rw [if_neg (by omega)]
      have hw : wrap64 (wrap64 (wrap64 (wrap64 (wrap64 ((dateS n m).1 - 1900) * 12) + (dateS n m).2.1) - 1) + t) = m + t := by
        unfold dateS
        simp only
        rw [wr (x := 1900 + ((m / 12 : Nat) : Int) - 1900) (by omega) (by omega), wr (x := (1900 + ((m / 12 : Nat) : Int) - 1900) * 12) (by omega) (by omega), wr (x := (1900 + ((m / 12 : Nat) : Int) - 1900) * 12 + (((m % 12 : Nat) : Int) + 1)) (by omega) (by omega), wr (x := (1900 + ((m / 12 : Nat) : Int) - 1900) * 12 + (((m % 12 : Nat) : Int) + 1) - 1) (by omega) (by omega), wr (by omega) (by omega)]
        omega
      refine Ev.congr (f := fun k => days_Add.j0 k n t false) (fun k => by unfold days_Add.f; rw [isDay_p, decide_eq_true hd]; simp only [Option.bind_some, if_true]; rw [if_neg h1, decide_eq_false (show ¬ t ≥ 3600 from h2)]) ?_
      refine Ev.step (f := fun k => (days_date.f k n).bind fun b => if wrap64 (wrap64 (wrap64 (wrap64 (wrap64 (b.1 - 1900) * 12) + b.2.1) - 1) + t) < 0 then days_Add.j1 k (wrap64 (wrap64 (wrap64 (wrap64 (wrap64 (b.1 - 1900) * 12) + b.2.1) - 1) + t)) true b.1 b.2.1 b.2.2 else days_Add.j1 k (wrap64 (wrap64 (wrap64 (wrap64 (wrap64 (b.1 - 1900) * 12) + b.2.1) - 1) + t)) (decide (wrap64 (wrap64 (wrap64 (wrap64 (wrap64 (b.1 - 1900) * 12) + b.2.1) - 1) + t) ≥ 3600)) b.1 b.2.1 b.2.2) (fun k => by simp only [days_Add.j0]; rw [if_neg (by simp)]) ?_
      refine Ev.bind (date_p hn) ?_
      rw [hw]
      by_cases h3 : m + t < 0
      · rw [if_pos (Or.inl h3)]
        exact ev_const fun k => by rw [if_pos h3]; simp only [days_Add.j1, if_true]
      · by_cases h4 : 3600 ≤ m + t
        · rw [if_pos (Or.inr h4)]
          exact ev_const fun k => by rw [if_neg h3, decide_eq_true (show (m : Int) + t ≥ 3600 from h4)]; simp only [days_Add.j1, if_true]
        · rw [if_neg (by omega)]
          refine Ev.congr (f := fun k => days_Add.j1 k (m + t) false (dateS n m).1 (dateS n m).2.1 (dateS n m).2.2) (fun k => by rw [if_neg h3, decide_eq_false (show ¬ (m : Int) + t ≥ 3600 from h4)]) ?_
          obtain ⟨q, hq⟩ : ∃ q : Nat, (m : Int) + t = q := ⟨(m + t).toNat, by omega⟩
          rw [hq, Int.toNat_natCast]
          have hql := len_bd q
          refine Ev.step (f := fun k => (days_Last.f k (1900 + ((q / 12 : Nat) : Int)) (((q % 12 : Nat) : Int) + 1)).bind fun l => (days_Number.f k (1900 + ((q / 12 : Nat) : Int)) (((q % 12 : Nat) : Int) + 1) (mn (dateS n m).2.2 l)).bind fun b => some (b.1, b.2)) (fun k => ?_) ?_
          · simp only [days_Add.j1]
            rw [if_neg (by simp), Int.tdiv_eq_ediv_of_nonneg (by omega), Int.tmod_eq_emod_of_nonneg (by omega), wr (x := (q : Int) / 12) (by omega) (by omega), wr (x := 1900 + (q : Int) / 12) (by omega) (by omega), wr (x := (q : Int) % 12 + 1) (by omega) (by omega)]
            rfl
          · refine Ev.bind (last_pE _ _) ?_
            refine Ev.bind (number_p _ _ _) ?_
            have hl : lastD (1900 + ((q / 12 : Nat) : Int)) (((q % 12 : Nat) : Int) + 1) = Cal.len q := rfl
            rw [hl, mn_eq]
            rw [numS_ok (by omega) (by unfold dateS; simp only; omega) (by omega)]
            refine Ev.congr (fun k => ?_) (Ev.now _)
            unfold dateS
            simp only [Option.some.injEq, Prod.mk.injEq, and_true]
            omega

theorem add_no {n : Int} (h : ¬ (0 ≤ n ∧ n ≤ 109572)) (t : Int) : Ev (fun k => days_Add.f k n t) (0, 21) :=
  ev_const fun k => by unfold days_Add.f; rw [isDay_p, decide_eq_false h]; simp [days_Add.j0]

theorem radd_p {n : Int} {m : Nat} (hn : Mon n m) (t : Int) : Ev (fun k => levyref2_Add.f k n t) (addS n m t) := by
  have hd := hn.day
  have hm := hn.1
  have hlow := hn.2.1
  have hB := B_nonneg m
  unfold addS
  by_cases h1 : t ≤ -3600
  · rw [if_pos (Or.inl h1)]
    exact ev_const fun k => by unfold levyref2_Add.f; rw [is_r, decide_eq_true hd]; simp only [Option.bind_some, if_true]; rw [if_pos h1]; simp only [levyref2_Add.j0, if_true]
  · by_cases h2 : 3600 ≤ t
    · rw [if_pos (Or.inr h2)]
      exact ev_const fun k => by unfold levyref2_Add.f; rw [is_r, decide_eq_true hd]; simp only [Option.bind_some, if_true]; rw [if_neg h1, decide_eq_true (show t ≥ 3600 from h2)]; simp only [levyref2_Add.j0, if_true]
    · rw [if_neg (by omega)]
      refine Ev.congr (f := fun k => levyref2_Add.j0 k n t false) (fun k => by unfold levyref2_Add.f; rw [is_r, decide_eq_true hd]; simp only [Option.bind_some, if_true]; rw [if_neg h1, decide_eq_false (show ¬ t ≥ 3600 from h2)]) ?_
      refine Ev.step (f := fun k => (levyref2_month.f k n).bind fun b => if wrap64 (b.1 + t) < 0 then levyref2_Add.j1 k (wrap64 (b.1 + t)) b.2 true else levyref2_Add.j1 k (wrap64 (b.1 + t)) b.2 (decide (wrap64 (b.1 + t) ≥ 3600))) (fun k => by simp only [levyref2_Add.j0]; rw [if_neg (by simp)]) ?_
      refine Ev.bind (month_r hn) ?_
      rw [wr (x := (m : Int) + t) (by omega) (by omega)]
      by_cases h3 : m + t < 0
      · rw [if_pos (Or.inl h3)]
        exact ev_const fun k => by rw [if_pos h3]; simp only [levyref2_Add.j1, if_true]
      · by_cases h4 : 3600 ≤ m + t
        · rw [if_pos (Or.inr h4)]
          exact ev_const fun k => by rw [if_neg h3, decide_eq_true (show (m : Int) + t ≥ 3600 from h4)]; simp only [levyref2_Add.j1, if_true]
        · rw [if_neg (by omega)]
          refine Ev.congr (f := fun k => levyref2_Add.j1 k (m + t) (n - B m) false) (fun k => by rw [if_neg h3, decide_eq_false (show ¬ (m : Int) + t ≥ 3600 from h4)]) ?_
          obtain ⟨q, hq⟩ : ∃ q : Nat, (m : Int) + t = q := ⟨(m + t).toNat, by omega⟩
          rw [hq, Int.toNat_natCast]
          have hql := len_bd q
          have hs : B (q + 1) = B q + Cal.len q := rfl
          have hBq := B_nonneg q
          have hTq := B_top (k := q + 1) (by omega)
          refine Ev.step (f := fun k => (levyref2_begins.f k (q : Int)).bind fun b => (levyref2_begins.f k ((q + 1 : Nat) : Int)).bind fun e => if wrap64 (b + (n - B m)) ≥ e then some (wrap64 (e - 1), 0) else some (wrap64 (b + (n - B m)), 0)) (fun k => ?_) ?_
          · simp only [levyref2_Add.j1]
            rw [if_neg (by simp), wr (x := (q : Int) + 1) (by omega) (by omega)]
            rfl
          · refine Ev.bind (begins_r (by omega)) (Ev.bind (begins_r (by omega)) ?_)
            refine Ev.congr (fun k => ?_) (Ev.now _)
            rw [wr (x := B q + (n - B m)) (by omega) (by omega), wr (x := B (q + 1) - 1) (by omega) (by omega)]
            split
            · simp only [Option.some.injEq, Prod.mk.injEq, and_true]; omega
            · simp only [Option.some.injEq, Prod.mk.injEq, and_true]; omega

theorem radd_no {n : Int} (h : ¬ (0 ≤ n ∧ n ≤ 109572)) (t : Int) : Ev (fun k => levyref2_Add.f k n t) (0, 21) :=
  ev_const fun k => by unfold levyref2_Add.f; rw [is_r, decide_eq_false h]; simp [levyref2_Add.j0]

/-! ### Between -/
/-- Whole months from a (of the month p) to b (of the month q), b not below a. -/
def bet0 (a : Int) (p : Nat) (b : Int) (q : Nat) : Int := if B q + min (a - B p) (Cal.len q - 1) > b then (q : Int) - p - 1 else (q : Int) - p
def betS (a : Int) (p : Nat) (b : Int) (q : Nat) : Int := if b < a then -(bet0 b q a p) else bet0 a p b q

theorem bet0_bd {a : Int} {p : Nat} {b : Int} {q : Nat} (ha : Mon a p) (hb : Mon b q) (h : a ≤ b) : 0 ≤ bet0 a p b q ∧ bet0 a p b q ≤ 3600 := by
  have hle := mon_le ha hb h
  have hp := ha.1
  have hq := hb.1
  have hl := ha.len
  unfold bet0
  split
  · rename_i hc
    by_cases e : p = q
    · subst e
      have := len_bd p
      omega
    · omega
  · omega

theorem between_fwd {a : Int} {p : Nat} {b : Int} {q : Nat} (ha : Mon a p) (hb : Mon b q) (h : ¬ b < a) : Ev (fun k => days_Between.f k a b) (bet0 a p b q, 0) := by
  have hda := ha.day
  have hdb := hb.day
  have hle := mon_le ha hb (by omega)
  have hp := ha.1
  have hq := hb.1
  refine Ev.step (f := fun k => days_Between.j0 k a b false) (fun k => by simp only [days_Between.f]; rw [isDay_p, isDay_p, decide_eq_true hda, decide_eq_true hdb]; simp only [Option.bind_some, if_true, Bool.not_true]) ?_
  refine Ev.step (f := fun k => (days_date.f k a).bind fun x => (days_date.f k b).bind fun y => (days_Add.f k a (wrap64 (wrap64 (wrap64 (wrap64 (y.1 - x.1) * 12) + y.2.1) - x.2.1))).bind fun r => if r.2 = 0 then (if r.1 > b then some (wrap64 (wrap64 (wrap64 (wrap64 (wrap64 (y.1 - x.1) * 12) + y.2.1) - x.2.1) - 1), 0) else some (wrap64 (wrap64 (wrap64 (wrap64 (y.1 - x.1) * 12) + y.2.1) - x.2.1), 0)) else some (wrap64 (wrap64 (wrap64 (wrap64 (wrap64 (y.1 - x.1) * 12) + y.2.1) - x.2.1) - 1), 0)) (fun k => by simp only [days_Between.j0]; rw [if_neg (by simp), if_neg h]) ?_
  refine Ev.bind (date_p ha) (Ev.bind (date_p hb) ?_)
  have hw : wrap64 (wrap64 (wrap64 (wrap64 ((dateS b q).1 - (dateS a p).1) * 12) + (dateS b q).2.1) - (dateS a p).2.1) = (q : Int) - p := by
    unfold dateS
    simp only
    rw [wr (x := 1900 + ((q / 12 : Nat) : Int) - (1900 + ((p / 12 : Nat) : Int))) (by omega) (by omega), wr (x := (1900 + ((q / 12 : Nat) : Int) - (1900 + ((p / 12 : Nat) : Int))) * 12) (by omega) (by omega), wr (x := (1900 + ((q / 12 : Nat) : Int) - (1900 + ((p / 12 : Nat) : Int))) * 12 + (((q % 12 : Nat) : Int) + 1)) (by omega) (by omega), wr (by omega) (by omega)]
    omega
  rw [hw]
  refine Ev.bind (add_p ha _) ?_
  rw [addS_ok (by omega) (by omega) (by omega) (by omega), show ((p : Int) + ((q : Int) - p)).toNat = q by omega]
  refine Ev.congr (fun k => ?_) (Ev.now _)
  rw [if_pos rfl]
  unfold bet0
  split
  · rw [wr (by omega) (by omega)]
  · rfl

theorem between_p {a : Int} {p : Nat} {b : Int} {q : Nat} (ha : Mon a p) (hb : Mon b q) : Ev (fun k => days_Between.f k a b) (betS a p b q, 0) := by
  have hda := ha.day
  have hdb := hb.day
  unfold betS
  by_cases h : b < a
  · rw [if_pos h]
    have hbd := bet0_bd hb ha (by omega)
    refine Ev.step (f := fun k => days_Between.j0 k a b false) (fun k => by simp only [days_Between.f]; rw [isDay_p, isDay_p, decide_eq_true hda, decide_eq_true hdb]; simp only [Option.bind_some, if_true, Bool.not_true]) ?_
    refine Ev.step (f := fun k => (days_Between.f k b a).bind fun x => some (wrap64 (-x.1), x.2)) (fun k => by simp only [days_Between.j0]; rw [if_neg (by simp), if_pos h]) ?_
    refine Ev.bind (between_fwd hb ha (by omega)) ?_
    rw [wr (by omega) (by omega)]
    exact Ev.now _
  · rw [if_neg h]
    exact between_fwd ha hb h

theorem between_no {a b : Int} (h : ¬ ((0 ≤ a ∧ a ≤ 109572) ∧ (0 ≤ b ∧ b ≤ 109572))) : Ev (fun k => days_Between.f k a b) (0, 21) := by
  by_cases ha : 0 ≤ a ∧ a ≤ 109572
  · have hb : ¬ (0 ≤ b ∧ b ≤ 109572) := fun e => h ⟨ha, e⟩
    refine Ev.step (f := fun k => days_Between.j0 k a b true) (fun k => by simp only [days_Between.f]; rw [isDay_p, isDay_p, decide_eq_true ha, decide_eq_false hb]; simp only [Option.bind_some, if_true, Bool.not_false]) ?_
    exact ev_const fun k => by simp only [days_Between.j0, if_true]
  · refine Ev.step (f := fun k => days_Between.j0 k a b true) (fun k => by simp only [days_Between.f]; rw [isDay_p, decide_eq_false ha]; simp) ?_
    exact ev_const fun k => by simp only [days_Between.j0, if_true]

theorem rbetween_fwd {a : Int} {p : Nat} {b : Int} {q : Nat} (ha : Mon a p) (hb : Mon b q) (h : ¬ b < a) : Ev (fun k => levyref2_Between.f k a b) (bet0 a p b q, 0) := by
  have hda := ha.day
  have hdb := hb.day
  have hle := mon_le ha hb (by omega)
  have hp := ha.1
  have hq := hb.1
  refine Ev.step (f := fun k => levyref2_Between.j0 k a b false) (fun k => by simp only [levyref2_Between.f]; rw [is_r, is_r, decide_eq_true hda, decide_eq_true hdb]; simp only [Option.bind_some, if_true, Bool.not_true]) ?_
  refine Ev.step (f := fun k => (levyref2_month.f k a).bind fun x => (levyref2_month.f k b).bind fun y => (levyref2_Add.f k a (wrap64 (y.1 - x.1))).bind fun r => if r.2 = 0 then (if r.1 > b then some (wrap64 (wrap64 (y.1 - x.1) - 1), 0) else some (wrap64 (y.1 - x.1), 0)) else some (wrap64 (wrap64 (y.1 - x.1) - 1), 0)) (fun k => by simp only [levyref2_Between.j0]; rw [if_neg (by simp), if_neg h]) ?_
  refine Ev.bind (month_r ha) (Ev.bind (month_r hb) ?_)
  rw [wr (x := (q : Int) - p) (by omega) (by omega)]
  refine Ev.bind (radd_p ha _) ?_
  rw [addS_ok (by omega) (by omega) (by omega) (by omega), show ((p : Int) + ((q : Int) - p)).toNat = q by omega]
  refine Ev.congr (fun k => ?_) (Ev.now _)
  rw [if_pos rfl]
  unfold bet0
  split
  · rw [wr (by omega) (by omega)]
  · rfl

theorem rbetween_p {a : Int} {p : Nat} {b : Int} {q : Nat} (ha : Mon a p) (hb : Mon b q) : Ev (fun k => levyref2_Between.f k a b) (betS a p b q, 0) := by
  have hda := ha.day
  have hdb := hb.day
  unfold betS
  by_cases h : b < a
  · rw [if_pos h]
    have hbd := bet0_bd hb ha (by omega)
    refine Ev.step (f := fun k => levyref2_Between.j0 k a b false) (fun k => by simp only [levyref2_Between.f]; rw [is_r, is_r, decide_eq_true hda, decide_eq_true hdb]; simp only [Option.bind_some, if_true, Bool.not_true]) ?_
    refine Ev.step (f := fun k => (levyref2_Between.f k b a).bind fun x => some (wrap64 (-x.1), x.2)) (fun k => by simp only [levyref2_Between.j0]; rw [if_neg (by simp), if_pos h]) ?_
    refine Ev.bind (rbetween_fwd hb ha (by omega)) ?_
    rw [wr (by omega) (by omega)]
    exact Ev.now _
  · rw [if_neg h]
    exact rbetween_fwd ha hb h

theorem rbetween_no {a b : Int} (h : ¬ ((0 ≤ a ∧ a ≤ 109572) ∧ (0 ≤ b ∧ b ≤ 109572))) : Ev (fun k => levyref2_Between.f k a b) (0, 21) := by
  by_cases ha : 0 ≤ a ∧ a ≤ 109572
  · have hb : ¬ (0 ≤ b ∧ b ≤ 109572) := fun e => h ⟨ha, e⟩
    refine Ev.step (f := fun k => levyref2_Between.j0 k a b true) (fun k => by simp only [levyref2_Between.f]; rw [is_r, is_r, decide_eq_true ha, decide_eq_false hb]; simp only [Option.bind_some, if_true, Bool.not_false]) ?_
    exact ev_const fun k => by simp only [levyref2_Between.j0, if_true]
  · refine Ev.step (f := fun k => levyref2_Between.j0 k a b true) (fun k => by simp only [levyref2_Between.f]; rw [is_r, is_r, decide_eq_false ha]; simp) ?_
    exact ev_const fun k => by simp only [levyref2_Between.j0, if_true]

/-! ### Held -/
def heldS (a : Int) (p : Nat) (b : Int) : Bool × Int := if b < a then (false, 23) else if (addS a p 12).2 = 0 then (decide (b > (addS a p 12).1), 0) else (false, 0)

theorem held_p {a : Int} {p : Nat} {b : Int} (ha : Mon a p) (hdb : 0 ≤ b ∧ b ≤ 109572) : Ev (fun k => days_Held.f k a b) (heldS a p b) := by
  have hda := ha.day
  unfold heldS
  refine Ev.congr (f := fun k => days_Held.j0 k a b false) (fun k => by unfold days_Held.f; rw [isDay_p, isDay_p, decide_eq_true hda, decide_eq_true hdb]; simp only [Option.bind_some, if_true, Bool.not_true]) ?_
  by_cases h : b < a
  · rw [if_pos h]
    exact ev_const fun k => by simp only [days_Held.j0]; rw [if_neg (by simp), if_pos h]
  · rw [if_neg h]
    refine Ev.step (f := fun k => (days_Add.f k a 12).bind fun r => if r.2 = 0 then some (decide (b > r.1), 0) else some (false, 0)) (fun k => by simp only [days_Held.j0]; rw [if_neg (by simp), if_neg h]) ?_
    refine Ev.bind (add_p ha 12) ?_
    refine Ev.congr (fun k => ?_) (Ev.now _)
    split <;> rfl
theorem held_no {a b : Int} (h : ¬ ((0 ≤ a ∧ a ≤ 109572) ∧ (0 ≤ b ∧ b ≤ 109572))) : Ev (fun k => days_Held.f k a b) (false, 21) := by
  by_cases ha : 0 ≤ a ∧ a ≤ 109572
  · have hb : ¬ (0 ≤ b ∧ b ≤ 109572) := fun e => h ⟨ha, e⟩
    exact ev_const fun k => by unfold days_Held.f; rw [isDay_p, isDay_p, decide_eq_true ha, decide_eq_false hb]; simp [days_Held.j0]
  · exact ev_const fun k => by unfold days_Held.f; rw [isDay_p, decide_eq_false ha]; simp [days_Held.j0]
theorem rheld_p {a : Int} {p : Nat} {b : Int} (ha : Mon a p) (hdb : 0 ≤ b ∧ b ≤ 109572) : Ev (fun k => levyref2_Held.f k a b) (heldS a p b) := by
  have hda := ha.day
  unfold heldS
  refine Ev.congr (f := fun k => levyref2_Held.j0 k a b false) (fun k => by unfold levyref2_Held.f; rw [is_r, is_r, decide_eq_true hda, decide_eq_true hdb]; simp only [Option.bind_some, if_true, Bool.not_true]) ?_
  by_cases h : b < a
  · rw [if_pos h]
    exact ev_const fun k => by simp only [levyref2_Held.j0]; rw [if_neg (by simp), if_pos h]
  · rw [if_neg h]
    refine Ev.step (f := fun k => (levyref2_Add.f k a 12).bind fun r => if r.2 = 0 then some (decide (b > r.1), 0) else some (false, 0)) (fun k => by simp only [levyref2_Held.j0]; rw [if_neg (by simp), if_neg h]) ?_
    refine Ev.bind (radd_p ha 12) ?_
    refine Ev.congr (fun k => ?_) (Ev.now _)
    split <;> rfl
theorem rheld_no {a b : Int} (h : ¬ ((0 ≤ a ∧ a ≤ 109572) ∧ (0 ≤ b ∧ b ≤ 109572))) : Ev (fun k => levyref2_Held.f k a b) (false, 21) := by
  by_cases ha : 0 ≤ a ∧ a ≤ 109572
  · have hb : ¬ (0 ≤ b ∧ b ≤ 109572) := fun e => h ⟨ha, e⟩
    exact ev_const fun k => by unfold levyref2_Held.f; rw [is_r, is_r, decide_eq_true ha, decide_eq_false hb]; simp [levyref2_Held.j0]
  · exact ev_const fun k => by unfold levyref2_Held.f; rw [is_r, is_r, decide_eq_false ha]; simp [levyref2_Held.j0]

/-! ### Age -/
/-- Whole years: the years' difference, less one where the birthday is still to come. -/
def ageS (a : Int) (p : Nat) (b : Int) (q : Nat) : Int :=
  if q % 12 < p % 12 ∨ (q % 12 = p % 12 ∧ b - B q < a - B p) then ((q / 12 : Nat) : Int) - ((p / 12 : Nat) : Int) - 1 else ((q / 12 : Nat) : Int) - ((p / 12 : Nat) : Int)

theorem age_p {a : Int} {p : Nat} {b : Int} {q : Nat} (ha : Mon a p) (hb : Mon b q) (h : a ≤ b) : Ev (fun k => days_Age.f k a b) (ageS a p b q, 0) := by
  have hda := ha.day
  have hdb := hb.day
  have hp := ha.1
  have hq := hb.1
  have hle := mon_le ha hb h
  refine Ev.congr (f := fun k => days_Age.j0 k a b false) (fun k => by unfold days_Age.f; rw [isDay_p, isDay_p, decide_eq_true hda, decide_eq_true hdb]; simp only [Option.bind_some, if_true, Bool.not_true]) ?_
  refine Ev.step (f := fun k => (days_date.f k a).bind fun x => (days_date.f k b).bind fun y => if y.2.1 < x.2.1 then some (wrap64 (wrap64 (y.1 - x.1) - 1), 0) else if y.2.1 = x.2.1 then (if y.2.2 < x.2.2 then some (wrap64 (wrap64 (y.1 - x.1) - 1), 0) else some (wrap64 (y.1 - x.1), 0)) else some (wrap64 (y.1 - x.1), 0)) (fun k => by simp only [days_Age.j0]; rw [if_neg (by simp), if_neg (by omega)]) ?_
  refine Ev.bind (date_p ha) (Ev.bind (date_p hb) ?_)
  refine Ev.congr (fun k => ?_) (Ev.now _)
  unfold dateS ageS
  simp only
  rw [wr (x := 1900 + ((q / 12 : Nat) : Int) - (1900 + ((p / 12 : Nat) : Int))) (by omega) (by omega), wr (x := 1900 + ((q / 12 : Nat) : Int) - (1900 + ((p / 12 : Nat) : Int)) - 1) (by omega) (by omega)]
  by_cases c1 : q % 12 < p % 12
  · rw [if_pos (by omega), if_pos (Or.inl c1)]
    simp only [Option.some.injEq, Prod.mk.injEq, and_true]; omega
  · rw [if_neg (by omega)]
    by_cases c2 : q % 12 = p % 12
    · rw [if_pos (by omega)]
      by_cases c3 : b - B q < a - B p
      · rw [if_pos (by omega), if_pos (Or.inr ⟨c2, c3⟩)]
        simp only [Option.some.injEq, Prod.mk.injEq, and_true]; omega
      · rw [if_neg (by omega), if_neg (by omega)]
        simp only [Option.some.injEq, Prod.mk.injEq, and_true]; omega
    · rw [if_neg (by omega), if_neg (by omega)]
      simp only [Option.some.injEq, Prod.mk.injEq, and_true]; omega

theorem age_ord {a b : Int} (ha : 0 ≤ a ∧ a ≤ 109572) (hb : 0 ≤ b ∧ b ≤ 109572) (h : b < a) : Ev (fun k => days_Age.f k a b) (0, 23) :=
  ev_const fun k => by unfold days_Age.f; rw [isDay_p, isDay_p, decide_eq_true ha, decide_eq_true hb]; simp only [Option.bind_some, if_true, Bool.not_true, days_Age.j0]; rw [if_neg (by simp), if_pos h]
theorem age_no {a b : Int} (h : ¬ ((0 ≤ a ∧ a ≤ 109572) ∧ (0 ≤ b ∧ b ≤ 109572))) : Ev (fun k => days_Age.f k a b) (0, 21) := by
  by_cases ha : 0 ≤ a ∧ a ≤ 109572
  · have hb : ¬ (0 ≤ b ∧ b ≤ 109572) := fun e => h ⟨ha, e⟩
    exact ev_const fun k => by unfold days_Age.f; rw [isDay_p, isDay_p, decide_eq_true ha, decide_eq_false hb]; simp [days_Age.j0]
  · exact ev_const fun k => by unfold days_Age.f; rw [isDay_p, decide_eq_false ha]; simp [days_Age.j0]

theorem lastD_other {y y' m : Int} (h : ¬ m = 2) : lastD y m = lastD y' m := by unfold lastD; rw [if_neg h, if_neg h]

/-- The birthday in the year 1900 + y of who is born on the day d + 1 of the month i + 1. -/
theorem birthday {y i : Nat} (hy : y < 300) (hi : i < 12) {d : Int} (h0 : 1 ≤ d) (h1 : d ≤ 31) (hd : i = 1 → d ≤ 29) (hd2 : i ≠ 1 → d ≤ lastD 1900 ((i : Int) + 1)) :
    (numS (1900 + (y : Int)) ((i : Int) + 1) d = (B (12 * y + i) + d - 1, 0) ∧ d ≤ Cal.len (12 * y + i)) ∨ (i = 1 ∧ d = 29 ∧ Cal.len (12 * y + 1) = 28 ∧ (numS (1900 + (y : Int)) ((i : Int) + 1) d).2 ≠ 0 ∧ numS (1900 + (y : Int)) 3 1 = (B (12 * y + 2), 0)) := by
  have hlen : lastD (1900 + (y : Int)) ((i : Int) + 1) = Cal.len (12 * y + i) := (lenE y i hi).symm
  by_cases hc : d ≤ Cal.len (12 * y + i)
  · left
    have := numS_ok (q := 12 * y + i) (by omega) h0 hc
    rw [show (12 * y + i) / 12 = y by omega, show (12 * y + i) % 12 = i by omega] at this
    exact ⟨this, hc⟩
  · right
    have hi1 : i = 1 := by
      refine Classical.byContradiction fun hne => ?_
      have h2 := hd2 hne
      rw [← hlen] at hc
      have : lastD (1900 + (y : Int)) ((i : Int) + 1) = lastD 1900 ((i : Int) + 1) := lastD_other (by omega)
      omega
    subst hi1
    have hlb := len_bd (12 * y + 1)
    have h29 := hd rfl
    refine ⟨rfl, by omega, by omega, ?_, ?_⟩
    · unfold numS
      rw [hlen, if_pos (by omega)]
      simp
    · have := numS_ok (q := 12 * y + 2) (by omega) (d := 1) (by omega) (by have := len_bd (12 * y + 2); omega)
      rw [show (12 * y + 2) / 12 = y by omega, show (12 * y + 2) % 12 = 2 by omega] at this
      rw [show B (12 * y + 2) = B (12 * y + 2) + 1 - 1 by omega]
      exact this

theorem rage_loop {a : Int} {p : Nat} {b : Int} {q : Nat} (ha : Mon a p) (hb : Mon b q) (h : a ≤ b) (d : Nat) : ∀ y : Nat, 300 = y + d → p / 12 < y → y ≤ q / 12 + 1 → (y = q / 12 + 1 → ageS a p b q = ((q / 12 : Nat) : Int) - ((p / 12 : Nat) : Int)) →
    Ev (fun k => levyref2_Age.l0 k b (((p % 12 : Nat) : Int) + 1) (a - B p + 1) ((y : Int) - 1 - ((p / 12 : Nat) : Int)) (1900 + (y : Int))) (ageS a p b q, 0) := by
  have hp := ha.1
  have hq := hb.1
  have hla := ha.len
  have hlow := ha.2.1
  have hlb := hb.len
  have hblow := hb.2.1
  have hlp := len_bd p
  have hlq := len_bd q
  have hpe : Cal.len p = lastD (1900 + ((p / 12 : Nat) : Int)) (((p % 12 : Nat) : Int) + 1) := rfl
  induction d with
  | zero =>
    intro y he h1 h2 h3
    have hy : y = q / 12 + 1 := by omega
    refine ev_const fun k => ?_
    simp only [levyref2_Age.l0]
    rw [if_neg (by omega), h3 hy]
    simp only [Option.some.injEq, Prod.mk.injEq, and_true]; omega
  | succ d ih =>
    intro y he h1 h2 h3
    have hb0 := birthday (y := y) (i := p % 12) (by omega) (by omega) (d := a - B p + 1) (by omega) (by omega)
      (fun e => by
        have : Cal.len p ≤ 29 := by
          rw [hpe, e]; unfold lastD
          rw [if_neg (by omega), if_pos (by omega)]
          split <;> omega
        omega)
      (fun e => by
        have : Cal.len p = lastD 1900 (((p % 12 : Nat) : Int) + 1) := by rw [hpe]; exact lastD_other (by omega)
        omega)
    -- is the birthday of this year behind b?
    have key : ∀ x : Int, ((x = B (12 * y + p % 12) + (a - B p) ∧ a - B p < Cal.len (12 * y + p % 12)) ∨ (p % 12 = 1 ∧ a - B p = 28 ∧ Cal.len (12 * y + 1) = 28 ∧ x = B (12 * y + 2))) → (x > b ↔ (y = q / 12 + 1 ∨ (y = q / 12 ∧ (q % 12 < p % 12 ∨ (q % 12 = p % 12 ∧ b - B q < a - B p))))) := by
      intro x hx
      have hq12 : 12 * (q / 12) + q % 12 = q := by omega
      by_cases hy : y = q / 12 + 1
      · have m1 := B_mono (show q + 1 ≤ 12 * y + p % 12 by omega)
        have m2 := B_mono (show q + 1 ≤ 12 * y + 2 by omega)
        have := hb.2.2
        have hg : x > b := by rcases hx with ⟨hx, _⟩ | ⟨_, _, _, hx⟩ <;> omega
        exact ⟨fun _ => Or.inl hy, fun _ => hg⟩
      · by_cases hy2 : y = q / 12
        · have hqy : q = 12 * y + q % 12 := by omega
          have hqB : B (q + 1) = B q + Cal.len q := rfl
          by_cases c1 : q % 12 < p % 12
          · have m1 := B_mono (show q + 1 ≤ 12 * y + p % 12 by omega)
            have := hb.2.2
            refine ⟨fun _ => Or.inr ⟨hy2, Or.inl c1⟩, fun _ => ?_⟩
            rcases hx with ⟨hx, _⟩ | ⟨h1, _, _, hx⟩
            · omega
            · have := B_mono (show q + 1 ≤ 12 * y + 2 by omega)
              omega
          · by_cases c2 : q % 12 = p % 12
            · have hqp : 12 * y + p % 12 = q := by omega
              rcases hx with ⟨hx, _⟩ | ⟨h1, h28, hl28, hx⟩
              · rw [hqp] at hx
                constructor
                · intro hg; exact Or.inr ⟨hy2, Or.inr ⟨c2, by omega⟩⟩
                · rintro (e | ⟨_, e | ⟨_, e⟩⟩) <;> omega
              · have hq1 : 12 * y + 1 = q := by omega
                have hB2 : B (12 * y + 2) = B (12 * y + 1) + Cal.len (12 * y + 1) := rfl
                rw [hq1] at hB2 hl28
                constructor
                · intro hg; exact Or.inr ⟨hy2, Or.inr ⟨c2, by omega⟩⟩
                · rintro (e | ⟨_, e | ⟨_, e⟩⟩) <;> omega
            · have hlt : p % 12 < q % 12 := by omega
              have m1 := B_mono (show 12 * y + p % 12 + 1 ≤ q by omega)
              have hs : B (12 * y + p % 12 + 1) = B (12 * y + p % 12) + Cal.len (12 * y + p % 12) := rfl
              constructor
              · intro hg
                exfalso
                rcases hx with ⟨hx, hv⟩ | ⟨h1, h28, hl28, hx⟩
                · omega
                · have m2 := B_mono (show 12 * y + 2 ≤ q by omega)
                  omega
              · rintro (e | ⟨_, e | ⟨e, _⟩⟩) <;> omega
        · have hylt : y < q / 12 := by omega
          have m1 := B_mono (show 12 * y + p % 12 + 1 ≤ q by omega)
          have m2 := B_mono (show 12 * y + 2 ≤ q by omega)
          have hs : B (12 * y + p % 12 + 1) = B (12 * y + p % 12) + Cal.len (12 * y + p % 12) := rfl
          have hll := len_bd (12 * y + p % 12)
          constructor
          · intro hg
            exfalso
            rcases hx with ⟨hx, hv⟩ | ⟨_, _, _, hx⟩ <;> omega
          · rintro (e | ⟨e, _⟩) <;> omega
    have hage : ∀ x : Int, (x > b ↔ (y = q / 12 + 1 ∨ (y = q / 12 ∧ (q % 12 < p % 12 ∨ (q % 12 = p % 12 ∧ b - B q < a - B p))))) → x > b → ageS a p b q = (y : Int) - 1 - ((p / 12 : Nat) : Int) := by
      intro x hx hg
      rcases hx.1 hg with e | ⟨e, hc⟩
      · rw [h3 e]; omega
      · unfold ageS; rw [if_pos hc]; omega
    have hnext : ∀ x : Int, (x > b ↔ (y = q / 12 + 1 ∨ (y = q / 12 ∧ (q % 12 < p % 12 ∨ (q % 12 = p % 12 ∧ b - B q < a - B p))))) → ¬ x > b → Ev (fun k => levyref2_Age.l0 k b (((p % 12 : Nat) : Int) + 1) (a - B p + 1) (wrap64 ((y : Int) - 1 - ((p / 12 : Nat) : Int) + 1)) (wrap64 (1900 + (y : Int) + 1))) (ageS a p b q, 0) := by
      intro x hx hg
      have hn := fun e => hg (hx.2 e)
      have := ih (y + 1) (by omega) (by omega) (by
        refine Classical.byContradiction fun hc => hn (Or.inl (by omega))) (fun e => by
        unfold ageS
        rw [if_neg (fun hc => hn (Or.inr ⟨by omega, hc⟩))])
      rw [wr (by omega) (by omega), wr (by omega) (by omega), show (y : Int) - 1 - ((p / 12 : Nat) : Int) + 1 = ((y + 1 : Nat) : Int) - 1 - ((p / 12 : Nat) : Int) by omega, show 1900 + (y : Int) + 1 = 1900 + ((y + 1 : Nat) : Int) by omega]
      exact this
    refine Ev.step (f := fun k => (levyref2_Number.f k (1900 + (y : Int)) (((p % 12 : Nat) : Int) + 1) (a - B p + 1)).bind fun r => if r.2 = 0 then (if r.1 > b then some ((y : Int) - 1 - ((p / 12 : Nat) : Int), 0) else levyref2_Age.l0 k b (((p % 12 : Nat) : Int) + 1) (a - B p + 1) (wrap64 ((y : Int) - 1 - ((p / 12 : Nat) : Int) + 1)) (wrap64 (1900 + (y : Int) + 1))) else (levyref2_Number.f k (1900 + (y : Int)) 3 1).bind fun s => if s.1 > b then some ((y : Int) - 1 - ((p / 12 : Nat) : Int), 0) else levyref2_Age.l0 k b (((p % 12 : Nat) : Int) + 1) (a - B p + 1) (wrap64 ((y : Int) - 1 - ((p / 12 : Nat) : Int) + 1)) (wrap64 (1900 + (y : Int) + 1))) (fun k => by simp only [levyref2_Age.l0]; rw [if_pos (by omega)]) ?_
    refine Ev.bind (number_r _ _ _) ?_
    rcases hb0 with ⟨hb0, hv⟩ | ⟨hi1, h29, hl28, hne, h31⟩
    · rw [hb0]
      have hk := key (B (12 * y + p % 12) + (a - B p + 1) - 1) (Or.inl ⟨by omega, by omega⟩)
      by_cases hg : B (12 * y + p % 12) + (a - B p + 1) - 1 > b
      · refine Ev.congr (fun k => ?_) (Ev.now _)
        rw [if_pos rfl, if_pos hg, hage _ hk hg]
      · exact Ev.congr (fun k => by rw [if_pos rfl, if_neg hg]) (hnext _ hk hg)
    · refine Ev.congr (f := fun k => (levyref2_Number.f k (1900 + (y : Int)) 3 1).bind fun s => if s.1 > b then some ((y : Int) - 1 - ((p / 12 : Nat) : Int), 0) else levyref2_Age.l0 k b (((p % 12 : Nat) : Int) + 1) (a - B p + 1) (wrap64 ((y : Int) - 1 - ((p / 12 : Nat) : Int) + 1)) (wrap64 (1900 + (y : Int) + 1))) (fun k => by rw [if_neg hne]) ?_
      refine Ev.bind (number_r _ _ _) ?_
      rw [h31]
      have hk := key (B (12 * y + 2)) (Or.inr ⟨hi1, by omega, hl28, rfl⟩)
      by_cases hg : B (12 * y + 2) > b
      · refine Ev.congr (fun k => ?_) (Ev.now _)
        rw [if_pos hg, hage _ hk hg]
      · exact Ev.congr (fun k => by rw [if_neg hg]) (hnext _ hk hg)

theorem rage_p {a : Int} {p : Nat} {b : Int} {q : Nat} (ha : Mon a p) (hb : Mon b q) (h : a ≤ b) : Ev (fun k => levyref2_Age.f k a b) (ageS a p b q, 0) := by
  have hda := ha.day
  have hdb := hb.day
  have hp := ha.1
  have hle := mon_le ha hb h
  refine Ev.congr (f := fun k => levyref2_Age.j0 k a b false) (fun k => by unfold levyref2_Age.f; rw [is_r, is_r, decide_eq_true hda, decide_eq_true hdb]; simp only [Option.bind_some, if_true, Bool.not_true]) ?_
  refine Ev.step (f := fun k => (levyref2_Date.f k a).bind fun x => levyref2_Age.l0 k b x.2.1 x.2.2.1 0 (wrap64 (x.1 + 1))) (fun k => by simp only [levyref2_Age.j0]; rw [if_neg (by simp), if_neg (by omega)]) ?_
  refine Ev.bind (rdate_yes ha) ?_
  have hord : p / 12 + 1 = q / 12 + 1 → ageS a p b q = ((q / 12 : Nat) : Int) - ((p / 12 : Nat) : Int) := by
    intro e
    unfold ageS
    rw [if_neg ?_]
    have hpq : p / 12 = q / 12 := by omega
    rintro (hc | ⟨hc, hd⟩)
    · omega
    · have : p = q := by omega
      subst this
      omega
  have := rage_loop ha hb h (300 - (p / 12 + 1)) (p / 12 + 1) (by omega) (by omega) (by omega) hord
  unfold dateS
  simp only
  rw [wr (by omega) (by omega)]
  rw [show ((p / 12 + 1 : Nat) : Int) - 1 - ((p / 12 : Nat) : Int) = 0 by omega, show 1900 + ((p / 12 + 1 : Nat) : Int) = 1900 + ((p / 12 : Nat) : Int) + 1 by omega] at this
  exact this

theorem rage_ord {a b : Int} (ha : 0 ≤ a ∧ a ≤ 109572) (hb : 0 ≤ b ∧ b ≤ 109572) (h : b < a) : Ev (fun k => levyref2_Age.f k a b) (0, 23) :=
  ev_const fun k => by unfold levyref2_Age.f; rw [is_r, is_r, decide_eq_true ha, decide_eq_true hb]; simp only [Option.bind_some, if_true, Bool.not_true, levyref2_Age.j0]; rw [if_neg (by simp), if_pos h]
theorem rage_no {a b : Int} (h : ¬ ((0 ≤ a ∧ a ≤ 109572) ∧ (0 ≤ b ∧ b ≤ 109572))) : Ev (fun k => levyref2_Age.f k a b) (0, 21) := by
  by_cases ha : 0 ≤ a ∧ a ≤ 109572
  · have hb : ¬ (0 ≤ b ∧ b ≤ 109572) := fun e => h ⟨ha, e⟩
    exact ev_const fun k => by unfold levyref2_Age.f; rw [is_r, is_r, decide_eq_true ha, decide_eq_false hb]; simp [levyref2_Age.j0]
  · exact ev_const fun k => by unfold levyref2_Age.f; rw [is_r, is_r, decide_eq_false ha]; simp [levyref2_Age.j0]

end Go.Proofs.YtlipkhhpjelicaaDoor.Days
