/- The document's Parse, on its own: it says of every text what 'parseS' says (turned from the text of DaysTexts). Conditions: none. -/
import Derived.Test.YtjlclkenfmbahaaGreatDoorVHParse
import Derived.Test.YtjlclkenfmbahaaGreatDoorVPAx0
import Derived.Test.YtjlclkenfmbahaaGreatDoorVL
namespace Go.Proofs.YtjlclkenfmbahaaGreatDoor.Days
set_option linter.unusedVariables false
open Go.RowKit Go.Proofs.YtjlclkenfmbahaaGreatDoorW.PrintWords Go.Proofs.YtjlclkenfmbahaaGreatDoorW.PrintLast Go.Proofs.YtjlclkenfmbahaaGreatDoor.PA Go.Proofs.YtjlclkenfmbahaaGreatDoor.Cal
def partsAt (s : ByteArray) (i : Nat) : List Int := if i ≤ 4 then [] else if i ≤ 7 then [fAt s i 0] else [fAt s i 0, fAt s i 1]
theorem parts_digit {s : ByteArray} {i : Nat} (h : i < 10) (hd : dash i = false) : partsAt s (i + 1) = partsAt s i := by
 have e : ∀ j, j < kAt i → fAt s (i + 1) j = fAt s i j := fun j hj => by
  show (if dash i = false ∧ j = kAt i then _ else fAt s i j) = _
  rw [if_neg (by omega)]
 obtain rfl | rfl | rfl | rfl | rfl | rfl | rfl | rfl | rfl | rfl : i = 0 ∨ i = 1 ∨ i = 2 ∨ i = 3 ∨ i = 4 ∨ i = 5 ∨ i = 6 ∨ i = 7 ∨ i = 8 ∨ i = 9 := by omega
 ·rfl
 ·rfl
 ·rfl
 ·rfl
 ·exact absurd hd (by decide)
 ·show [fAt s 6 0] = [fAt s 5 0]; rw [e 0 (by decide)]
 ·show [fAt s 7 0] = [fAt s 6 0]; rw [e 0 (by decide)]
 ·exact absurd hd (by decide)
 ·show [fAt s 9 0, fAt s 9 1] = [fAt s 8 0, fAt s 8 1]; rw [e 0 (by decide), e 1 (by decide)]
 ·show [fAt s 10 0, fAt s 10 1] = [fAt s 9 0, fAt s 9 1]; rw [e 0 (by decide), e 1 (by decide)]
theorem parts_dash {s : ByteArray} {i : Nat} (h : i < 10) (hd : dash i = true) : partsAt s (i + 1) = partsAt s i ++ [fAt s i (kAt i)] ∧ fAt s (i + 1) (kAt (i + 1)) = 0 ∧ (partsAt s i).length < 10 := by
 obtain rfl | rfl | rfl | rfl | rfl | rfl | rfl | rfl | rfl | rfl : i = 0 ∨ i = 1 ∨ i = 2 ∨ i = 3 ∨ i = 4 ∨ i = 5 ∨ i = 6 ∨ i = 7 ∨ i = 8 ∨ i = 9 := by omega
 ·exact absurd hd (by decide)
 ·exact absurd hd (by decide)
 ·exact absurd hd (by decide)
 ·exact absurd hd (by decide)
 ·refine ⟨rfl, ?_, by simp [partsAt]⟩
  rfl
 ·exact absurd hd (by decide)
 ·exact absurd hd (by decide)
 ·refine ⟨rfl, ?_, by simp [partsAt]⟩
  rfl
 ·exact absurd hd (by decide)
 ·exact absurd hd (by decide)
theorem rparse_end {s : ByteArray} (hall : ∀ j, j < 10 → okAt s j = true) (hs : 10 ≤ s.size) : Ev (fun k => levyref2_Parse.l0 k s (fAt s 10 2) [fAt s 10 0, fAt s 10 1] 10) (parseS s) := by
 rw [parse_end (n := 10) (by omega) hall]
 by_cases h : s.size = 10
 ·refine Ev.step (f := fun k => (levyref2_Number.f k (fAt s 10 0) (fAt s 10 1) (fAt s 10 2)).bind fun b => if b.2 = 0 then some (b.1, 10, 0) else some (0, 0, b.2)) (fun k => ?_) ?_
  ·simp only [levyref2_Parse.l0]
   rw [if_neg (by omega), if_neg (by omega), if_pos (by simp), if_pos (by simp)]
   rfl
  ·refine Ev.bind (number_r _ _ _) ?_
   refine Ev.congr (fun k => ?_) (Ev.now _)
   show _ = some (if s.size = 10 then _ else _)
   rw [if_pos h]
   split <;> rfl
 ·refine Ev.step (f := fun k => some (0, 10, 22)) (fun k => ?_) ?_
  ·simp only [levyref2_Parse.l0]
   rw [if_neg (by omega), if_pos (by omega)]
  ·refine Ev.congr (fun k => ?_) (Ev.now _)
   show _ = some (if s.size = 10 then _ else _)
   rw [if_neg h, if_neg (by omega)]
theorem rparse_go (s : ByteArray) (d : Nat) : ∀ i, 10 = i + d → i ≤ s.size → (∀ j, j < i → okAt s j = true) →
  Ev (fun k => levyref2_Parse.l0 k s (fAt s i (kAt i)) (partsAt s i) (i : Int)) (parseS s) := by
 induction d with
 | zero =>
  intro i he hs hall
  obtain rfl : i = 10 := by omega
  exact rparse_end hall hs
 | succ d ih =>
  intro i he hs hall
  by_cases hend : i = s.size
  ·refine Ev.step (f := fun k => some (0, (s.size : Int), 22)) (fun k => ?_) ?_
   ·simp only [levyref2_Parse.l0]
    rw [if_pos (by omega), if_pos (by omega)]
   ·refine Ev.congr (fun k => ?_) (Ev.now _)
    rw [parse_end (n := s.size) (by omega) (hend ▸ hall)]
    show _ = some (if s.size = 10 then _ else _)
    rw [if_neg (by omega), if_pos (by omega)]
  ·have h10 : i < 10 := by omega
   have hb := bt_range s i
   have hsign : (if (i : Int) = 4 then true else ((i : Int) == 7)) = dash i := by
    obtain rfl | rfl | rfl | rfl | rfl | rfl | rfl | rfl | rfl | rfl : i = 0 ∨ i = 1 ∨ i = 2 ∨ i = 3 ∨ i = 4 ∨ i = 5 ∨ i = 6 ∨ i = 7 ∨ i = 8 ∨ i = 9 := by omega
    all_goals rfl
   refine Ev.step (f := fun k => levyref2_Parse.j1 k s (fAt s i (kAt i)) (partsAt s i) i (bt s i) (dash i)) (fun k => ?_) ?_
   ·simp only [levyref2_Parse.l0]
    rw [if_pos (by omega), if_neg (by omega), if_pos (by omega), if_pos (by omega), ← hsign]
    split <;> rfl
   ·cases hd : dash i
    ·
     by_cases hok : okAt s i = true
     ·have hok2 := hok
      rw [okAt_digit hd] at hok2
      simp only [Bool.and_eq_true, decide_eq_true_eq] at hok2
      have hstep : Ev (fun k => levyref2_Parse.j2 k s (fAt s i (kAt i)) (partsAt s i) i (bt s i) false false) (parseS s) := by
       have := ih (i + 1) (by omega) (by omega) (next_ok hall hok)
       rw [parts_digit h10 hd, kAt_succ h10, hd] at this
       simp only [Bool.false_eq_true, if_false] at this
       have e : fAt s (i + 1) (kAt i) = wrap64 (wrap64 (10 * fAt s i (kAt i)) + (bt s i - 48) % 256) := by
        show (if dash i = false ∧ kAt i = kAt i then _ else _) = _
        rw [if_pos ⟨hd, rfl⟩]
       rw [e] at this
       refine Ev.step (fun k => ?_) this
       simp only [levyref2_Parse.j2]
       rw [if_neg (by simp), if_neg (by simp), wr (x := (i : Int) + 1) (by omega) (by omega)]
       rfl
      refine Ev.step (fun k => ?_) hstep
      simp only [levyref2_Parse.j1]
      rw [show (bt s i == 45) = false by rw [beq_eq_false_iff_ne]; omega]
      rw [if_neg (by simp), if_neg (by simp), if_neg (by omega), decide_eq_false (by omega)]
     ·have hok1 : okAt s i = false := by simpa using hok
      have hok2 := hok1
      rw [okAt_digit hd] at hok2
      simp only [Bool.and_eq_false_iff, decide_eq_false_iff_not] at hok2
      have hbad : Ev (fun k => levyref2_Parse.j2 k s (fAt s i (kAt i)) (partsAt s i) i (bt s i) false true) (parseS s) := by
       rw [parse_bad (by omega) h10 hall hok1]
       exact ev_const fun k => by simp only [levyref2_Parse.j2, if_true]
      refine Ev.step (fun k => ?_) hbad
      simp only [levyref2_Parse.j1]
      by_cases h45 : bt s i = 45
      ·rw [show (bt s i == 45) = true by rw [beq_iff_eq]; exact h45, if_pos (by simp)]
      ·rw [show (bt s i == 45) = false by rw [beq_eq_false_iff_ne]; exact h45, if_neg (by simp), if_neg (by simp)]
       by_cases hlo : bt s i < 48
       ·rw [if_pos hlo]
       ·rw [if_neg hlo, decide_eq_true (by omega)]
    ·by_cases hok : okAt s i = true
     ·have hok2 := hok
      rw [okAt_dash hd] at hok2
      obtain ⟨e1, e2, e3⟩ := parts_dash (s := s) h10 hd
      have hstep : Ev (fun k => levyref2_Parse.j2 k s (fAt s i (kAt i)) (partsAt s i) i (bt s i) true false) (parseS s) := by
       have := ih (i + 1) (by omega) (by omega) (next_ok hall hok)
       rw [e1, e2] at this
       refine Ev.step (fun k => ?_) this
       simp only [levyref2_Parse.j2]
       rw [if_neg (by simp), if_pos trivial, if_pos (by omega), wr (x := (i : Int) + 1) (by omega) (by omega)]
       rfl
      refine Ev.step (fun k => ?_) hstep
      simp only [levyref2_Parse.j1]
      rw [hok2, if_neg (by simp), if_pos trivial]
     ·have hok1 : okAt s i = false := by simpa using hok
      have hok2 := hok1
      rw [okAt_dash hd] at hok2
      have hbad : Ev (fun k => levyref2_Parse.j2 k s (fAt s i (kAt i)) (partsAt s i) i (bt s i) true true) (parseS s) := by
       rw [parse_bad (by omega) h10 hall hok1]
       exact ev_const fun k => by simp only [levyref2_Parse.j2, if_true]
      refine Ev.step (fun k => ?_) hbad
      simp only [levyref2_Parse.j1]
      rw [hok2, if_pos (by simp)]
theorem rparse_p (s : ByteArray) : Ev (fun k => levyref2_Parse.f k s) (parseS s) :=
 rparse_go s 10 0 rfl (Nat.zero_le _) (fun j hj => absurd hj (Nat.not_lt_zero j))
end Go.Proofs.YtjlclkenfmbahaaGreatDoor.Days
