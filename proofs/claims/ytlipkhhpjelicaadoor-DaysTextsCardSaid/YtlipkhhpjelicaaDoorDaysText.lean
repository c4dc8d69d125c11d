/- What the printed Print (the program's and the document's), the document's Parse, and Parse of a printed text come to. Conditions: each law's own. -/
import Derived.Test.YtlipkhhpjelicaaDoorDaysEval
import Derived.Test.YtlipkhhpjelicaaDoorHParse
import Derived.Test.YtlipkhhpjelicaaDoorPAx0
import Derived.Test.YtlipkhhpjelicaaDoorPAx5
import Derived.Test.YtlipkhhpjelicaaDoorPAx6
import Derived.Test.YtlipkhhpjelicaaDoorPAx7
import Derived.Test.YtlipkhhpjelicaaDoorPAx15
import Derived.Test.YtlipkhhpjelicaaDoorPAx16
import Derived.Test.YtlipkhhpjelicaaDoorPAx17
import Derived.Test.YtlipkhhpjelicaaDoorPAx19
namespace Go.Proofs.YtlipkhhpjelicaaDoor.Days
set_option linter.unusedVariables false
open Go.RowKit Go.Proofs.YtlipkhhpjelicaaDoorW.PrintWords Go.Proofs.YtlipkhhpjelicaaDoorW.PrintLast Go.Proofs.YtlipkhhpjelicaaDoor.PA Go.Proofs.YtlipkhhpjelicaaDoor.Cal

theorem str_app (a b : List Int) : strOfNums a ++ strOfNums b = strOfNums (a ++ b) := by
  apply ByteArray.ext
  simp [strOfNums]

theorem bt_str {l : List Int} {i : Nat} (hi : i < l.length) (h0 : 0 ≤ l.getD i 0) (h1 : l.getD i 0 < 256) : bt (strOfNums l) i = l.getD i 0 := by
  unfold bt
  have hs : ((i : Int)).toNat < (strOfNums l).size := by rw [strOfNums_size]; omega
  rw [dif_pos hs]
  have e : (strOfNums l)[((i : Int)).toNat]'hs = UInt8.ofNat (l.getD i 0).toNat := by
    have h2 : ((i : Int)).toNat = i := by omega
    simp only [h2]
    show ((l.map fun n => UInt8.ofNat n.toNat).toArray)[i]'(by simpa using hi) = _
    simp [List.getD_eq_getElem?_getD, List.getElem?_eq_getElem hi]
  rw [e]
  have : (l.getD i 0).toNat < 256 := by omega
  rw [UInt8.toNat_ofNat', Nat.mod_eq_of_lt (by simpa using this)]
  omega

/-! ### digits -/
theorem dig_step {x : Int} (h0 : 0 ≤ x) (hx : x ≤ 1000000) (l : List Int) (i : Nat) (hi : i < l.length) (hl : l.length ≤ 10) (k : Nat) :
    days_digits.l0 (k + 1) x l (i : Int) = days_digits.l0 k (x / 10) (l.set i (48 + x % 10)) ((i : Int) - 1) := by
  simp only [days_digits.l0]
  rw [if_pos (by omega), if_pos (by omega), if_pos (by omega), Int.tdiv_eq_ediv_of_nonneg h0, Int.tmod_eq_emod_of_nonneg h0, wr (x := x / 10) (by omega) (by omega), wr (x := 48 + x % 10) (by omega) (by omega), wr (x := (i : Int) - 1) (by omega) (by omega), show (48 + x % 10) % 256 = 48 + x % 10 by omega, show ((i : Int)).toNat = i by omega]
theorem dig_end (x : Int) (l : List Int) (k : Nat) : days_digits.l0 (k + 1) x l (-1) = some (strOfNums l) := by
  simp only [days_digits.l0]
  rw [if_neg (by omega)]

theorem digits4_p {y : Int} (h0 : 0 ≤ y) (h1 : y ≤ 9999) (k : Nat) : days_digits.f (k + 5) y 4 = some (strOfNums [48 + y / 1000 % 10, 48 + y / 100 % 10, 48 + y / 10 % 10, 48 + y % 10]) := by
  unfold days_digits.f
  rw [if_pos (by omega), if_pos (by omega), show wrap64 (4 - 1) = ((3 : Nat) : Int) by rw [wr (by omega) (by omega)]; rfl, show List.replicate (4 : Int).toNat (0 : Int) = [0, 0, 0, 0] from rfl]
  rw [dig_step h0 (by omega) _ 3 (by decide) (by decide), show ((3 : Nat) : Int) - 1 = ((2 : Nat) : Int) from rfl]
  rw [dig_step (by omega) (by omega) _ 2 (by simp) (by simp), show ((2 : Nat) : Int) - 1 = ((1 : Nat) : Int) from rfl]
  rw [dig_step (by omega) (by omega) _ 1 (by simp) (by simp), show ((1 : Nat) : Int) - 1 = ((0 : Nat) : Int) from rfl]
  rw [dig_step (by omega) (by omega) _ 0 (by simp) (by simp), show ((0 : Nat) : Int) - 1 = -1 from rfl]
  rw [dig_end]
  rw [show y / 10 / 10 / 10 = y / 1000 by omega, show y / 10 / 10 = y / 100 by omega]
  rfl
theorem digits2_p {y : Int} (h0 : 0 ≤ y) (h1 : y ≤ 99) (k : Nat) : days_digits.f (k + 5) y 2 = some (strOfNums [48 + y / 10 % 10, 48 + y % 10]) := by
  unfold days_digits.f
  rw [if_pos (by omega), if_pos (by omega), show wrap64 (2 - 1) = ((1 : Nat) : Int) by rw [wr (by omega) (by omega)]; rfl, show List.replicate (2 : Int).toNat (0 : Int) = [0, 0] from rfl]
  rw [dig_step h0 (by omega) _ 1 (by simp) (by simp), show ((1 : Nat) : Int) - 1 = ((0 : Nat) : Int) from rfl]
  rw [dig_step (by omega) (by omega) _ 0 (by simp) (by simp), show ((0 : Nat) : Int) - 1 = -1 from rfl]
  rw [dig_end]
  rfl

theorem const_dig {d : Int} (h0 : 0 ≤ d) (h1 : d ≤ 9) : (⟨#[48, 49, 50, 51, 52, 53, 54, 55, 56, 57]⟩ : ByteArray).extract (d : Int).toNat ((d + 1) : Int).toNat = strOfNums [48 + d] := by
  obtain rfl | rfl | rfl | rfl | rfl | rfl | rfl | rfl | rfl | rfl : d = 0 ∨ d = 1 ∨ d = 2 ∨ d = 3 ∨ d = 4 ∨ d = 5 ∨ d = 6 ∨ d = 7 ∨ d = 8 ∨ d = 9 := by omega
  all_goals decide

theorem rdig_step {x : Int} (h0 : 0 ≤ x) (hx : x ≤ 1000000) (l : List Int) (hl : l.length ≤ 10) (i n : Nat) (hi : i < n) (hn : n ≤ 10) (k : Nat) :
    levyref2_digits.l0 (k + 1) x (n : Int) (strOfNums l) (i : Int) = levyref2_digits.l0 k (x / 10) (n : Int) (strOfNums ((48 + x % 10) :: l)) ((i + 1 : Nat) : Int) := by
  simp only [levyref2_digits.l0]
  rw [if_pos (by omega), Int.tdiv_eq_ediv_of_nonneg h0, Int.tmod_eq_emod_of_nonneg h0, if_pos (by omega), wr (x := x % 10 + 1) (by omega) (by omega), if_pos (by omega), if_pos (by omega), const_dig (by omega) (by omega), str_app]
  rw [if_pos (by rw [strOfNums_size, strOfNums_size]; simp only [List.length_cons, List.length_nil]; omega), wr (x := x / 10) (by omega) (by omega), wr (x := (i : Int) + 1) (by omega) (by omega)]
  rfl
theorem rdig_end (x : Int) (n : Nat) (s : ByteArray) (k : Nat) : levyref2_digits.l0 (k + 1) x (n : Int) s (n : Int) = some s := by
  simp only [levyref2_digits.l0]
  rw [if_neg (by omega)]
theorem digits4_r {y : Int} (h0 : 0 ≤ y) (h1 : y ≤ 9999) (k : Nat) : levyref2_digits.f (k + 5) y 4 = some (strOfNums [48 + y / 1000 % 10, 48 + y / 100 % 10, 48 + y / 10 % 10, 48 + y % 10]) := by
  unfold levyref2_digits.f
  rw [show (⟨#[]⟩ : ByteArray) = strOfNums [] from rfl, show (4 : Int) = ((4 : Nat) : Int) from rfl, show (0 : Int) = ((0 : Nat) : Int) from rfl]
  rw [rdig_step h0 (by omega) _ (by simp) 0 4 (by decide) (by decide), rdig_step (by omega) (by omega) _ (by simp) 1 4 (by decide) (by decide), rdig_step (by omega) (by omega) _ (by simp) 2 4 (by decide) (by decide), rdig_step (by omega) (by omega) _ (by simp) 3 4 (by decide) (by decide)]
  rw [rdig_end, show y / 10 / 10 / 10 = y / 1000 by omega, show y / 10 / 10 = y / 100 by omega]
theorem digits2_r {y : Int} (h0 : 0 ≤ y) (h1 : y ≤ 99) (k : Nat) : levyref2_digits.f (k + 5) y 2 = some (strOfNums [48 + y / 10 % 10, 48 + y % 10]) := by
  unfold levyref2_digits.f
  rw [show (⟨#[]⟩ : ByteArray) = strOfNums [] from rfl, show (2 : Int) = ((2 : Nat) : Int) from rfl, show (0 : Int) = ((0 : Nat) : Int) from rfl]
  rw [rdig_step h0 (by omega) _ (by simp) 0 2 (by decide) (by decide), rdig_step (by omega) (by omega) _ (by simp) 1 2 (by decide) (by decide)]
  rw [rdig_end]

/-! ### the text of a day -/
def textL (y m d : Int) : List Int := [48 + y / 1000 % 10, 48 + y / 100 % 10, 48 + y / 10 % 10, 48 + y % 10, 45, 48 + m / 10 % 10, 48 + m % 10, 45, 48 + d / 10 % 10, 48 + d % 10]

theorem small {n : Nat} (h : n ≤ 100) : n ≤ 9223372036854775807 := by omega
theorem dash_s : (⟨#[45]⟩ : ByteArray) = strOfNums [45] := rfl

theorem print_p {n : Int} {q : Nat} (h : Mon n q) : Ev (fun k => days_Print.f k n) (strOfNums (textL (dateS n q).1 (dateS n q).2.1 (dateS n q).2.2), 0) := by
  have hd := h.day
  have hq := h.1
  have hl := h.len
  have hlow := h.2.1
  have hlb := len_bd q
  obtain ⟨K, hK⟩ := date_p h
  refine ⟨K + 6, fun k hk => ?_⟩
  obtain ⟨k, rfl⟩ : ∃ m, k = m + 5 := ⟨k - 5, by omega⟩
  show days_Print.f (k + 5) n = _
  have y0 : 0 ≤ (dateS n q).1 ∧ (dateS n q).1 ≤ 9999 := by unfold dateS; simp only; omega
  have m0 : 0 ≤ (dateS n q).2.1 ∧ (dateS n q).2.1 ≤ 99 := by unfold dateS; simp only; omega
  have d0 : 0 ≤ (dateS n q).2.2 ∧ (dateS n q).2.2 ≤ 99 := by unfold dateS; simp only; omega
  unfold days_Print.f
  rw [isDay_p, decide_eq_true hd, Option.bind_some, if_pos rfl, show days_date.f (k + 5) n = some (dateS n q) from hK _ (by omega), Option.bind_some]
  rw [digits4_p y0.1 y0.2, Option.bind_some, if_pos (small (by simp [strOfNums_size])), digits2_p m0.1 m0.2, Option.bind_some, dash_s, str_app, if_pos (small (by simp [strOfNums_size])), str_app, if_pos (small (by simp [strOfNums_size])), digits2_p d0.1 d0.2, Option.bind_some, str_app, if_pos (small (by simp [strOfNums_size])), str_app]
  rfl
theorem print_no {n : Int} (h : ¬ (0 ≤ n ∧ n ≤ 109572)) : Ev (fun k => days_Print.f k n) (⟨#[]⟩, 21) := by
  refine Ev.congr (fun k => ?_) (Ev.now _)
  unfold days_Print.f
  rw [isDay_p, decide_eq_false h, Option.bind_some, if_neg (by decide)]

theorem rprint_p {n : Int} {q : Nat} (h : Mon n q) : Ev (fun k => levyref2_Print.f k n) (strOfNums (textL (dateS n q).1 (dateS n q).2.1 (dateS n q).2.2), 0) := by
  have hd := h.day
  have hq := h.1
  have hl := h.len
  have hlow := h.2.1
  have hlb := len_bd q
  obtain ⟨K, hK⟩ := rdate_yes h
  refine ⟨K + 6, fun k hk => ?_⟩
  obtain ⟨k, rfl⟩ : ∃ m, k = m + 5 := ⟨k - 5, by omega⟩
  show levyref2_Print.f (k + 5) n = _
  have y0 : 0 ≤ (dateS n q).1 ∧ (dateS n q).1 ≤ 9999 := by unfold dateS; simp only; omega
  have m0 : 0 ≤ (dateS n q).2.1 ∧ (dateS n q).2.1 ≤ 99 := by unfold dateS; simp only; omega
  have d0 : 0 ≤ (dateS n q).2.2 ∧ (dateS n q).2.2 ≤ 99 := by unfold dateS; simp only; omega
  unfold levyref2_Print.f
  rw [show levyref2_Date.f (k + 5) n = some ((dateS n q).1, (dateS n q).2.1, (dateS n q).2.2, 0) from hK _ (by omega), Option.bind_some, if_pos rfl]
  rw [digits4_r y0.1 y0.2, Option.bind_some, if_pos (small (by simp [strOfNums_size])), digits2_r m0.1 m0.2, Option.bind_some, dash_s, str_app, if_pos (small (by simp [strOfNums_size])), str_app, if_pos (small (by simp [strOfNums_size])), digits2_r d0.1 d0.2, Option.bind_some, str_app, if_pos (small (by simp [strOfNums_size])), str_app]
  rfl
theorem rprint_no {n : Int} (h : ¬ (0 ≤ n ∧ n ≤ 109572)) : Ev (fun k => levyref2_Print.f k n) (⟨#[]⟩, 21) := by
  refine Ev.congr (f := fun k => (levyref2_Date.f k n).bind fun b => if b.2.2.2 = 0 then ((levyref2_digits.f k b.1 4).bind fun t255 => (if t255.size + 1 ≤ 9223372036854775807 then ((levyref2_digits.f k b.2.1 2).bind fun t256 => (if (t255 ++ (⟨#[45]⟩ : ByteArray)).size + t256.size ≤ 9223372036854775807 then (if ((t255 ++ (⟨#[45]⟩ : ByteArray)) ++ t256).size + 1 ≤ 9223372036854775807 then ((levyref2_digits.f k b.2.2.1 2).bind fun t257 => (if (((t255 ++ (⟨#[45]⟩ : ByteArray)) ++ t256) ++ (⟨#[45]⟩ : ByteArray)).size + t257.size ≤ 9223372036854775807 then (some ((((t255 ++ (⟨#[45]⟩ : ByteArray)) ++ t256) ++ (⟨#[45]⟩ : ByteArray)) ++ t257, 0)) else (none))) else (none)) else (none))) else (none))) else some ((⟨#[]⟩ : ByteArray), b.2.2.2)) (fun k => rfl) ?_
  refine Ev.bind (rdate_no h) ?_
  refine Ev.congr (fun k => ?_) (Ev.now _)
  rw [if_neg (by decide)]

/-! ### the document's Parse -/
def partsAt (s : ByteArray) (i : Nat) : List Int := if i ≤ 4 then [] else if i ≤ 7 then [fAt s i 0] else [fAt s i 0, fAt s i 1]

theorem parts_digit {s : ByteArray} {i : Nat} (h : i < 10) (hd : dash i = false) : partsAt s (i + 1) = partsAt s i := by
  have e : ∀ j, j < kAt i → fAt s (i + 1) j = fAt s i j := fun j hj => by
    show (if dash i = false ∧ j = kAt i then _ else fAt s i j) = _
    rw [if_neg (by omega)]
  obtain rfl | rfl | rfl | rfl | rfl | rfl | rfl | rfl | rfl | rfl : i = 0 ∨ i = 1 ∨ i = 2 ∨ i = 3 ∨ i = 4 ∨ i = 5 ∨ i = 6 ∨ i = 7 ∨ i = 8 ∨ i = 9 := by omega
  · rfl
  · rfl
  · rfl
  · rfl
  · exact absurd hd (by decide)
  · show [fAt s 6 0] = [fAt s 5 0]; rw [e 0 (by decide)]
  · show [fAt s 7 0] = [fAt s 6 0]; rw [e 0 (by decide)]
  · exact absurd hd (by decide)
  · show [fAt s 9 0, fAt s 9 1] = [fAt s 8 0, fAt s 8 1]; rw [e 0 (by decide), e 1 (by decide)]
  · show [fAt s 10 0, fAt s 10 1] = [fAt s 9 0, fAt s 9 1]; rw [e 0 (by decide), e 1 (by decide)]
theorem parts_dash {s : ByteArray} {i : Nat} (h : i < 10) (hd : dash i = true) : partsAt s (i + 1) = partsAt s i ++ [fAt s i (kAt i)] ∧ fAt s (i + 1) (kAt (i + 1)) = 0 ∧ (partsAt s i).length < 10 := by
  obtain rfl | rfl | rfl | rfl | rfl | rfl | rfl | rfl | rfl | rfl : i = 0 ∨ i = 1 ∨ i = 2 ∨ i = 3 ∨ i = 4 ∨ i = 5 ∨ i = 6 ∨ i = 7 ∨ i = 8 ∨ i = 9 := by omega
  · exact absurd hd (by decide)
  · exact absurd hd (by decide)
  · exact absurd hd (by decide)
  · exact absurd hd (by decide)
  · refine ⟨rfl, ?_, by simp [partsAt]⟩
    rfl
  · exact absurd hd (by decide)
  · exact absurd hd (by decide)
  · refine ⟨rfl, ?_, by simp [partsAt]⟩
    rfl
  · exact absurd hd (by decide)
  · exact absurd hd (by decide)

theorem rparse_end {s : ByteArray} (hall : ∀ j, j < 10 → okAt s j = true) (hs : 10 ≤ s.size) : Ev (fun k => levyref2_Parse.l0 k s (fAt s 10 2) [fAt s 10 0, fAt s 10 1] 10) (parseS s) := by
  rw [parse_end (n := 10) (by omega) hall]
  by_cases h : s.size = 10
  · refine Ev.step (f := fun k => (levyref2_Number.f k (fAt s 10 0) (fAt s 10 1) (fAt s 10 2)).bind fun b => if b.2 = 0 then some (b.1, 10, 0) else some (0, 0, b.2)) (fun k => ?_) ?_
    · simp only [levyref2_Parse.l0]
      rw [if_neg (by omega), if_neg (by omega), if_pos (by simp), if_pos (by simp)]
      rfl
    · refine Ev.bind (number_r _ _ _) ?_
      refine Ev.congr (fun k => ?_) (Ev.now _)
      show _ = some (if s.size = 10 then _ else _)
      rw [if_pos h]
      split <;> rfl
  · refine Ev.step (f := fun k => some (0, 10, 22)) (fun k => ?_) ?_
    · simp only [levyref2_Parse.l0]
      rw [if_neg (by omega), if_pos (by omega)]
    · refine Ev.congr (fun k => ?_) (Ev.now _)
      show _ = some (if s.size = 10 then _ else _)
      rw [if_neg h, if_neg (by omega)]

theorem rparse_go (s : ByteArray) (d : Nat) : ∀ i, 10 = i + d → i ≤ s.size → (∀ j, j < i → okAt s j = true) →
    Ev (fun k => levyref2_Parse.l0 k s (fAt s i (kAt i)) (partsAt s i) (i : Int)) (parseS s) := by
  induction d with
  | zero =>
    intro i he hs hall
    obtain rfl : i = 10 := by omega
    exact rparse_end hall hs
  | succ d ih =>
    intro i he hs hall
    by_cases hend : i = s.size
    · refine Ev.step (f := fun k => some (0, (s.size : Int), 22)) (fun k => ?_) ?_
      · simp only [levyref2_Parse.l0]
        rw [if_pos (by omega), if_pos (by omega)]
      · refine Ev.congr (fun k => ?_) (Ev.now _)
        rw [parse_end (n := s.size) (by omega) (hend ▸ hall)]
        show _ = some (if s.size = 10 then _ else _)
        rw [if_neg (by omega), if_pos (by omega)]
    · have h10 : i < 10 := by omega
      have hb := bt_range s i
      have hsign : (if (i : Int) = 4 then true else ((i : Int) == 7)) = dash i := by
        obtain rfl | rfl | rfl | rfl | rfl | rfl | rfl | rfl | rfl | rfl : i = 0 ∨ i = 1 ∨ i = 2 ∨ i = 3 ∨ i = 4 ∨ i = 5 ∨ i = 6 ∨ i = 7 ∨ i = 8 ∨ i = 9 := by omega
        all_goals rfl
      refine Ev.step (f := fun k => levyref2_Parse.j1 k s (fAt s i (kAt i)) (partsAt s i) i (bt s i) (dash i)) (fun k => ?_) ?_
      · simp only [levyref2_Parse.l0]
        rw [if_pos (by omega), if_neg (by omega), if_pos (by omega), if_pos (by omega), ← hsign]
        split <;> rfl
      · cases hd : dash i
        · -- a digit is wanted
          by_cases hok : okAt s i = true
          · have hok2 := hok
            rw [okAt_digit hd] at hok2
            simp only [Bool.and_eq_true, decide_eq_true_eq] at hok2
            have hstep : Ev (fun k => levyref2_Parse.j2 k s (fAt s i (kAt i)) (partsAt s i) i (bt s i) false false) (parseS s) := by
              have := ih (i + 1) (by omega) (by omega) (next_ok hall hok)
              rw [parts_digit h10 hd, kAt_succ h10, hd] at this
              simp only [Bool.false_eq_true, if_false] at this
              have e : fAt s (i + 1) (kAt i) = wrap64 (wrap64 (10 * fAt s i (kAt i)) + (bt s i - 48) % 256) := by
                show (if dash i = false ∧ kAt i = kAt i then _ else _) = _
                rw [if_pos ⟨hd, rfl⟩]
              rw [e] at this
              refine Ev.step (fun k => ?_) this
              simp only [levyref2_Parse.j2]
              rw [if_neg (by simp), if_neg (by simp), wr (x := (i : Int) + 1) (by omega) (by omega)]
              rfl
            refine Ev.step (fun k => ?_) hstep
            simp only [levyref2_Parse.j1]
            rw [show (bt s i == 45) = false by rw [beq_eq_false_iff_ne]; omega]
            rw [if_neg (by simp), if_neg (by simp), if_neg (by omega), decide_eq_false (by omega)]
          · have hok1 : okAt s i = false := by simpa using hok
            have hok2 := hok1
            rw [okAt_digit hd] at hok2
            simp only [Bool.and_eq_false_iff, decide_eq_false_iff_not] at hok2
            have hbad : Ev (fun k => levyref2_Parse.j2 k s (fAt s i (kAt i)) (partsAt s i) i (bt s i) false true) (parseS s) := by
              rw [parse_bad (by omega) h10 hall hok1]
              exact ev_const fun k => by simp only [levyref2_Parse.j2, if_true]
            refine Ev.step (fun k => ?_) hbad
            simp only [levyref2_Parse.j1]
            by_cases h45 : bt s i = 45
            · rw [show (bt s i == 45) = true by rw [beq_iff_eq]; exact h45, if_pos (by simp)]
            · rw [show (bt s i == 45) = false by rw [beq_eq_false_iff_ne]; exact h45, if_neg (by simp), if_neg (by simp)]
              by_cases hlo : bt s i < 48
              · rw [if_pos hlo]
              · rw [if_neg hlo, decide_eq_true (by omega)]
        · by_cases hok : okAt s i = true
          · have hok2 := hok
            rw [okAt_dash hd] at hok2
            obtain ⟨e1, e2, e3⟩ := parts_dash (s := s) h10 hd
            have hstep : Ev (fun k => levyref2_Parse.j2 k s (fAt s i (kAt i)) (partsAt s i) i (bt s i) true false) (parseS s) := by
              have := ih (i + 1) (by omega) (by omega) (next_ok hall hok)
              rw [e1, e2] at this
              refine Ev.step (fun k => ?_) this
              simp only [levyref2_Parse.j2]
              rw [if_neg (by simp), if_pos trivial, if_pos (by omega), wr (x := (i : Int) + 1) (by omega) (by omega)]
              rfl
            refine Ev.step (fun k => ?_) hstep
            simp only [levyref2_Parse.j1]
            rw [hok2, if_neg (by simp), if_pos trivial]
          · have hok1 : okAt s i = false := by simpa using hok
            have hok2 := hok1
            rw [okAt_dash hd] at hok2
            have hbad : Ev (fun k => levyref2_Parse.j2 k s (fAt s i (kAt i)) (partsAt s i) i (bt s i) true true) (parseS s) := by
              rw [parse_bad (by omega) h10 hall hok1]
              exact ev_const fun k => by simp only [levyref2_Parse.j2, if_true]
            refine Ev.step (fun k => ?_) hbad
            simp only [levyref2_Parse.j1]
            rw [hok2, if_pos (by simp)]

theorem rparse_p (s : ByteArray) : Ev (fun k => levyref2_Parse.f k s) (parseS s) :=
  rparse_go s 10 0 rfl (Nat.zero_le _) (fun j hj => absurd hj (Nat.not_lt_zero j))

/-! ### Parse reads what Print writes -/
theorem parse_text {y m d : Int} (y0 : 0 ≤ y) (y1 : y ≤ 9999) (m0 : 0 ≤ m) (m1 : m ≤ 99) (d0 : 0 ≤ d) (d1 : d ≤ 99) :
    parseS (strOfNums (textL y m d)) = if (numS y m d).2 = 0 then ((numS y m d).1, 10, 0) else (0, 0, (numS y m d).2) := by
  have hsz : (strOfNums (textL y m d)).size = 10 := by rw [strOfNums_size]; rfl
  have hb : ∀ i : Nat, i < 10 → bt (strOfNums (textL y m d)) i = (textL y m d).getD i 0 := by
    intro i hi
    obtain rfl | rfl | rfl | rfl | rfl | rfl | rfl | rfl | rfl | rfl : i = 0 ∨ i = 1 ∨ i = 2 ∨ i = 3 ∨ i = 4 ∨ i = 5 ∨ i = 6 ∨ i = 7 ∨ i = 8 ∨ i = 9 := by omega
    all_goals (refine bt_str (by simp [textL]) ?_ ?_ <;> (simp only [textL, List.getD_cons_succ, List.getD_cons_zero]; omega))
  obtain ⟨s, hs⟩ : ∃ s, s = strOfNums (textL y m d) := ⟨_, rfl⟩
  rw [← hs] at hsz hb ⊢
  have b0 : bt s ((0 : Nat) : Int) = 48 + y / 1000 % 10 := hb 0 (by decide)
  have b1 : bt s ((1 : Nat) : Int) = 48 + y / 100 % 10 := hb 1 (by decide)
  have b2 : bt s ((2 : Nat) : Int) = 48 + y / 10 % 10 := hb 2 (by decide)
  have b3 : bt s ((3 : Nat) : Int) = 48 + y % 10 := hb 3 (by decide)
  have b4 : bt s ((4 : Nat) : Int) = 45 := hb 4 (by decide)
  have b5 : bt s ((5 : Nat) : Int) = 48 + m / 10 % 10 := hb 5 (by decide)
  have b6 : bt s ((6 : Nat) : Int) = 48 + m % 10 := hb 6 (by decide)
  have b7 : bt s ((7 : Nat) : Int) = 45 := hb 7 (by decide)
  have b8 : bt s ((8 : Nat) : Int) = 48 + d / 10 % 10 := hb 8 (by decide)
  have b9 : bt s ((9 : Nat) : Int) = 48 + d % 10 := hb 9 (by decide)
  have hall : ∀ j, j < 10 → okAt s j = true := by
    intro i hi
    obtain rfl | rfl | rfl | rfl | rfl | rfl | rfl | rfl | rfl | rfl : i = 0 ∨ i = 1 ∨ i = 2 ∨ i = 3 ∨ i = 4 ∨ i = 5 ∨ i = 6 ∨ i = 7 ∨ i = 8 ∨ i = 9 := by omega
    · rw [okAt_digit rfl, b0, decide_eq_true (by omega), decide_eq_true (by omega)]; rfl
    · rw [okAt_digit rfl, b1, decide_eq_true (by omega), decide_eq_true (by omega)]; rfl
    · rw [okAt_digit rfl, b2, decide_eq_true (by omega), decide_eq_true (by omega)]; rfl
    · rw [okAt_digit rfl, b3, decide_eq_true (by omega), decide_eq_true (by omega)]; rfl
    · rw [okAt_dash rfl, b4]; rfl
    · rw [okAt_digit rfl, b5, decide_eq_true (by omega), decide_eq_true (by omega)]; rfl
    · rw [okAt_digit rfl, b6, decide_eq_true (by omega), decide_eq_true (by omega)]; rfl
    · rw [okAt_dash rfl, b7]; rfl
    · rw [okAt_digit rfl, b8, decide_eq_true (by omega), decide_eq_true (by omega)]; rfl
    · rw [okAt_digit rfl, b9, decide_eq_true (by omega), decide_eq_true (by omega)]; rfl
  have st : ∀ (i : Nat) (x b : Int), dash i = false → bt s i = b → fAt s i (kAt i) = x → 48 ≤ b → b ≤ 57 → 0 ≤ x → x ≤ 10000 → fAt s (i + 1) (kAt i) = 10 * x + (b - 48) := by
    intro i x b hd hbt hx h1 h2 h3 h4
    show (if dash i = false ∧ kAt i = kAt i then _ else _) = _
    rw [if_pos ⟨hd, rfl⟩, hx, hbt, wr (x := 10 * x) (by omega) (by omega), show (b - 48) % 256 = b - 48 by omega, wr (by omega) (by omega)]
  have keep : ∀ (i j : Nat), (dash i = true ∨ j ≠ kAt i) → fAt s (i + 1) j = fAt s i j := by
    intro i j h
    show (if dash i = false ∧ j = kAt i then _ else fAt s i j) = _
    rw [if_neg ?_]
    rintro ⟨a, c⟩
    rcases h with h | h
    · rw [a] at h; exact absurd h (by decide)
    · exact h c
  have f1 := st 0 0 _ rfl b0 rfl (by omega) (by omega) (by omega) (by omega)
  have f2 := st 1 _ _ rfl b1 f1 (by omega) (by omega) (by omega) (by omega)
  have f3 := st 2 _ _ rfl b2 f2 (by omega) (by omega) (by omega) (by omega)
  have f4 := st 3 _ _ rfl b3 f3 (by omega) (by omega) (by omega) (by omega)
  have g6 := st 5 0 _ rfl b5 rfl (by omega) (by omega) (by omega) (by omega)
  have g7 := st 6 _ _ rfl b6 g6 (by omega) (by omega) (by omega) (by omega)
  have h9 := st 8 0 _ rfl b8 rfl (by omega) (by omega) (by omega) (by omega)
  have h10 := st 9 _ _ rfl b9 h9 (by omega) (by omega) (by omega) (by omega)
  have e0 : fAt s 10 0 = y := by
    rw [keep 9 0 (Or.inr (by decide)), keep 8 0 (Or.inr (by decide)), keep 7 0 (Or.inl rfl), keep 6 0 (Or.inr (by decide)), keep 5 0 (Or.inr (by decide)), keep 4 0 (Or.inl rfl)]
    have f4' : fAt s 4 0 = _ := f4
    rw [f4']; omega
  have e1 : fAt s 10 1 = m := by
    rw [keep 9 1 (Or.inr (by decide)), keep 8 1 (Or.inr (by decide)), keep 7 1 (Or.inl rfl)]
    have g7' : fAt s 7 1 = _ := g7
    rw [g7']; omega
  have e2 : fAt s 10 2 = d := by
    have h10' : fAt s 10 2 = _ := h10
    rw [h10']; omega
  rw [trip_ten hsz hall, e0, e1, e2]

end Go.Proofs.YtlipkhhpjelicaaDoor.Days
