/- What the printed Print (the program's and the document's), the document's Parse, and Parse of a printed text come to. Conditions: each law's own. -/
import Derived.Test.YtgcgpeeokdnplaaDoorBDaysDate
import Derived.Test.YtgcgpeeokdnplaaDoorBHParse
import Derived.Test.YtgcgpeeokdnplaaDoorBPAx0
import Derived.Test.YtgcgpeeokdnplaaDoorBL
namespace Go.Proofs.YtgcgpeeokdnplaaDoor.Days
set_option linter.unusedVariables false
open Go.RowKit Go.Proofs.YtgcgpeeokdnplaaDoorW.PrintWords Go.Proofs.YtgcgpeeokdnplaaDoorW.PrintLast Go.Proofs.YtgcgpeeokdnplaaDoor.PA Go.Proofs.YtgcgpeeokdnplaaDoor.Cal

theorem str_app (a b : List Int) : strOfNums a ++ strOfNums b = strOfNums (a ++ b) := by
  apply ByteArray.ext
  simp [strOfNums]

theorem bt_str {l : List Int} {i : Nat} (hi : i < l.length) (h0 : 0 ≤ l.getD i 0) (h1 : l.getD i 0 < 256) : bt (strOfNums l) i = l.getD i 0 := by
  unfold bt
  have hs : ((i : Int)).toNat < (strOfNums l).size := by rw [strOfNums_size]; omega
  rw [dif_pos hs]
  have e : (strOfNums l)[((i : Int)).toNat]'hs = UInt8.ofNat (l.getD i 0).toNat := by
    have h2 : ((i : Int)).toNat = i := by omega
    simp only [h2]
    show ((l.map fun n => UInt8.ofNat n.toNat).toArray)[i]'(by simpa using hi) = _
    simp [List.getD_eq_getElem?_getD, List.getElem?_eq_getElem hi]
  rw [e]
  have : (l.getD i 0).toNat < 256 := by omega
  rw [UInt8.toNat_ofNat', Nat.mod_eq_of_lt (by simpa using this)]
  omega

/-! ### digits -/
theorem dig_step {x : Int} (h0 : 0 ≤ x) (hx : x ≤ 1000000) (l : List Int) (i : Nat) (hi : i < l.length) (hl : l.length ≤ 10) (k : Nat) :
    days_digits.l0 (k + 1) x l (i : Int) = days_digits.l0 k (x / 10) (l.set i (48 + x % 10)) ((i : Int) - 1) := by
  simp only [days_digits.l0]
  rw [if_pos (by omega), if_pos (by omega), if_pos (by omega), Int.tdiv_eq_ediv_of_nonneg h0, Int.tmod_eq_emod_of_nonneg h0, wr (x := x / 10) (by omega) (by omega), wr (x := 48 + x % 10) (by omega) (by omega), wr (x := (i : Int) - 1) (by omega) (by omega), show (48 + x % 10) % 256 = 48 + x % 10 by omega, show ((i : Int)).toNat = i by omega]
theorem dig_end (x : Int) (l : List Int) (k : Nat) : days_digits.l0 (k + 1) x l (-1) = some (strOfNums l) := by
  simp only [days_digits.l0]
  rw [if_neg (by omega)]

theorem digits4_p {y : Int} (h0 : 0 ≤ y) (h1 : y ≤ 9999) (k : Nat) : days_digits.f (k + 5) y 4 = some (strOfNums [48 + y / 1000 % 10, 48 + y / 100 % 10, 48 + y / 10 % 10, 48 + y % 10]) := by
  unfold days_digits.f
  rw [if_pos (by omega), if_pos (by omega), show wrap64 (4 - 1) = ((3 : Nat) : Int) by rw [wr (by omega) (by omega)]; rfl, show List.replicate (4 : Int).toNat (0 : Int) = [0, 0, 0, 0] from rfl]
  rw [dig_step h0 (by omega) _ 3 (by decide) (by decide), show ((3 : Nat) : Int) - 1 = ((2 : Nat) : Int) from rfl]
  rw [dig_step (by omega) (by omega) _ 2 (by simp) (by simp), show ((2 : Nat) : Int) - 1 = ((1 : Nat) : Int) from rfl]
  rw [dig_step (by omega) (by omega) _ 1 (by simp) (by simp), show ((1 : Nat) : Int) - 1 = ((0 : Nat) : Int) from rfl]
  rw [dig_step (by omega) (by omega) _ 0 (by simp) (by simp), show ((0 : Nat) : Int) - 1 = -1 from rfl]
  rw [dig_end]
  rw [show y / 10 / 10 / 10 = y / 1000 by omega, show y / 10 / 10 = y / 100 by omega]
  rfl
theorem digits2_p {y : Int} (h0 : 0 ≤ y) (h1 : y ≤ 99) (k : Nat) : days_digits.f (k + 5) y 2 = some (strOfNums [48 + y / 10 % 10, 48 + y % 10]) := by
  unfold days_digits.f
  rw [if_pos (by omega), if_pos (by omega), show wrap64 (2 - 1) = ((1 : Nat) : Int) by rw [wr (by omega) (by omega)]; rfl, show List.replicate (2 : Int).toNat (0 : Int) = [0, 0] from rfl]
  rw [dig_step h0 (by omega) _ 1 (by simp) (by simp), show ((1 : Nat) : Int) - 1 = ((0 : Nat) : Int) from rfl]
  rw [dig_step (by omega) (by omega) _ 0 (by simp) (by simp), show ((0 : Nat) : Int) - 1 = -1 from rfl]
  rw [dig_end]
  rfl

/-! ### the text of a day -/
def textL (y m d : Int) : List Int := [48 + y / 1000 % 10, 48 + y / 100 % 10, 48 + y / 10 % 10, 48 + y % 10, 45, 48 + m / 10 % 10, 48 + m % 10, 45, 48 + d / 10 % 10, 48 + d % 10]

theorem small {n : Nat} (h : n ≤ 100) : n ≤ 9223372036854775807 := by omega
theorem dash_s : (⟨#[45]⟩ : ByteArray) = strOfNums [45] := rfl

theorem print_p {n : Int} {q : Nat} (h : Mon n q) : Ev (fun k => days_Print.f k n) (strOfNums (textL (dateS n q).1 (dateS n q).2.1 (dateS n q).2.2), 0) := by
  have hd := h.day
  have hq := h.1
  have hl := h.len
  have hlow := h.2.1
  have hlb := len_bd q
  obtain ⟨K, hK⟩ := date_p h
  refine ⟨K + 6, fun k hk => ?_⟩
  obtain ⟨k, rfl⟩ : ∃ m, k = m + 5 := ⟨k - 5, by omega⟩
  show days_Print.f (k + 5) n = _
  have y0 : 0 ≤ (dateS n q).1 ∧ (dateS n q).1 ≤ 9999 := by unfold dateS; simp only; omega
  have m0 : 0 ≤ (dateS n q).2.1 ∧ (dateS n q).2.1 ≤ 99 := by unfold dateS; simp only; omega
  have d0 : 0 ≤ (dateS n q).2.2 ∧ (dateS n q).2.2 ≤ 99 := by unfold dateS; simp only; omega
  unfold days_Print.f
  rw [isDay_p, decide_eq_true hd, Option.bind_some, if_pos rfl, show days_date.f (k + 5) n = some (dateS n q) from hK _ (by omega), Option.bind_some]
  rw [digits4_p y0.1 y0.2, Option.bind_some, if_pos (small (by simp [strOfNums_size])), digits2_p m0.1 m0.2, Option.bind_some, dash_s, str_app, if_pos (small (by simp [strOfNums_size])), str_app, if_pos (small (by simp [strOfNums_size])), digits2_p d0.1 d0.2, Option.bind_some, str_app, if_pos (small (by simp [strOfNums_size])), str_app]
  rfl
/-! ### the document's Parse -/
/-! ### Parse reads what Print writes -/
theorem parse_text {y m d : Int} (y0 : 0 ≤ y) (y1 : y ≤ 9999) (m0 : 0 ≤ m) (m1 : m ≤ 99) (d0 : 0 ≤ d) (d1 : d ≤ 99) :
    parseS (strOfNums (textL y m d)) = if (numS y m d).2 = 0 then ((numS y m d).1, 10, 0) else (0, 0, (numS y m d).2) := by
  have hsz : (strOfNums (textL y m d)).size = 10 := by rw [strOfNums_size]; rfl
  have hb : ∀ i : Nat, i < 10 → bt (strOfNums (textL y m d)) i = (textL y m d).getD i 0 := by
    intro i hi
    obtain rfl | rfl | rfl | rfl | rfl | rfl | rfl | rfl | rfl | rfl : i = 0 ∨ i = 1 ∨ i = 2 ∨ i = 3 ∨ i = 4 ∨ i = 5 ∨ i = 6 ∨ i = 7 ∨ i = 8 ∨ i = 9 := by omega
    all_goals (refine bt_str (by simp [textL]) ?_ ?_ <;> (simp only [textL, List.getD_cons_succ, List.getD_cons_zero]; omega))
  obtain ⟨s, hs⟩ : ∃ s, s = strOfNums (textL y m d) := ⟨_, rfl⟩
  rw [← hs] at hsz hb ⊢
  have b0 : bt s ((0 : Nat) : Int) = 48 + y / 1000 % 10 := hb 0 (by decide)
  have b1 : bt s ((1 : Nat) : Int) = 48 + y / 100 % 10 := hb 1 (by decide)
  have b2 : bt s ((2 : Nat) : Int) = 48 + y / 10 % 10 := hb 2 (by decide)
  have b3 : bt s ((3 : Nat) : Int) = 48 + y % 10 := hb 3 (by decide)
  have b4 : bt s ((4 : Nat) : Int) = 45 := hb 4 (by decide)
  have b5 : bt s ((5 : Nat) : Int) = 48 + m / 10 % 10 := hb 5 (by decide)
  have b6 : bt s ((6 : Nat) : Int) = 48 + m % 10 := hb 6 (by decide)
  have b7 : bt s ((7 : Nat) : Int) = 45 := hb 7 (by decide)
  have b8 : bt s ((8 : Nat) : Int) = 48 + d / 10 % 10 := hb 8 (by decide)
  have b9 : bt s ((9 : Nat) : Int) = 48 + d % 10 := hb 9 (by decide)
  have hall : ∀ j, j < 10 → okAt s j = true := by
    intro i hi
    obtain rfl | rfl | rfl | rfl | rfl | rfl | rfl | rfl | rfl | rfl : i = 0 ∨ i = 1 ∨ i = 2 ∨ i = 3 ∨ i = 4 ∨ i = 5 ∨ i = 6 ∨ i = 7 ∨ i = 8 ∨ i = 9 := by omega
    · rw [okAt_digit rfl, b0, decide_eq_true (by omega), decide_eq_true (by omega)]; rfl
    · rw [okAt_digit rfl, b1, decide_eq_true (by omega), decide_eq_true (by omega)]; rfl
    · rw [okAt_digit rfl, b2, decide_eq_true (by omega), decide_eq_true (by omega)]; rfl
    · rw [okAt_digit rfl, b3, decide_eq_true (by omega), decide_eq_true (by omega)]; rfl
    · rw [okAt_dash rfl, b4]; rfl
    · rw [okAt_digit rfl, b5, decide_eq_true (by omega), decide_eq_true (by omega)]; rfl
    · rw [okAt_digit rfl, b6, decide_eq_true (by omega), decide_eq_true (by omega)]; rfl
    · rw [okAt_dash rfl, b7]; rfl
    · rw [okAt_digit rfl, b8, decide_eq_true (by omega), decide_eq_true (by omega)]; rfl
    · rw [okAt_digit rfl, b9, decide_eq_true (by omega), decide_eq_true (by omega)]; rfl
  have st : ∀ (i : Nat) (x b : Int), dash i = false → bt s i = b → fAt s i (kAt i) = x → 48 ≤ b → b ≤ 57 → 0 ≤ x → x ≤ 10000 → fAt s (i + 1) (kAt i) = 10 * x + (b - 48) := by
    intro i x b hd hbt hx h1 h2 h3 h4
    show (if dash i = false ∧ kAt i = kAt i then _ else _) = _
    rw [if_pos ⟨hd, rfl⟩, hx, hbt, wr (x := 10 * x) (by omega) (by omega), show (b - 48) % 256 = b - 48 by omega, wr (by omega) (by omega)]
  have keep : ∀ (i j : Nat), (dash i = true ∨ j ≠ kAt i) → fAt s (i + 1) j = fAt s i j := by
    intro i j h
    show (if dash i = false ∧ j = kAt i then _ else fAt s i j) = _
    rw [if_neg ?_]
    rintro ⟨a, c⟩
    rcases h with h | h
    · rw [a] at h; exact absurd h (by decide)
    · exact h c
  have f1 := st 0 0 _ rfl b0 rfl (by omega) (by omega) (by omega) (by omega)
  have f2 := st 1 _ _ rfl b1 f1 (by omega) (by omega) (by omega) (by omega)
  have f3 := st 2 _ _ rfl b2 f2 (by omega) (by omega) (by omega) (by omega)
  have f4 := st 3 _ _ rfl b3 f3 (by omega) (by omega) (by omega) (by omega)
  have g6 := st 5 0 _ rfl b5 rfl (by omega) (by omega) (by omega) (by omega)
  have g7 := st 6 _ _ rfl b6 g6 (by omega) (by omega) (by omega) (by omega)
  have h9 := st 8 0 _ rfl b8 rfl (by omega) (by omega) (by omega) (by omega)
  have h10 := st 9 _ _ rfl b9 h9 (by omega) (by omega) (by omega) (by omega)
  have e0 : fAt s 10 0 = y := by
    rw [keep 9 0 (Or.inr (by decide)), keep 8 0 (Or.inr (by decide)), keep 7 0 (Or.inl rfl), keep 6 0 (Or.inr (by decide)), keep 5 0 (Or.inr (by decide)), keep 4 0 (Or.inl rfl)]
    have f4' : fAt s 4 0 = _ := f4
    rw [f4']; omega
  have e1 : fAt s 10 1 = m := by
    rw [keep 9 1 (Or.inr (by decide)), keep 8 1 (Or.inr (by decide)), keep 7 1 (Or.inl rfl)]
    have g7' : fAt s 7 1 = _ := g7
    rw [g7']; omega
  have e2 : fAt s 10 2 = d := by
    have h10' : fAt s 10 2 = _ := h10
    rw [h10']; omega
  rw [trip_ten hsz hall, e0, e1, e2]

end Go.Proofs.YtgcgpeeokdnplaaDoor.Days
