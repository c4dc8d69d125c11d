/- What the document's Months comes to: the pieces of 'MF', one by one. Conditions: each law's own. -/
import Derived.Test.YtlipkhhpjelicaaDoorMonths
import Derived.Test.YtlipkhhpjelicaaDoorPAx0
import Derived.Test.YtlipkhhpjelicaaDoorPAx30
namespace Go.Proofs.YtlipkhhpjelicaaDoor.Days
open Go.RowKit Go.Proofs.YtlipkhhpjelicaaDoorW.PrintWords Go.Proofs.YtlipkhhpjelicaaDoorW.PrintLast Go.Proofs.YtlipkhhpjelicaaDoor.PA Go.Proofs.YtlipkhhpjelicaaDoor.Cal
set_option linter.unusedVariables false

def toS (x : Pc) : S31 := ⟨x.1.1, x.1.2.1, x.1.2.2, x.2⟩

theorem rmonths_loop {last n : Int} {xs : List Pc} (h : MF last n xs) (hl : last ≤ 109572) : ∀ acc : List S31, 0 ≤ n → acc.length + xs.length < 4398046511104 →
    Ev (fun k => levyref2_Months.l0 k n last acc) (acc ++ xs.map toS) := by
  induction h with
  | @nil n hn =>
    intro acc _ _
    refine ev_const fun k => ?_
    simp only [levyref2_Months.l0]
    rw [if_neg (by omega)]
    simp
  | @cons n k rest hk hn hr ih =>
    intro acc h0 hlen
    have hk3 := hk.1
    have hku := hk.2.2
    have hkl := hk.2.1
    have hB := B_nonneg k
    have hT := B_top (k := k + 1) (by omega)
    have hlen1 : acc.length < 4398046511104 := by simp only [List.length_cons] at hlen; omega
    obtain ⟨K1, h1⟩ := month_r hk
    obtain ⟨K2, h2⟩ := begins_r (n := k + 1) (by omega)
    obtain ⟨nx, hnx⟩ : ∃ nx, nx = min (B (k + 1)) (last + 1) := ⟨_, rfl⟩
    rw [← hnx] at ih ⊢
    obtain ⟨K3, h3⟩ := ih (acc ++ [toS (dateS n k, nx - n)]) (by omega) (by rw [List.length_append]; simp only [List.length_cons, List.length_nil] at hlen ⊢; omega)
    dsimp only at h1 h2 h3
    have e : acc ++ ((dateS n k, nx - n) :: rest).map toS = (acc ++ [toS (dateS n k, nx - n)]) ++ rest.map toS := by simp
    rw [e]
    have w1 : wrap64 (((k : Nat) : Int) + 1) = ((k + 1 : Nat) : Int) := wr (by omega) (by omega)
    have w2 : wrap64 (last + 1) = last + 1 := wr (by omega) (by omega)
    have w3 : wrap64 (1900 + wrap64 (Int.tdiv ((k : Nat) : Int) 12)) = 1900 + ((k / 12 : Nat) : Int) := by
      rw [Int.tdiv_eq_ediv_of_nonneg (by omega), wr (x := ((k : Nat) : Int) / 12) (by omega) (by omega), wr (by omega) (by omega)]; omega
    have w4 : wrap64 (Int.tmod ((k : Nat) : Int) 12 + 1) = ((k % 12 : Nat) : Int) + 1 := by
      rw [Int.tmod_eq_emod_of_nonneg (by omega), wr (by omega) (by omega)]; omega
    have w5 : wrap64 (n - B k + 1) = n - B k + 1 := wr (by omega) (by omega)
    refine ⟨K1 + K2 + K3 + 1, fun q hq => ?_⟩
    obtain ⟨q, rfl⟩ : ∃ m, q = m + 1 := ⟨q - 1, by omega⟩
    show levyref2_Months.l0 (q + 1) n last acc = _
    simp only [levyref2_Months.l0]
    rw [if_pos hn, h1 _ (by omega), Option.bind_some]
    rw [w1, h2 _ (by omega), Option.bind_some, w2, w3, w4, w5]
    by_cases c : B (k + 1) > last + 1
    · rw [if_pos c, if_pos hlen1, wr (x := last + 1 - n) (by omega) (by omega)]
      have e2 : nx = last + 1 := by omega
      rw [e2] at h3 ⊢
      exact h3 _ (by omega)
    · rw [if_neg c, if_pos hlen1, wr (x := B (k + 1) - n) (by omega) (by omega)]
      have e2 : nx = B (k + 1) := by omega
      rw [e2] at h3 ⊢
      exact h3 _ (by omega)

theorem rmonths_p {a b : Int} {xs : List Pc} (h : MF (min b 109572) (max a 0) xs) : Ev (fun k => levyref2_Months.f k a b) (xs.map toS) := by
  have hlen : xs.length < 4398046511104 := by
    have := mf_len h (k := 0) (by show (0 : Int) ≤ _; omega) (by omega)
    omega
  obtain ⟨K, hK⟩ := rmonths_loop h (by omega) [] (by omega) (by simpa using hlen)
  dsimp only at hK
  rw [List.nil_append] at hK
  refine ⟨K + 3, fun k hk => ?_⟩
  obtain ⟨k, rfl⟩ : ∃ m, k = m + 1 + 1 := ⟨k - 2, by omega⟩
  show levyref2_Months.f (k + 1 + 1) a b = _
  have j1 : ∀ x y : Int, x = max a 0 → y = min b 109572 → levyref2_Months.j1 (k + 1) x y [] = some (xs.map toS) := by
    rintro x y rfl rfl
    simp only [levyref2_Months.j1]
    exact hK _ (by omega)
  have j0 : ∀ x : Int, x = max a 0 → levyref2_Months.j0 (k + 1 + 1) x b [] = some (xs.map toS) := by
    intro x hx
    simp only [levyref2_Months.j0]
    by_cases c : b > 109572
    · rw [if_pos c]; exact j1 _ _ hx (by omega)
    · rw [if_neg c]; exact j1 _ _ hx (by omega)
  unfold levyref2_Months.f
  by_cases c : a < 0
  · rw [if_pos c]; exact j0 _ (by omega)
  · rw [if_neg c]; exact j0 _ (by omega)

end Go.Proofs.YtlipkhhpjelicaaDoor.Days
