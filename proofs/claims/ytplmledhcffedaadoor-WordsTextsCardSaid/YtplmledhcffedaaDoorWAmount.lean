/- Amount: the program's and the document's texts of cents are the same. Conditions: each law's own. -/
import Derived.Test.YtplmledhcffedaaDoorWEval
import Derived.Test.YtplmledhcffedaaDoorPAx0
import Derived.Test.YtplmledhcffedaaDoorPAx9
import Derived.Test.YtplmledhcffedaaDoorPAx10
namespace Go.Proofs.YtplmledhcffedaaDoor.Pure
open Go.RowKit Go.Lib Go.Proofs.YtplmledhcffedaaDoorW.PrintWords Go.Proofs.YtplmledhcffedaaDoorW.PrintLast Go.Proofs.YtplmledhcffedaaDoor.PA Go.Proofs.YtplmledhcffedaaDoor.Dig
set_option linter.unusedVariables false

/-- The text of an amount. -/
def amountL (neg : Bool) (u : Nat) : List UInt8 := (if neg then [45] else []) ++ decDigits (u / 100) ++ [46, dig (u / 10 % 10), dig (u % 10)]

theorem step_digit {x : Int} {u : Nat} (hu : u < 9223372036854775809) (hx : x = (u : Int) ∨ x = -(u : Int)) :
    (Int.tmod x 10 < 0 → wrap64 (48 + wrap64 (-(Int.tmod x 10))) % 256 = ((dig (u % 10)).toNat : Int)) ∧ (¬ Int.tmod x 10 < 0 → wrap64 (48 + Int.tmod x 10) % 256 = ((dig (u % 10)).toNat : Int)) ∧ (wrap64 (Int.tdiv x 10) = ((u / 10 : Nat) : Int) ∨ wrap64 (Int.tdiv x 10) = -((u / 10 : Nat) : Int)) := by
  have hm : Int.tmod (u : Int) 10 = ((u % 10 : Nat) : Int) := by rw [Int.tmod_eq_emod_of_nonneg (by omega)]; omega
  have hd : Int.tdiv (u : Int) 10 = ((u / 10 : Nat) : Int) := by rw [Int.tdiv_eq_ediv_of_nonneg (by omega)]; omega
  have h10 := Nat.mod_lt u (show 0 < 10 by decide)
  rcases hx with rfl | rfl
  · rw [hm, hd]
    exact ⟨fun h => absurd h (by omega), fun _ => digI h10, .inl (wr (by omega) (by omega))⟩
  · rw [Int.neg_tmod, Int.neg_tdiv, hm, hd]
    refine ⟨fun h => ?_, fun h => ?_, .inr (wr (by omega) (by omega))⟩
    · rw [Int.neg_neg, wr (x := ((u % 10 : Nat) : Int)) (by omega) (by omega)]
      exact digI h10
    · have h0 : u % 10 = 0 := by omega
      rw [h0]
      simpa using digI (d := 0) (by decide)

/-- One round of the document's loop that goes on. -/
theorem round_on (k : Nat) {x0 x4 : Int} {u : Nat} (hu : u < 9223372036854775809) (hx : x4 = (u : Int) ∨ x4 = -(u : Int)) (pre : List Int) (hp : pre.length < 1000) {i : Int} (h0 : 0 ≤ i) (h1 : i < 1000) :
    levyref4_Amount.j1 (k + 1) x0 pre x4 i true = levyref4_Amount.l0 k x0 ((if i = 2 then pre ++ [46] else pre) ++ [((dig (u % 10)).toNat : Int)]) (wrap64 (Int.tdiv x4 10)) (i + 1) := by
  obtain ⟨s1, s2, s3⟩ := step_digit hu hx
  have hw : wrap64 (i + 1) = i + 1 := wr (by omega) (by omega)
  simp only [levyref4_Amount.j1, if_true, Option.bind_some]
  rw [hw]
  by_cases hi : i = 2
  · rw [if_pos hi, if_pos hi, if_pos (by omega)]
    by_cases hn : Int.tmod x4 10 < 0
    · rw [if_pos hn, if_pos (by rw [List.length_append]; simp; omega), s1 hn]
    · rw [if_neg hn, if_pos (by rw [List.length_append]; simp; omega), s2 hn]
  · rw [if_neg hi, if_neg hi]
    by_cases hn : Int.tmod x4 10 < 0
    · rw [if_pos hn, if_pos (by omega), s1 hn]
    · rw [if_neg hn, if_pos (by omega), s2 hn]

/-- What stands at the end. -/
def finL (x0 : Int) (l : List Int) : List Int := if x0 < 0 then l ++ [45] else l

theorem amount_fin (x0 : Int) (pre : List Int) (hp : pre.length < 1000) (i : Int) (h3 : ¬ i < 3) : Ev (fun k => levyref4_Amount.l0 k x0 pre 0 i) (strOfNums (finL x0 pre).reverse) := by
  obtain ⟨K1, h1⟩ := turned_p (pre ++ [45]) (by rw [List.length_append]; simp; omega)
  obtain ⟨K2, h2⟩ := turned_p pre (by omega)
  dsimp only at h1 h2
  refine ⟨K1 + K2 + 2, fun k hk => ?_⟩
  obtain ⟨q, rfl⟩ : ∃ q, k = q + 1 + 1 := ⟨k - 2, by omega⟩
  show levyref4_Amount.l0 (q + 1 + 1) x0 pre 0 i = _
  conv => lhs; unfold levyref4_Amount.l0
  rw [if_neg h3]
  show levyref4_Amount.j1 (q + 1) x0 pre 0 i false = _
  unfold levyref4_Amount.j1 finL
  rw [if_neg (by decide)]
  by_cases hx : x0 < 0
  · rw [if_pos hx, if_pos hx, if_pos (by omega), h1 q (by omega)]; rfl
  · rw [if_neg hx, if_neg hx, h2 q (by omega)]; rfl

theorem amount_loop (x0 : Int) (n : Nat) : ∀ (u : Nat) (x4 : Int) (pre : List Int) (i : Nat), u ≤ n → u < 9223372036854775809 → (x4 = (u : Int) ∨ x4 = -(u : Int)) → 3 ≤ i → i + (decDigits u).length ≤ 100 → pre.length + (decDigits u).length ≤ 100 →
    Ev (fun k => levyref4_Amount.l0 k x0 pre x4 (i : Int)) (strOfNums (finL x0 (pre ++ if u = 0 then [] else numsB (decDigits u).reverse)).reverse) := by
  induction n with
  | zero =>
    intro u x4 pre i hu hb hx h3 hi hp
    obtain rfl : u = 0 := by omega
    obtain rfl : x4 = 0 := by omega
    rw [if_pos rfl, List.append_nil]
    exact amount_fin x0 pre (by omega) i (by omega)
  | succ n ih =>
    intro u x4 pre i hu hb hx h3 hi hp
    by_cases h0 : u = 0
    · subst h0
      obtain rfl : x4 = 0 := by omega
      rw [if_pos rfl, List.append_nil]
      exact amount_fin x0 pre (by omega) i (by omega)
    · have hx0 : (x4 != 0) = true := by simp; omega
      have hdl : (decDigits (u / 10)).length ≤ (decDigits u).length ∧ (¬ u < 10 → (decDigits u).length = (decDigits (u / 10)).length + 1) := by
        by_cases h9 : u < 10
        · rw [dec_small h9, dec_small (show u / 10 < 10 by omega)]; exact ⟨Nat.le_refl _, fun h => absurd h9 h⟩
        · rw [dec_big h9, List.length_append]; simp
      obtain ⟨K, hK⟩ : Ev (fun k => levyref4_Amount.l0 k x0 (pre ++ [((dig (u % 10)).toNat : Int)]) (wrap64 (Int.tdiv x4 10)) ((i + 1 : Nat) : Int)) (strOfNums (finL x0 (pre ++ if u = 0 then [] else numsB (decDigits u).reverse)).reverse) := by
        by_cases h9 : u < 10
        · have hz : wrap64 (Int.tdiv x4 10) = 0 := by have := (step_digit hb hx).2.2; omega
          rw [hz, if_neg h0, dec_small h9, Nat.mod_eq_of_lt h9]
          exact amount_fin x0 _ (by rw [List.length_append]; simp; omega) _ (by omega)
        · have h := ih (u / 10) (wrap64 (Int.tdiv x4 10)) (pre ++ [((dig (u % 10)).toNat : Int)]) (i + 1) (by omega) (by omega) (step_digit hb hx).2.2 (by omega) (by have := hdl.2 h9; omega) (by have := hdl.2 h9; rw [List.length_append]; simp; omega)
          rw [if_neg (by omega)] at h
          rw [if_neg h0, dec_big h9]
          simpa [numsB] using h
      dsimp only at hK
      refine ⟨K + 2, fun k hk => ?_⟩
      obtain ⟨q, rfl⟩ : ∃ q, k = q + 1 + 1 := ⟨k - 2, by omega⟩
      show levyref4_Amount.l0 (q + 1 + 1) x0 pre x4 (i : Int) = _
      conv => lhs; unfold levyref4_Amount.l0
      rw [if_neg (by omega), hx0, round_on q hb hx pre (by omega) (by omega) (by omega), if_neg (by omega), show (i : Int) + 1 = ((i + 1 : Nat) : Int) by omega]
      exact hK q (by omega)

theorem ramount_p (c : Int) (h1 : -9223372036854775808 ≤ c) (h2 : c ≤ 9223372036854775807) : Ev (fun k => levyref4_Amount.f k c) (B (amountL (decide (c < 0)) c.natAbs)) := by
  obtain ⟨u, hu⟩ : ∃ u, u = c.natAbs := ⟨_, rfl⟩
  rw [← hu]
  have hb : u < 9223372036854775809 := by omega
  have hx0 : c = (u : Int) ∨ c = -(u : Int) := by omega
  have hx1 := (step_digit hb hx0).2.2
  have hx2 := (step_digit (show u / 10 < 9223372036854775809 by omega) hx1).2.2
  have hx3 := (step_digit (show u / 10 / 10 < 9223372036854775809 by omega) hx2).2.2
  obtain ⟨K, hK⟩ := amount_loop c (u / 10 / 10 / 10) (u / 10 / 10 / 10) _ [((dig (u % 10)).toNat : Int), ((dig (u / 10 % 10)).toNat : Int), 46, ((dig (u / 10 / 10 % 10)).toNat : Int)] 3 (Nat.le_refl _) (by omega) hx3 (by omega) (by have := dec_len (u / 10 / 10 / 10) (by omega); omega) (by have := dec_len (u / 10 / 10 / 10) (by omega); simp; omega)
  dsimp only at hK
  refine ⟨K + 6, fun k hk => ?_⟩
  obtain ⟨q, rfl⟩ : ∃ q, k = q + 1 + 1 + 1 + 1 + 1 + 1 := ⟨k - 6, by omega⟩
  have hl : ∀ (m : Nat) (pre : List Int) (x4 i : Int), i < 3 → levyref4_Amount.l0 (m + 1) c pre x4 i = levyref4_Amount.j1 m c pre x4 i true := fun m pre x4 i h => by
    conv => lhs; unfold levyref4_Amount.l0
    rw [if_pos h]
  show levyref4_Amount.l0 (q + 1 + 1 + 1 + 1 + 1 + 1) c [] c 0 = _
  rw [hl _ _ _ _ (by decide), round_on _ hb hx0 [] (by decide) (by decide) (by decide), if_neg (by decide)]
  rw [hl _ _ _ _ (by decide), round_on _ (show u / 10 < 9223372036854775809 by omega) hx1 _ (by simp) (by decide) (by decide), if_neg (by decide)]
  rw [hl _ _ _ _ (by decide), round_on _ (show u / 10 / 10 < 9223372036854775809 by omega) hx2 _ (by simp) (by decide) (by decide), if_pos (by decide)]
  have h := hK q (by omega)
  refine Eq.trans h ?_
  congr 1
  have e100 : u / 100 = u / 10 / 10 := by omega
  have hdec : decDigits (u / 100) = (if u / 10 / 10 / 10 = 0 then [] else decDigits (u / 10 / 10 / 10)) ++ [dig (u / 10 / 10 % 10)] := by
    rw [e100]
    by_cases h9 : u / 10 / 10 < 10
    · rw [dec_small h9, if_pos (by omega), Nat.mod_eq_of_lt h9]; rfl
    · rw [dec_big h9, if_neg (by omega)]
  rw [← strOf_numsB]
  congr 1
  unfold amountL finL
  rw [hdec]
  by_cases hc : c < 0
  · rw [if_pos hc, decide_eq_true hc]
    by_cases hz : u / 10 / 10 / 10 = 0
    · rw [if_pos hz, if_pos hz]; simp [numsB]
    · rw [if_neg hz, if_neg hz]; simp [numsB]
  · rw [if_neg hc, decide_eq_false hc]
    by_cases hz : u / 10 / 10 / 10 = 0
    · rw [if_pos hz, if_pos hz]; simp [numsB]
    · rw [if_neg hz, if_neg hz]; simp [numsB]

theorem fmtU (u : Nat) (h : u < 18446744073709551616) : strconv_FormatUint_13.f (u : Int) 10 = some (B (decDigits u)) := by
  unfold strconv_FormatUint_13.f
  rw [if_pos ⟨rfl, by omega, by omega⟩, Int.toNat_natCast]
  rfl

theorem two_digits (u : Nat) : (if u % 100 < 10 then [48] ++ decDigits (u % 100) else decDigits (u % 100)) = [dig (u / 10 % 10), dig (u % 10)] := by
  have e1 : u / 10 % 10 = u % 100 / 10 := by omega
  have e2 : u % 10 = u % 100 % 10 := by omega
  by_cases h : u % 100 < 10
  · rw [if_pos h, dec_small h, e1, e2, Nat.div_eq_of_lt h, Nat.mod_eq_of_lt h]; rfl
  · rw [if_neg h, dec_big h, dec_small (by omega), e1, e2]; rfl

theorem wamount_j (pre : List UInt8) (hp : pre.length ≤ 1) (u : Nat) (hb : u < 9223372036854775809) : Ev (fun k => words_Amount.j0 k (B pre) (u : Int)) (B (pre ++ decDigits (u / 100) ++ [46, dig (u / 10 % 10), dig (u % 10)])) := by
  refine ⟨1, fun k hk => ?_⟩
  obtain ⟨q, rfl⟩ : ∃ q, k = q + 1 := ⟨k - 1, by omega⟩
  have e1 : Int.tmod (u : Int) 100 = ((u % 100 : Nat) : Int) := by rw [Int.tmod_eq_emod_of_nonneg (by omega)]; omega
  have e2 : IntKind.u64.wrap (Int.tdiv (u : Int) 100) = ((u / 100 : Nat) : Int) := by rw [Int.tdiv_eq_ediv_of_nonneg (by omega), IntKind.wrap_u64]; omega
  have l1 := dec_len (u % 100) (by omega)
  have l2 := dec_len (u / 100) (by omega)
  have e46 : (⟨#[46]⟩ : ByteArray) = B [46] := rfl
  have e48 : (⟨#[48]⟩ : ByteArray) = B [48] := rfl
  show words_Amount.j0 (q + 1) (B pre) (u : Int) = _
  simp only [words_Amount.j0]
  rw [e1, e2, fmtU _ (by omega), fmtU _ (by omega)]
  simp only [Option.bind_some]
  rw [e46, e48, ← two_digits u]
  simp only [B_append, B_size, List.length_append, List.length_cons, List.length_nil]
  by_cases h : u % 100 < 10
  · rw [if_pos (by omega), if_pos (by omega), if_pos (by omega), if_pos (by omega), if_pos (by omega), if_pos h]
    simp
  · rw [if_neg (by omega), if_pos (by omega), if_pos (by omega), if_pos (by omega), if_neg h]
    simp

theorem wamount_p (c : Int) (h1 : -9223372036854775808 ≤ c) (h2 : c ≤ 9223372036854775807) : Ev (fun k => words_Amount.f k c) (B (amountL (decide (c < 0)) c.natAbs)) := by
  obtain ⟨u, hu⟩ : ∃ u, u = c.natAbs := ⟨_, rfl⟩
  rw [← hu]
  unfold amountL
  by_cases hc : c < 0
  · have e : IntKind.u64.wrap (-(IntKind.u64.wrap c)) = (u : Int) := by rw [IntKind.wrap_u64, IntKind.wrap_u64]; omega
    refine Ev.congr (f := fun k => words_Amount.j0 k (B [45]) (u : Int)) (fun k => by show words_Amount.f k c = _; unfold words_Amount.f; rw [if_pos hc, e]; rfl) ?_
    rw [decide_eq_true hc, if_pos rfl]
    exact wamount_j [45] (by decide) u (by omega)
  · have e : IntKind.u64.wrap c = (u : Int) := by rw [IntKind.wrap_u64]; omega
    refine Ev.congr (f := fun k => words_Amount.j0 k (B []) (u : Int)) (fun k => by show words_Amount.f k c = _; unfold words_Amount.f; rw [if_neg hc, e]; rfl) ?_
    rw [decide_eq_false hc, if_neg (by decide)]
    exact wamount_j [] (by decide) u (by omega)
end Go.Proofs.YtplmledhcffedaaDoor.Pure
