/- Plain law of DaysShares: the months of a span follow one another without a gap, and what the years' shares come to. Conditions: each law's own. -/
import Derived.Test.YtlipkhhpjelicaaDoorMonths
namespace Go.Proofs.YtlipkhhpjelicaaDoor.Days
open Go.RowKit Go.Proofs.YtlipkhhpjelicaaDoorW.PrintWords Go.Proofs.YtlipkhhpjelicaaDoorW.PrintLast Go.Proofs.YtlipkhhpjelicaaDoor.PA Go.Proofs.YtlipkhhpjelicaaDoor.Cal
set_option linter.unusedVariables false

/-- The days of the first so many pieces. -/
def sumS : List Pc → Nat → Int
  | [], _ => 0
  | _ :: _, 0 => 0
  | x :: xs, i + 1 => x.2 + sumS xs i

theorem sumS_zero : ∀ xs : List Pc, sumS xs 0 = 0
  | [] => rfl
  | _ :: _ => rfl

theorem sumS_succ : ∀ {xs : List Pc} {i : Nat} {x : Pc}, xs[i]? = some x → sumS xs (i + 1) = sumS xs i + x.2
  | [], _, _, h => by simp at h
  | y :: ys, 0, x, h => by
    simp only [List.getElem?_cons_zero, Option.some.injEq] at h
    subst h
    show y.2 + sumS ys 0 = 0 + y.2
    rw [sumS_zero]; omega
  | y :: ys, i + 1, x, h => by
    rw [List.getElem?_cons_succ] at h
    have := sumS_succ h
    show y.2 + sumS ys (i + 1) = y.2 + sumS ys i + x.2
    omega

/-- Where the i-th piece begins, and what it is. -/
theorem mf_at {last : Int} (hl : last ≤ 109572) {n : Int} {xs : List Pc} (h : MF last n xs) : 0 ≤ n → ∀ {i : Nat} {x : Pc}, xs[i]? = some x →
    ∃ k, Mon (n + sumS xs i) k ∧ x = (dateS (n + sumS xs i) k, min (B (k + 1)) (last + 1) - (n + sumS xs i)) ∧ n + sumS xs i ≤ last ∧ (i ≠ 0 → n + sumS xs i = B k) ∧ n ≤ n + sumS xs i := by
  induction h with
  | nil => intro _ i x hx; simp at hx
  | @cons n k rest hk hn hr ih =>
    intro h0 i x hx
    have hu := hk.2.2
    cases i with
    | zero =>
      simp only [List.getElem?_cons_zero, Option.some.injEq] at hx
      rw [sumS_zero, show n + 0 = n by omega]
      exact ⟨k, hk, hx.symm, hn, fun c => absurd rfl c, by omega⟩
    | succ i =>
      rw [List.getElem?_cons_succ] at hx
      obtain ⟨k', hk', hx', hn', hi', hge⟩ := ih (by omega) hx
      have e : n + sumS ((dateS n k, min (B (k + 1)) (last + 1) - n) :: rest) (i + 1) = min (B (k + 1)) (last + 1) + sumS rest i := by
        show n + ((min (B (k + 1)) (last + 1) - n) + sumS rest i) = _
        omega
      rw [e]
      refine ⟨k', hk', hx', hn', fun _ => ?_, by omega⟩
      by_cases hi0 : i = 0
      · subst hi0
        rw [sumS_zero] at hn' hk' ⊢
        have e1 : min (B (k + 1)) (last + 1) + 0 = B (k + 1) := by omega
        rw [e1] at hk' hn' ⊢
        have h36 : k + 1 < 3600 := by
          refine Classical.byContradiction fun hc => ?_
          have := B_mono (show 3600 ≤ k + 1 by omega)
          have := B3600
          omega
        have hm : Mon (B (k + 1)) (k + 1) := ⟨h36, Int.le_refl _, by have := B_lt (show k + 1 < k + 1 + 1 by omega); omega⟩
        rw [mon_unique hk' hm]
      · exact hi' hi0

theorem mf_total {last : Int} {n : Int} {xs : List Pc} (h : MF last n xs) : n ≤ last + 1 → n + sumS xs xs.length = last + 1 := by
  induction h with
  | nil hn => intro h; show _ + (0 : Int) = _; omega
  | @cons n k rest hk hn hr ih =>
    intro h
    have := ih (by omega)
    show n + ((min (B (k + 1)) (last + 1) - n) + sumS rest rest.length) = last + 1
    omega

/-- What the year 1900 + j has of the first so many pieces. -/
def yearS (xs : List Pc) (i j : Nat) : Int := (xs.take i).foldl (partF (1900 + (j : Int))) 0

theorem yearS_zero (xs : List Pc) (j : Nat) : yearS xs 0 j = 0 := rfl
theorem yearS_succ {xs : List Pc} {i : Nat} {x : Pc} (h : xs[i]? = some x) (j : Nat) : yearS xs (i + 1) j = partF (1900 + (j : Int)) (yearS xs i j) x := by
  unfold yearS
  have hi : i < xs.length := (List.getElem?_eq_some_iff.1 h).1
  have e : xs.take (i + 1) = xs.take i ++ [x] := by
    rw [List.take_add_one, h]; rfl
  rw [e, List.foldl_append]
  rfl
theorem yearS_all {last : Int} (hl : last ≤ 109572) {n : Int} {xs : List Pc} (h : MF last n xs) (h0 : 0 ≤ n) {j : Nat} (hj : j < 300) : yearS xs xs.length j = max 0 (min (B (12 * j + 12)) (last + 1) - max n (B (12 * j))) := by
  unfold yearS
  rw [List.take_length, part_sum hl hj h h0 (Int.le_refl 0) (by omega)]
  omega

/-- What a piece is, in the numbers that the statement looks at. -/
theorem piece_facts {last : Int} (hl : last ≤ 109572) {n : Int} {xs : List Pc} (h : MF last n xs) (h0 : 0 ≤ n) {i : Nat} {x : Pc} (hx : xs[i]? = some x) :
    0 ≤ n + sumS xs i ∧ n + sumS xs i ≤ 109572 ∧ numS x.1.1 x.1.2.1 x.1.2.2 = (n + sumS xs i, 0) ∧ 1 ≤ x.2 ∧ x.2 ≤ 31 ∧ 1900 ≤ x.1.1 ∧ x.1.1 ≤ 2199 ∧ 1 ≤ x.1.2.2 ∧ x.1.2.2 ≤ 31 ∧ x.1.2.2 + x.2 - 1 ≤ lastD x.1.1 x.1.2.1 ∧ (1 < x.1.2.2 → n + sumS xs i = n) ∧ sumS xs (i + 1) = sumS xs i + x.2 := by
  obtain ⟨k, hk, hxe, hlast, hB, hge⟩ := mf_at hl h h0 hx
  have hs := sumS_succ hx
  obtain ⟨at_, hat⟩ : ∃ at_, at_ = n + sumS xs i := ⟨_, rfl⟩
  rw [← hat] at hk hxe hlast hB hge ⊢
  have hd := hk.day
  have hln := hk.len
  have hbd := len_bd k
  have hu := hk.2.2
  have hlo := hk.2.1
  have h36 := hk.1
  have hBs : B (k + 1) = B k + Cal.len k := rfl
  have e1 : x.1.1 = 1900 + ((k / 12 : Nat) : Int) := by rw [hxe]; rfl
  have e2 : x.1.2.1 = ((k % 12 : Nat) : Int) + 1 := by rw [hxe]; rfl
  have e3 : x.1.2.2 = at_ - B k + 1 := by rw [hxe]; rfl
  have e4 : x.2 = min (B (k + 1)) (last + 1) - at_ := by rw [hxe]
  have hkk : k = 12 * (k / 12) + k % 12 := by omega
  have hlen : Cal.len k = lastD (1900 + ((k / 12 : Nat) : Int)) (((k % 12 : Nat) : Int) + 1) := by
    have := lenE (k / 12) (k % 12) (by omega)
    rw [← hkk] at this
    exact this
  rw [e1, e2, e3, e4] 
  refine ⟨hd.1, hd.2, ?_, by omega, by omega, by omega, by omega, by omega, by omega, by rw [← hlen]; omega, fun hc => ?_, by rw [hs, e4]⟩
  · rw [numS_ok h36 (by omega) (by omega), show B k + (at_ - B k + 1) - 1 = at_ by omega]
  · by_cases hi : i = 0
    · subst hi; rw [sumS_zero] at hat; omega
    · have := hB hi; omega

/-- The shares of the first j years. -/
def tillS (a b : Int) (j : Nat) : Int := max 0 (min (B (12 * j)) (b + 1) - a)

theorem tillS_zero {a b : Int} (h0 : 0 ≤ a) : tillS a b 0 = 0 := by
  unfold tillS
  have : B (12 * 0) = 0 := rfl
  omega
theorem tillS_succ {a b : Int} (h : a ≤ b) (j : Nat) : tillS a b (j + 1) = tillS a b j + max 0 (min (B (12 * j + 12)) (b + 1) - max a (B (12 * j))) := by
  unfold tillS
  have := B_mono (show 12 * j ≤ 12 * j + 12 by omega)
  rw [show 12 * (j + 1) = 12 * j + 12 by omega]
  omega
theorem tillS_all {a b : Int} (h : a ≤ b) (hb : b ≤ 109572) : tillS a b 300 = b - a + 1 := by
  unfold tillS
  have : B (12 * 300) = 109573 := B3600
  omega
theorem whole_leap {j : Nat} (hj : j < 300) : B (12 * j + 12) - B (12 * j) = if leapB (1900 + (j : Int)) = true then 366 else 365 := by
  have h1 := B12 j
  have h2 := B12 (j + 1)
  have h3 := D_succ (y := 1900 + (j : Int)) (by omega)
  rw [show 12 * (j + 1) = 12 * j + 12 by omega, show (1900 : Int) + ((j + 1 : Nat) : Int) = 1900 + (j : Int) + 1 by omega] at h2
  rw [h1, h2, h3]
  unfold lp
  split <;> omega
end Go.Proofs.YtlipkhhpjelicaaDoor.Days
