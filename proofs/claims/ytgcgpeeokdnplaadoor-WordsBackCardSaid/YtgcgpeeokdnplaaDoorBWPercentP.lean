/- Percent: the program's and the document's texts of ratios are the same. Conditions: each law's own. -/
import Derived.Test.YtgcgpeeokdnplaaDoorBWAmountP
import Derived.Test.YtgcgpeeokdnplaaDoorBPAx0
import Derived.Test.YtgcgpeeokdnplaaDoorBPAx17
namespace Go.Proofs.YtgcgpeeokdnplaaDoor.Pure
open Go.RowKit Go.Lib Go.Proofs.YtgcgpeeokdnplaaDoorW.PrintWords Go.Proofs.YtgcgpeeokdnplaaDoorW.PrintLast Go.Proofs.YtgcgpeeokdnplaaDoor.PA Go.Proofs.YtgcgpeeokdnplaaDoor.Dig
set_option linter.unusedVariables false

/-- The text of a ratio: the whole part, and what the long division gives. -/
def perS (acc : List UInt8) : Option (List UInt8) → ByteArray × Bool
  | none => ((⟨#[]⟩ : ByteArray), false)
  | some [] => (B (acc ++ [37]), true)
  | some (x :: l) => (B (acc ++ 46 :: x :: l ++ [37]), true)

theorem natdiv (a d : Nat) : Int.tdiv (a : Int) (d : Int) = ((a / d : Nat) : Int) := by rw [Int.tdiv_eq_ediv_of_nonneg (by omega)]; exact (Int.natCast_ediv a d).symm
theorem natmod (a d : Nat) : Int.tmod (a : Int) (d : Int) = ((a % d : Nat) : Int) := by rw [Int.tmod_eq_emod_of_nonneg (by omega)]; exact (Int.natCast_emod a d).symm

theorem fmtI (u : Nat) (h : u < 9223372036854775808) : strconv_FormatInt_16.f (u : Int) 10 = some (B (decDigits u)) := by
  unfold strconv_FormatInt_16.f
  rw [if_pos ⟨rfl, by omega, by omega⟩]
  unfold itoa
  rw [if_neg (by omega), Int.toNat_natCast]
  rfl

theorem trimR_snoc (l : List UInt8) (x : UInt8) : trimRightB (l ++ [x]) 48 = if x = 48 then trimRightB l 48 else l ++ [x] := by
  unfold trimRightB
  rw [List.reverse_append]
  show (List.dropWhile (· == 48) (x :: l.reverse)).reverse = _
  by_cases hx : x = 48
  · subst hx; simp [List.dropWhile]
  · have : (x == 48) = false := by simpa using hx
    rw [if_neg hx]
    simp [List.dropWhile, this]
theorem trim_ne : ∀ (j p : Nat), p < 10 ^ j → trimRightB (pad j p) 48 = [] → p = 0
  | 0, p, hp, _ => by simpa using hp
  | j + 1, p, hp, h => by
    have h10 := Nat.mod_lt p (show 0 < 10 by decide)
    rw [show pad (j + 1) p = pad j (p / 10) ++ [dig (p % 10)] from rfl, trimR_snoc] at h
    by_cases hx : dig (p % 10) = 48
    · rw [if_pos hx] at h
      have h0 := (dig_zero h10).1 hx
      have h1 := trim_ne j (p / 10) (by rw [Nat.pow_succ] at hp; omega) h
      omega
    · rw [if_neg hx] at h
      simp at h

theorem wper_core (q : Nat) (n d W p : Nat) (hd : ¬ (d : Int) = 0) (hW : W ≤ 100000000000) (hp : p < 1000000)
    (H : wrap64 (Int.tdiv (wrap64 ((wrap64 ((n : Int) * 100)) * 1000000)) (d : Int)) = ((W * 1000000 + p : Nat) : Int)) :
    words_Percent.j0 (q + 1) (n : Int) (d : Int) false = some (perS (decDigits W) (some (trimRightB (pad 6 p) 48))) := by
  have e37 : (⟨#[37]⟩ : ByteArray) = B [37] := rfl
  have e46 : (⟨#[46]⟩ : ByteArray) = B [46] := rfl
  have q1 : (W * 1000000 + p) / 1000000 = W := by omega
  have q2 : (W * 1000000 + p) % 1000000 = p := by omega
  have t2 : Int.tdiv ((W * 1000000 + p : Nat) : Int) 1000000 = (W : Int) := by rw [show (1000000 : Int) = ((1000000 : Nat) : Int) from rfl, natdiv, q1]
  have t3 : Int.tmod ((W * 1000000 + p : Nat) : Int) 1000000 = (p : Int) := by rw [show (1000000 : Int) = ((1000000 : Nat) : Int) from rfl, natmod, q2]
  have t4 : wrap64 (W : Int) = (W : Int) := wr (by omega) (by omega)
  have t5 : wrap64 (1000000 + (p : Int)) = ((1000000 + p : Nat) : Int) := by rw [wr (by omega) (by omega)]; omega
  have l1 := dec_len W (by omega)
  have f1 := fmtI W (by omega)
  have f2 := fmtI (1000000 + p) (by omega)
  have f3 : decDigits (1000000 + p) = dig 1 :: pad 6 p := by
    have h := dec_pad 6 1 p (by decide) hp
    rw [show decDigits 1 = [dig 1] from dec_small (by decide), show 10 ^ 6 * 1 + p = 1000000 + p by omega] at h
    exact h
  rw [f3] at f2
  have htr : strings_TrimRight.f ((B (dig 1 :: pad 6 p)).extract 1 (B (dig 1 :: pad 6 p)).size) (⟨#[48]⟩ : ByteArray) = some (B (trimRightB (pad 6 p) 48)) := by
    rw [B_tail]
    unfold strings_TrimRight.f
    rw [if_pos ⟨rfl, by rw [B_size, pad_len]; decide⟩]
    rfl
  have l2 : (trimRightB (pad 6 p) 48).length ≤ 6 := by
    have h1 : (trimRightB (pad 6 p) 48).length ≤ (pad 6 p).length := by
      unfold trimRightB
      rw [List.length_reverse]
      exact Nat.le_trans (List.dropWhile_sublist _).length_le (by rw [List.length_reverse]; exact Nat.le_refl _)
    rw [pad_len] at h1
    exact h1
  have hne : p ≠ 0 → trimRightB (pad 6 p) 48 ≠ [] := fun h e => h (trim_ne 6 p hp e)
  clear q1 q2 hp hW f3
  simp only [words_Percent.j0, Bool.false_eq_true, if_false]
  rw [if_neg hd, H, t2, t4, f1, Option.bind_some, t3]
  by_cases hz : p = 0
  · subst hz
    rw [if_neg (by decide), if_pos (by rw [B_size]; omega), pad_zero, e37, B_append]
    rfl
  · rw [if_pos (by omega), t5, f2, Option.bind_some, if_pos (by rw [B_size]; simp only [List.length_cons]; omega), htr, Option.bind_some, e46, e37]
    have hne := hne hz
    generalize trimRightB (pad 6 p) 48 = T at *
    simp only [B_append, B_size, List.length_append, List.length_cons, List.length_nil]
    rw [if_pos (by omega), if_pos (by omega), if_pos (by omega)]
    cases T with
    | nil => exact absurd rfl hne
    | cons x T => show some (B (decDigits W ++ ([46] ++ x :: T) ++ [37]), true) = some (B (decDigits W ++ 46 :: x :: T ++ [37]), true); rfl

theorem per_arith {A d : Nat} (hd : 0 < d) (hA9 : A ≤ 100000000000) : ∃ p, A % d * 10 ^ 6 / d = p ∧ p < 1000000 ∧ A / d ≤ 100000000000 ∧ A * 1000000 / d = A / d * 1000000 + p := by
  have hr : A % d < d := Nat.mod_lt _ hd
  refine ⟨_, rfl, ?_, Nat.le_trans (Nat.div_le_self _ _) hA9, ?_⟩
  · rw [Nat.div_lt_iff_lt_mul hd, Nat.mul_comm 1000000 d]
    exact Nat.mul_lt_mul_of_pos_right hr (by decide)
  · have e : A * 1000000 = A % d * 10 ^ 6 + d * (A / d * 1000000) := by
      conv => lhs; rw [← Nat.div_add_mod A d]
      rw [Nat.add_mul, Nat.mul_assoc, Nat.add_comm]
    rw [e, Nat.add_mul_div_left _ _ hd, Nat.add_comm]

theorem nat_ne (z : Nat) (h : ¬ z = 0) : (((z : Nat) : Int) != 0) = true := bne_iff_ne.2 (by omega)

theorem wper_p {n d : Nat} (hn : n ≤ 1000000000) (hd : 0 < d) (hd9 : d ≤ 1000000000) :
    Ev (fun k => words_Percent.j0 k (n : Int) (d : Int) (Int.tmod (wrap64 ((wrap64 ((n : Int) * 100)) * 1000000)) (d : Int) != 0)) (perS (decDigits (n * 100 / d)) (longdiv d 6 (n * 100 % d))) := by
  have w1 : wrap64 ((n : Int) * 100) = ((n * 100 : Nat) : Int) := by rw [wr (by omega) (by omega)]; omega
  have w2 : wrap64 (((n * 100 : Nat) : Int) * 1000000) = ((n * 100 * 1000000 : Nat) : Int) := by rw [wr (by omega) (by omega)]; omega
  have hA9 : n * 100 ≤ 100000000000 := by omega
  have hd0 : ¬ (d : Int) = 0 := by omega
  have w3 : wrap64 ((wrap64 ((n : Int) * 100)) * 1000000) = ((n * 100 * 1000000 : Nat) : Int) := by rw [w1, w2]
  clear w1 w2 hn hd9
  obtain ⟨p, hp, hp6, hW, hQ⟩ := per_arith hd hA9
  have H : wrap64 (Int.tdiv (wrap64 ((wrap64 ((n : Int) * 100)) * 1000000)) (d : Int)) = ((n * 100 / d * 1000000 + p : Nat) : Int) := by
    rw [w3, natdiv, hQ]
    generalize n * 100 / d = W at *
    exact wr (by omega) (by omega)
  have hmod : n * 100 % d * 10 ^ 6 % d = n * 100 * 1000000 % d := by rw [Nat.mod_mul_mod]
  have hr : n * 100 % d < d := Nat.mod_lt _ hd
  refine ⟨1, fun k hk => ?_⟩
  obtain ⟨q, rfl⟩ : ∃ q, k = q + 1 := ⟨k - 1, by omega⟩
  show words_Percent.j0 (q + 1) (n : Int) (d : Int) (Int.tmod (wrap64 ((wrap64 ((n : Int) * 100)) * 1000000)) (d : Int) != 0) = _
  by_cases h0 : n * 100 * 1000000 % d = 0
  · have hb : (Int.tmod (wrap64 ((wrap64 ((n : Int) * 100)) * 1000000)) (d : Int) != 0) = false := by rw [w3, natmod, h0]; rfl
    rw [hb, longdiv_pad hd 6 _ hr (by rw [hmod]; exact h0), hp]
    exact wper_core q n d _ p hd0 hW hp6 H
  · have hb : (Int.tmod (wrap64 ((wrap64 ((n : Int) * 100)) * 1000000)) (d : Int) != 0) = true := by
      rw [w3, natmod]
      exact nat_ne _ h0
    rw [hb, longdiv_none hd 6 _ hr (by rw [hmod]; exact h0)]
    simp only [words_Percent.j0, if_true]
    rfl
end Go.Proofs.YtgcgpeeokdnplaaDoor.Pure
