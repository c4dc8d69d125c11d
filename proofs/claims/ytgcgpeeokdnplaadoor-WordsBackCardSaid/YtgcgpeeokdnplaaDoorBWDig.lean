/- Plain law of decimal texts: bytes as lists, zero-padded digits, long division. Conditions: each law's own. -/
import Derived.Lib.ItoaNum
import Derived.Lib.TrimByte
import Derived.Laws.BytesArg
namespace Go.Proofs.YtgcgpeeokdnplaaDoor.Dig
open Go.Lib
set_option linter.unusedVariables false

/-- The text of these bytes. -/
def B (l : List UInt8) : ByteArray := ⟨l.toArray⟩
theorem B_size (l : List UInt8) : (B l).size = l.length := by simp [B, ByteArray.size]
theorem B_append (a b : List UInt8) : B a ++ B b = B (a ++ b) := by
  apply ByteArray.ext
  simp [B]
theorem B_tail (x : UInt8) (l : List UInt8) : (B (x :: l)).extract 1 (B (x :: l)).size = B l := by
  apply ByteArray.ext
  simp [B, ByteArray.size]
/-- A digit's byte. -/
def dig (d : Nat) : UInt8 := UInt8.ofNat (48 + d)
theorem dig_zero {d : Nat} (h : d < 10) : dig d = 48 ↔ d = 0 := by
  constructor
  · intro e
    have : ∀ q : Fin 10, dig q.val = 48 → q.val = 0 := by decide
    exact this ⟨d, h⟩ e
  · rintro rfl; rfl
theorem dec_small {u : Nat} (h : u < 10) : decDigits u = [dig u] := by rw [decDigits, dif_pos h]; rfl
theorem dec_big {u : Nat} (h : ¬ u < 10) : decDigits u = decDigits (u / 10) ++ [dig (u % 10)] := by rw [decDigits, dif_neg h]; rfl

/-- The last j digits of p, with zeros ahead. -/
def pad : Nat → Nat → List UInt8
  | 0, _ => []
  | j + 1, p => pad j (p / 10) ++ [dig (p % 10)]
theorem pad_len : ∀ (j p : Nat), (pad j p).length = j
  | 0, _ => rfl
  | j + 1, p => by show (pad j (p / 10) ++ [dig (p % 10)]).length = j + 1; rw [List.length_append, pad_len j]; rfl
theorem pad_left : ∀ (j p : Nat), pad (j + 1) p = dig (p / 10 ^ j % 10) :: pad j (p % 10 ^ j)
  | 0, p => by simp [pad]
  | j + 1, p => by
    show pad (j + 1) (p / 10) ++ [dig (p % 10)] = dig (p / 10 ^ (j + 1) % 10) :: (pad j (p % 10 ^ (j + 1) / 10) ++ [dig (p % 10 ^ (j + 1) % 10)])
    rw [pad_left j (p / 10), Nat.div_div_eq_div_mul, List.cons_append, Nat.pow_succ, Nat.mul_comm (10 ^ j) 10]
    congr 2
    · rw [Nat.mod_mul_right_div_self]
    · rw [Nat.mod_mul_right_mod]
theorem dec_pad : ∀ (j a p : Nat), 0 < a → p < 10 ^ j → decDigits (10 ^ j * a + p) = decDigits a ++ pad j p
  | 0, a, p, ha, hp => by
    have : p = 0 := by simpa using hp
    subst this
    simp [pad]
  | j + 1, a, p, ha, hp => by
    have hpow : 0 < 10 ^ j := Nat.pow_pos (by decide)
    have e1 : (10 ^ (j + 1) * a + p) = 10 * (10 ^ j * a) + p := by rw [Nat.pow_succ, Nat.mul_comm (10 ^ j) 10, Nat.mul_assoc]
    have hbig : ¬ (10 ^ (j + 1) * a + p) < 10 := by
      have : 1 ≤ 10 ^ j * a := Nat.mul_pos hpow ha
      omega
    have e2 : (10 ^ (j + 1) * a + p) / 10 = 10 ^ j * a + p / 10 := by rw [e1]; omega
    have e3 : (10 ^ (j + 1) * a + p) % 10 = p % 10 := by rw [e1]; omega
    rw [dec_big hbig, e2, e3, dec_pad j a (p / 10) ha (by rw [Nat.pow_succ] at hp; omega), List.append_assoc]
    rfl

theorem trimR_nil : trimRightB [] 48 = [] := rfl
theorem trimR_cons (d : UInt8) (l : List UInt8) : trimRightB (d :: l) 48 = if trimRightB l 48 = [] then (if d = 48 then [] else [d]) else d :: trimRightB l 48 := by
  unfold trimRightB
  rw [List.reverse_cons, List.dropWhile_append]
  by_cases h : (l.reverse.dropWhile (· == 48)) = []
  · simp only [h, List.isEmpty_nil, if_true, List.reverse_nil]
    by_cases hd : d = 48
    · subst hd; simp [List.dropWhile]
    · rw [if_neg hd]
      have : (d == 48) = false := by simpa using hd
      simp [List.dropWhile, this]
  · have h2 : (l.reverse.dropWhile (· == 48)).isEmpty = false := by simpa [List.isEmpty_iff] using h
    rw [h2]
    simp [h]

/-- Long division: up to so many digits of r / d behind the point; nothing where that is not enough. -/
def longdiv (d : Nat) : Nat → Nat → Option (List UInt8)
  | 0, r => if r = 0 then some [] else none
  | j + 1, r => if r = 0 then some [] else (longdiv d j (10 * r % d)).map (dig (10 * r / d) :: ·)

theorem longdiv_zero (d : Nat) : ∀ j, longdiv d j 0 = some []
  | 0 => rfl
  | j + 1 => rfl

theorem pad_zero : ∀ j, trimRightB (pad j 0) 48 = []
  | 0 => rfl
  | j + 1 => by
    rw [pad_left, Nat.zero_div, Nat.zero_mod, Nat.zero_mod, trimR_cons, pad_zero j]
    rfl

/-- The digits by long division are the padded digits of the quotient, trimmed. -/
theorem longdiv_pad {d : Nat} (hd : 0 < d) : ∀ (j r : Nat), r < d → (r * 10 ^ j) % d = 0 → longdiv d j r = some (trimRightB (pad j (r * 10 ^ j / d)) 48)
  | 0, r, hr, h => by
    have : r = 0 := by rw [Nat.pow_zero, Nat.mul_one, Nat.mod_eq_of_lt hr] at h; exact h
    subst this
    rfl
  | j + 1, r, hr, h => by
    by_cases h0 : r = 0
    · subst h0
      rw [longdiv_zero, Nat.zero_mul, Nat.zero_div, pad_zero]
    · have hpow : 0 < 10 ^ j := Nat.pow_pos (by decide)
      have e0 : r * 10 ^ (j + 1) = (10 * r) * 10 ^ j := by rw [Nat.pow_succ, ← Nat.mul_assoc, Nat.mul_right_comm, Nat.mul_comm r 10]
      obtain ⟨q, hq⟩ : ∃ q, q = 10 * r / d := ⟨_, rfl⟩
      obtain ⟨r', hr'⟩ : ∃ r', r' = 10 * r % d := ⟨_, rfl⟩
      have hdiv : 10 * r = d * q + r' := by rw [hq, hr']; exact (Nat.div_add_mod _ _).symm
      have hlt : r' < d := by rw [hr']; exact Nat.mod_lt _ hd
      have e1 : r * 10 ^ (j + 1) = r' * 10 ^ j + d * (q * 10 ^ j) := by rw [e0, hdiv, Nat.add_mul, Nat.mul_assoc, Nat.add_comm]
      have hmod : r' * 10 ^ j % d = 0 := by rw [e1, Nat.add_mul_mod_self_left] at h; exact h
      have hquo : r * 10 ^ (j + 1) / d = r' * 10 ^ j / d + q * 10 ^ j := by rw [e1, Nat.add_mul_div_left _ _ hd]
      have hsm : r' * 10 ^ j / d < 10 ^ j := by
        rw [Nat.div_lt_iff_lt_mul hd, Nat.mul_comm (10 ^ j) d]
        exact Nat.mul_lt_mul_of_pos_right hlt hpow
      have hq10 : q < 10 := by
        rw [hq, Nat.div_lt_iff_lt_mul hd]
        omega
      have f1 : (r' * 10 ^ j / d + q * 10 ^ j) / 10 ^ j % 10 = q := by
        rw [Nat.add_mul_div_right _ _ hpow, Nat.div_eq_of_lt hsm, Nat.zero_add, Nat.mod_eq_of_lt hq10]
      have f2 : (r' * 10 ^ j / d + q * 10 ^ j) % 10 ^ j = r' * 10 ^ j / d := by
        rw [Nat.add_mul_mod_self_right, Nat.mod_eq_of_lt hsm]
      show (if r = 0 then some [] else (longdiv d j (10 * r % d)).map (dig (10 * r / d) :: ·)) = _
      rw [if_neg h0, ← hq, ← hr', longdiv_pad hd j r' hlt hmod, hquo, pad_left, f1, f2, trimR_cons]
      by_cases ht : trimRightB (pad j (r' * 10 ^ j / d)) 48 = []
      · rw [if_pos ht, ht]
        have hr0 : r' = 0 := by
          refine Classical.byContradiction fun hc => ?_
          have := longdiv_pad hd j r' hlt hmod
          rw [ht] at this
          cases j with
          | zero => unfold longdiv at this; rw [if_neg hc] at this; cases this
          | succ j =>
            unfold longdiv at this
            rw [if_neg hc] at this
            cases hl : longdiv d j (10 * r' % d) with
            | none => rw [hl] at this; cases this
            | some l => rw [hl] at this; cases this
        have hqp : q ≠ 0 := by
          intro hz
          rw [hz, hr0] at hdiv
          omega
        rw [if_neg (fun e => hqp ((dig_zero hq10).1 e))]
        rfl
      · rw [if_neg ht]
        rfl
theorem longdiv_none {d : Nat} (hd : 0 < d) : ∀ (j r : Nat), r < d → (r * 10 ^ j) % d ≠ 0 → longdiv d j r = none
  | 0, r, hr, h => by
    have : r ≠ 0 := by rw [Nat.pow_zero, Nat.mul_one, Nat.mod_eq_of_lt hr] at h; exact h
    unfold longdiv
    rw [if_neg this]
  | j + 1, r, hr, h => by
    have h0 : r ≠ 0 := by rintro rfl; simp at h
    have e0 : r * 10 ^ (j + 1) = (10 * r) * 10 ^ j := by rw [Nat.pow_succ, ← Nat.mul_assoc, Nat.mul_right_comm, Nat.mul_comm r 10]
    have hlt : 10 * r % d < d := Nat.mod_lt _ hd
    have hmod : (10 * r % d) * 10 ^ j % d ≠ 0 := by
      rw [Nat.mod_mul_mod]
      rw [e0] at h
      exact h
    show (if r = 0 then some [] else (longdiv d j (10 * r % d)).map (dig (10 * r / d) :: ·)) = _
    rw [if_neg h0, longdiv_none hd j _ hlt hmod]
    rfl
end Go.Proofs.YtgcgpeeokdnplaaDoor.Dig
