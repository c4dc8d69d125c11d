/- What digits say: the program's digits and common in plain words. Conditions: each law's own. -/
import Derived.Test.YtjlclkenfmbahaaGreatDoorVScBase
import Derived.Test.YtjlclkenfmbahaaGreatDoorVPAx0
import Derived.Test.YtjlclkenfmbahaaGreatDoorVL
import Derived.Test.YtjlclkenfmbahaaGreatDoorVPAx69
namespace Go.Proofs.YtjlclkenfmbahaaGreatDoor.PA
open Go.RowKit Go.Proofs.YtjlclkenfmbahaaGreatDoorW.PrintWords Go.Proofs.YtjlclkenfmbahaaGreatDoorW.PrintLast Go.Proofs.YtjlclkenfmbahaaGreatDoorW.PrintMore
set_option linter.unusedVariables false
set_option linter.unusedSimpArgs false
theorem wrI {x : Int} (h1 : -9223372036854775808 ≤ x) (h2 : x ≤ 9223372036854775807) : wrap64 x = x := by unfold wrap64; omega
def bA (l : List UInt8) : ByteArray := ⟨l.toArray⟩
theorem bA_Ls (s : ByteArray) : bA (Ls s) = s := rfl
theorem bA_size (l : List UInt8) : (bA l).size = l.length := by
 show l.toArray.size = l.length
 simp
theorem bA_append (a b : List UInt8) : bA a ++ bA b = bA (a ++ b) := by
 apply ByteArray.ext
 rw [ByteArray.data_append]
 simp [bA]
def valA (n : Nat) (l : List UInt8) : Nat := l.foldl (fun n b => 10 * n + (b.toNat - 48)) n
def val (l : List UInt8) : Nat := valA 0 l
theorem valA_cons (n : Nat) (b : UInt8) (l : List UInt8) : valA n (b :: l) = valA (10 * n + (b.toNat - 48)) l := by unfold valA; rw [List.foldl_cons]
theorem val_strip (l : List UInt8) : val (l.dropWhile (· == 48)) = val l := by
 induction l with
 | nil => rfl
 | cons b l ih =>
  rw [List.dropWhile_cons]
  split
  ·next h =>
   have hb : b = 48 := by simpa using h
   subst hb
   rw [ih]
   show valA 0 l = valA (10 * 0 + ((48 : UInt8).toNat - 48)) l
   have h0 : 10 * 0 + ((48 : UInt8).toNat - 48) = 0 := by decide
   rw [h0]
  ·rfl
theorem dg_bounds {b : UInt8} (h : isDg b = true) : 48 ≤ b.toNat ∧ b.toNat ≤ 57 := by
 unfold isDg at h
 simpa using h
theorem valA_lt (l : List UInt8) (hd : ∀ b ∈ l, isDg b = true) : ∀ n, valA n l < (n + 1) * 10 ^ l.length := by
 induction l with
 | nil => intro n; show n < _; simp
 | cons b l ih =>
  intro n
  have hb := dg_bounds (hd b (by simp))
  have h := ih (fun x hx => hd x (by simp [hx])) (10 * n + (b.toNat - 48))
  rw [valA_cons, List.length_cons, Nat.pow_succ]
  have h2 : (10 * n + (b.toNat - 48) + 1) * 10 ^ l.length ≤ ((n + 1) * 10) * 10 ^ l.length := Nat.mul_le_mul_right _ (by omega)
  have h3 : (n + 1) * (10 ^ l.length * 10) = ((n + 1) * 10) * 10 ^ l.length := by rw [Nat.mul_comm (10 ^ l.length) 10, Nat.mul_assoc]
  omega
theorem val_lt (l : List UInt8) (hd : ∀ b ∈ l, isDg b = true) : val l < 10 ^ l.length := by
 have := valA_lt l hd 0
 unfold val
 omega
theorem valA_append (n : Nat) (a b : List UInt8) : valA n (a ++ b) = valA (valA n a) b := by unfold valA; rw [List.foldl_append]
theorem pow18 {i : Nat} (h : i ≤ 17) : 10 ^ i ≤ 100000000000000000 := Nat.pow_le_pow_right (show 0 < 10 by decide) h
theorem dig_step {acc d : Nat} {x : Int} (ha : acc < 100000000000000000) (hx : x = d) (h1 : 48 ≤ d) (h2 : d ≤ 57) : wrap64 ((wrap64 (10 * (acc : Int))) + ((x - 48) % 256)) = ((10 * acc + (d - 48) : Nat) : Int) := by
 have e0 : wrap64 (10 * (acc : Int)) = 10 * (acc : Int) := wrI (by omega) (by omega)
 rw [e0, hx]
 have e1 : ((d : Int) - 48) % 256 = (d : Int) - 48 := by omega
 rw [e1, wrI (by omega) (by omega)]
 omega
def digitsR (l : List UInt8) : Int × Bool := if 18 < (l.dropWhile (· == 48)).length then (0, false) else ((val l : Int), true)
theorem digits_loop (t : List UInt8) (hd : ∀ b ∈ t, isDg b = true) (ht : t.length ≤ 18) (d : Nat) : ∀ (i acc : Nat), t.length = i + d → acc < 10 ^ i →
  Ev (fun k => words_digits.l0 k (bA t) (acc : Int) ((bA t).size : Int) (i : Int)) ((valA acc (t.drop i) : Int), true) := by
 have hsz := bA_size t
 induction d with
 | zero =>
  intro i acc hi ha
  refine ⟨1, fun k hk => ?_⟩
  obtain ⟨q, rfl⟩ : ∃ q, k = q + 1 := ⟨k - 1, by omega⟩
  show words_digits.l0 (q + 1) (bA t) (acc : Int) ((bA t).size : Int) (i : Int) = _
  unfold words_digits.l0
  rw [if_neg (by omega), List.drop_of_length_le (by omega)]
  rfl
 | succ d ih =>
  intro i acc hi ha
  have hlt : i < t.length := by omega
  obtain ⟨b, hb⟩ : ∃ b, (Ls (bA t))[i]? = some b := ⟨_, List.getElem?_eq_getElem hlt⟩
  have hbt := (bt_of (bA t) hb).1
  have hdrop : t.drop i = b :: t.drop (i + 1) := by
   rw [List.drop_eq_getElem_cons hlt]
   congr 1
   exact (List.getElem?_eq_some_iff.1 hb).2
  have hbm : b ∈ t := List.mem_of_getElem? hb
  have hbd := dg_bounds (hd b hbm)
  have hp := pow18 (i := i) (by omega)
  have hp2 : 10 ^ (i + 1) = 10 ^ i * 10 := Nat.pow_succ ..
  obtain ⟨K, hK⟩ := ih (i + 1) (10 * acc + (b.toNat - 48)) (by omega) (by rw [hp2]; omega)
  refine ⟨K + 1, fun k hk => ?_⟩
  obtain ⟨q, rfl⟩ : ∃ q, k = q + 1 := ⟨k - 1, by omega⟩
  have hK := hK q (by omega)
  dsimp only at hK
  show words_digits.l0 (q + 1) (bA t) (acc : Int) ((bA t).size : Int) (i : Int) = _
  unfold words_digits.l0
  rw [if_pos (by omega), if_pos (by omega), if_pos (by omega)]
  have e1 : wrap64 ((wrap64 (10 * (acc : Int))) + ((bt (bA t) (i : Int) - 48) % 256)) = ((10 * acc + (b.toNat - 48) : Nat) : Int) := dig_step (Nat.lt_of_lt_of_le ha hp) hbt hbd.1 hbd.2
  have e2 : wrap64 ((i : Int) + 1) = ((i + 1 : Nat) : Int) := by rw [wrI (by omega) (by omega)]; omega
  rw [e1, e2, hK, hdrop, valA_cons]
theorem digits_eval (l : List UInt8) (hd : ∀ b ∈ l, isDg b = true) : Ev (fun k => words_digits.f k (bA l)) (digitsR l) := by
 have hd2 : ∀ b ∈ l.dropWhile (· == 48), isDg b = true := fun b hb => hd b ((List.dropWhile_suffix _).subset hb)
 unfold digitsR
 by_cases h : 18 < (l.dropWhile (· == 48)).length
 ·refine ⟨0, fun k hk => ?_⟩
  show words_digits.f k (bA l) = _
  unfold words_digits.f strings_TrimLeft.f
  rw [if_pos rfl, Option.bind_some, if_pos h, if_pos]
  show ((bA (l.dropWhile (· == 48))).size : Int) > 18
  rw [bA_size]; omega
 ·obtain ⟨K, hK⟩ := digits_loop (l.dropWhile (· == 48)) hd2 (by omega) _ 0 0 (by rw [Nat.zero_add]) (by decide)
  refine ⟨K, fun k hk => ?_⟩
  have hK := hK k hk
  dsimp only at hK
  show words_digits.f k (bA l) = _
  unfold words_digits.f strings_TrimLeft.f
  rw [if_pos rfl, Option.bind_some, if_neg h]
  have hn : ¬ ((bA (l.dropWhile (· == 48))).size : Int) > 18 := by rw [bA_size]; omega
  refine (if_neg hn).trans (hK.trans ?_)
  rw [List.drop_zero]
  have : valA 0 (l.dropWhile (· == 48)) = val l := val_strip l
  rw [this]
theorem common_loop (n : Nat) : ∀ (b a : Nat), b ≤ n → Ev (fun k => words_common.l0 k (a : Int) (b : Int)) ((max (Nat.gcd a b) 1 : Nat) : Int) := by
 induction n with
 | zero =>
  intro b a hb
  obtain rfl : b = 0 := by omega
  refine ⟨1, fun k hk => ?_⟩
  obtain ⟨q, rfl⟩ : ∃ q, k = q + 1 := ⟨k - 1, by omega⟩
  show words_common.l0 (q + 1) (a : Int) ((0 : Nat) : Int) = _
  unfold words_common.l0
  rw [if_pos (by omega), Nat.gcd_zero_right]
  congr 1
  unfold mx
  omega
 | succ n ih =>
  intro b a hb
  by_cases h0 : b = 0
  ·subst h0
   refine ⟨1, fun k hk => ?_⟩
   obtain ⟨q, rfl⟩ : ∃ q, k = q + 1 := ⟨k - 1, by omega⟩
   show words_common.l0 (q + 1) (a : Int) ((0 : Nat) : Int) = _
   unfold words_common.l0
   rw [if_pos (by omega), Nat.gcd_zero_right]
   congr 1
   unfold mx
   omega
  ·have hm : a % b < b := Nat.mod_lt _ (by omega)
   obtain ⟨K, hK⟩ := ih (a % b) b (by omega)
   refine ⟨K + 1, fun k hk => ?_⟩
   obtain ⟨q, rfl⟩ : ∃ q, k = q + 1 := ⟨k - 1, by omega⟩
   have hK := hK q (by omega)
   dsimp only at hK
   show words_common.l0 (q + 1) (a : Int) (b : Int) = _
   unfold words_common.l0
   rw [if_neg (by omega), show Int.tmod (a : Int) (b : Int) = ((a % b : Nat) : Int) from rfl, hK]
   congr 2
   rw [Nat.gcd_comm a b, Nat.gcd_rec b a, Nat.gcd_comm]
theorem common_eval (a b : Nat) : Ev (fun k => words_common.f k (a : Int) (b : Int)) ((max (Nat.gcd a b) 1 : Nat) : Int) := common_loop b b a (Nat.le_refl _)
end Go.Proofs.YtjlclkenfmbahaaGreatDoor.PA
