/- What the document's digits come to: turned, digitsOf, Amount. Conditions: each law's own. -/
import Derived.Test.YtplmledhcffedaaDoorWDig
import Derived.Test.YtplmledhcffedaaDoorPAx0
import Derived.Test.YtplmledhcffedaaDoorPAx3
import Derived.Test.YtplmledhcffedaaDoorPAx4
namespace Go.Proofs.YtplmledhcffedaaDoor.Pure
open Go.RowKit Go.Lib Go.Proofs.YtplmledhcffedaaDoorW.PrintWords Go.Proofs.YtplmledhcffedaaDoorW.PrintLast Go.Proofs.YtplmledhcffedaaDoor.PA Go.Proofs.YtplmledhcffedaaDoor.Dig
set_option linter.unusedVariables false

theorem wr {x : Int} (h1 : -9223372036854775808 ≤ x) (h2 : x ≤ 9223372036854775807) : wrap64 x = x := by unfold wrap64; omega
/-- Bytes as numbers. -/
def numsB (l : List UInt8) : List Int := l.map fun b => (b.toNat : Int)
theorem strOf_numsB (l : List UInt8) : strOfNums (numsB l) = B l := by
  unfold numsB strOfNums B
  rw [List.map_map]
  congr 2
  rw [List.map_congr_left (g := id) (fun b _ => by simp), List.map_id]
theorem digI {d : Nat} (h : d < 10) : wrap64 (48 + (d : Int)) % 256 = ((dig d).toNat : Int) := by
  rw [wr (by omega) (by omega)]
  have : ∀ q : Fin 10, (48 + (q.val : Int)) % 256 = ((dig q.val).toNat : Int) := by decide
  exact this ⟨d, h⟩

theorem turned_loop (l : List Int) (hl : l.length < 1000000) : ∀ (m : Nat) (acc : List Int), m ≤ l.length → acc.length + m = l.length → Ev (fun k => levyref4_turned.l0 k l acc ((m : Int) - 1)) (strOfNums (acc ++ (l.take m).reverse))
  | 0, acc, _, _ => ⟨1, fun k hk => by
    obtain ⟨q, rfl⟩ : ∃ q, k = q + 1 := ⟨k - 1, by omega⟩
    show levyref4_turned.l0 (q + 1) l acc (((0 : Nat) : Int) - 1) = _
    unfold levyref4_turned.l0
    rw [if_neg (by omega)]
    simp⟩
  | m + 1, acc, hm, ha => by
    have hlt : m < l.length := by omega
    obtain ⟨K, hK⟩ := turned_loop l hl m (acc ++ [l[m]]) (by omega) (by rw [List.length_append]; simp; omega)
    dsimp only at hK
    refine ⟨K + 1, fun k hk => ?_⟩
    obtain ⟨q, rfl⟩ : ∃ q, k = q + 1 := ⟨k - 1, by omega⟩
    show levyref4_turned.l0 (q + 1) l acc (((m + 1 : Nat) : Int) - 1) = _
    have e1 : ((m + 1 : Nat) : Int) - 1 = (m : Int) := by omega
    have hrd : rd l (m : Int) = l[m] := by
      unfold rd
      rw [Int.toNat_natCast, List.getD_eq_getElem?_getD, List.getElem?_eq_getElem hlt]; rfl
    rw [e1]
    conv => lhs; unfold levyref4_turned.l0
    rw [if_pos (by omega), if_pos (by omega), if_pos (by omega), if_pos (by omega), hrd, wr (by omega) (by omega), hK q (by omega), List.append_assoc]
    congr 3
    rw [List.take_add_one, List.getElem?_eq_getElem hlt, List.reverse_append]
    rfl
theorem turned_p (l : List Int) (hl : l.length < 1000000) : Ev (fun k => levyref4_turned.f k l) (strOfNums l.reverse) := by
  obtain ⟨K, hK⟩ := turned_loop l hl l.length [] (Nat.le_refl _) (by simp)
  refine ⟨K, fun k hk => ?_⟩
  have h := hK k hk
  dsimp only at h
  show levyref4_turned.l0 k l [] (wrap64 ((l.length : Int) - 1)) = _
  rw [wr (by omega) (by omega), h]
  simp

theorem dec_len (u : Nat) (h : u < 18446744073709551616) : (decDigits u).length ≤ 20 := by
  rw [decDigits_length]
  by_cases h1 : 1 ≤ u
  · have := numDigits_eq u h1 h
    split at this <;> omega
  · rw [nDigits_small (by omega)]; omega

theorem digits_loop (n : Nat) : ∀ (u : Nat), u ≤ n → u < 9223372036854775808 → ∀ pre : List Int, pre.length + (decDigits u).length ≤ 100 → Ev (fun k => levyref4_digitsOf.l0 k (u : Int) (pre ++ [((dig (u % 10)).toNat : Int)])) (strOfNums (pre ++ numsB (decDigits u).reverse).reverse) := by
  induction n with
  | zero =>
    intro u hu hb pre hp
    obtain rfl : u = 0 := by omega
    obtain ⟨K, hK⟩ := turned_p (pre ++ [((dig 0).toNat : Int)]) (by rw [List.length_append]; simp; omega)
    refine ⟨K + 1, fun k hk => ?_⟩
    obtain ⟨q, rfl⟩ : ∃ q, k = q + 1 := ⟨k - 1, by omega⟩
    have h := hK q (by omega)
    dsimp only at h
    show levyref4_digitsOf.l0 (q + 1) ((0 : Nat) : Int) (pre ++ [((dig 0).toNat : Int)]) = _
    unfold levyref4_digitsOf.l0
    rw [if_neg (by omega), h, Option.bind_some, dec_small (by omega)]
    rfl
  | succ n ih =>
    intro u hu hb pre hp
    by_cases h9 : u < 10
    · obtain ⟨K, hK⟩ := turned_p (pre ++ [((dig (u % 10)).toNat : Int)]) (by rw [List.length_append]; simp; omega)
      refine ⟨K + 1, fun k hk => ?_⟩
      obtain ⟨q, rfl⟩ : ∃ q, k = q + 1 := ⟨k - 1, by omega⟩
      have h := hK q (by omega)
      dsimp only at h
      show levyref4_digitsOf.l0 (q + 1) (u : Int) (pre ++ [((dig (u % 10)).toNat : Int)]) = _
      unfold levyref4_digitsOf.l0
      rw [if_neg (by omega), h, Option.bind_some, dec_small h9, Nat.mod_eq_of_lt h9]
      rfl
    · have hdl : (decDigits u).length = (decDigits (u / 10)).length + 1 := by rw [dec_big h9, List.length_append]; rfl
      · obtain ⟨K, hK⟩ := ih (u / 10) (by omega) (by omega) (pre ++ [((dig (u % 10)).toNat : Int)]) (by rw [List.length_append]; simp; omega)
        refine ⟨K + 1, fun k hk => ?_⟩
        obtain ⟨q, rfl⟩ : ∃ q, k = q + 1 := ⟨k - 1, by omega⟩
        have h := hK q (by omega)
        dsimp only at h
        show levyref4_digitsOf.l0 (q + 1) (u : Int) (pre ++ [((dig (u % 10)).toNat : Int)]) = _
        have e1 : wrap64 (Int.tdiv (u : Int) 10) = ((u / 10 : Nat) : Int) := by rw [Int.tdiv_eq_ediv_of_nonneg (by omega)]; rw [wr (by omega) (by omega)]; omega
        have e2 : Int.tmod ((u / 10 : Nat) : Int) 10 = ((u / 10 % 10 : Nat) : Int) := by rw [Int.tmod_eq_emod_of_nonneg (by omega)]; omega
        conv => lhs; unfold levyref4_digitsOf.l0
        rw [if_pos (by omega), if_pos (by rw [List.length_append]; simp; omega), e1, e2, digI (Nat.mod_lt _ (by decide)), h, dec_big h9]
        simp [numsB]

theorem digitsOf_p (u : Nat) (hb : u < 9223372036854775808) : Ev (fun k => levyref4_digitsOf.f k (u : Int)) (B (decDigits u)) := by
  obtain ⟨K, hK⟩ := digits_loop u u (Nat.le_refl _) hb [] (by have := dec_len u (by omega); simp; omega)
  refine ⟨K, fun k hk => ?_⟩
  have h := hK k hk
  dsimp only at h
  have e2 : Int.tmod (u : Int) 10 = ((u % 10 : Nat) : Int) := by rw [Int.tmod_eq_emod_of_nonneg (by omega)]; omega
  show levyref4_digitsOf.l0 k (u : Int) [wrap64 (48 + Int.tmod (u : Int) 10) % 256] = _
  rw [e2, digI (Nat.mod_lt _ (by decide))]
  rw [List.nil_append] at h
  rw [h, List.nil_append, ← strOf_numsB]
  congr 2
  unfold numsB
  rw [List.map_reverse, List.reverse_reverse]
end Go.Proofs.YtplmledhcffedaaDoor.Pure
