/- The document's side of the texts of tokens: Amount, Percent, Quote, digitsOf, Date, Print. Conditions: each law's own. -/
import Derived.Test.YtjlclkenfmbahaaGreatDoorMQ
import Derived.Test.YtjlclkenfmbahaaGreatDoorMPAx0
import Derived.Test.YtjlclkenfmbahaaGreatDoorML
import Derived.Test.YtjlclkenfmbahaaGreatDoorML3
import Derived.Test.YtjlclkenfmbahaaGreatDoorMPAx47
namespace Go.Proofs.YtjlclkenfmbahaaGreatDoor.Pure
open Go.RowKit Go.Lib Go.Proofs.YtjlclkenfmbahaaGreatDoorW.PrintWords Go.Proofs.YtjlclkenfmbahaaGreatDoorW.PrintLast Go.Proofs.YtjlclkenfmbahaaGreatDoor.PA Go.Proofs.YtjlclkenfmbahaaGreatDoor.Dig
set_option linter.unusedVariables false
theorem turned_loop (l : List Int) (hl : l.length < 1000000) : ∀ (m : Nat) (acc : List Int), m ≤ l.length → acc.length + m = l.length → Ev (fun k => levyref4_turned.l0 k l acc ((m : Int) - 1)) (strOfNums (acc ++ (l.take m).reverse))
 | 0, acc, _, _ => ⟨1, fun k hk => by
  obtain ⟨q, rfl⟩ : ∃ q, k = q + 1 := ⟨k - 1, by omega⟩
  show levyref4_turned.l0 (q + 1) l acc (((0 : Nat) : Int) - 1) = _
  unfold levyref4_turned.l0
  rw [if_neg (by omega)]
  simp⟩
 | m + 1, acc, hm, ha => by
  have hlt : m < l.length := by omega
  obtain ⟨K, hK⟩ := turned_loop l hl m (acc ++ [l[m]]) (by omega) (by rw [List.length_append]; simp; omega)
  dsimp only at hK
  refine ⟨K + 1, fun k hk => ?_⟩
  obtain ⟨q, rfl⟩ : ∃ q, k = q + 1 := ⟨k - 1, by omega⟩
  show levyref4_turned.l0 (q + 1) l acc (((m + 1 : Nat) : Int) - 1) = _
  have e1 : ((m + 1 : Nat) : Int) - 1 = (m : Int) := by omega
  have hrd : rd l (m : Int) = l[m] := by
   unfold rd
   rw [Int.toNat_natCast, List.getD_eq_getElem?_getD, List.getElem?_eq_getElem hlt]; rfl
  rw [e1]
  conv => lhs; unfold levyref4_turned.l0
  rw [if_pos (by omega), if_pos (by omega), if_pos (by omega), if_pos (by omega), hrd, wr (by omega) (by omega), hK q (by omega), List.append_assoc]
  congr 3
  rw [List.take_add_one, List.getElem?_eq_getElem hlt, List.reverse_append]
  rfl
theorem turned_p (l : List Int) (hl : l.length < 1000000) : Ev (fun k => levyref4_turned.f k l) (strOfNums l.reverse) := by
 obtain ⟨K, hK⟩ := turned_loop l hl l.length [] (Nat.le_refl _) (by simp)
 refine ⟨K, fun k hk => ?_⟩
 have h := hK k hk
 dsimp only at h
 show levyref4_turned.l0 k l [] (wrap64 ((l.length : Int) - 1)) = _
 rw [wr (by omega) (by omega), h]
 simp
theorem digits_loop (n : Nat) : ∀ (u : Nat), u ≤ n → u < 9223372036854775808 → ∀ pre : List Int, pre.length + (decDigits u).length ≤ 100 → Ev (fun k => levyref4_digitsOf.l0 k (u : Int) (pre ++ [((dig (u % 10)).toNat : Int)])) (strOfNums (pre ++ numsB (decDigits u).reverse).reverse) := by
 induction n with
 | zero =>
  intro u hu hb pre hp
  obtain rfl : u = 0 := by omega
  obtain ⟨K, hK⟩ := turned_p (pre ++ [((dig 0).toNat : Int)]) (by rw [List.length_append]; simp; omega)
  refine ⟨K + 1, fun k hk => ?_⟩
  obtain ⟨q, rfl⟩ : ∃ q, k = q + 1 := ⟨k - 1, by omega⟩
  have h := hK q (by omega)
  dsimp only at h
  show levyref4_digitsOf.l0 (q + 1) ((0 : Nat) : Int) (pre ++ [((dig 0).toNat : Int)]) = _
  unfold levyref4_digitsOf.l0
  rw [if_neg (by omega), h, Option.bind_some, dec_small (by omega)]
  rfl
 | succ n ih =>
  intro u hu hb pre hp
  by_cases h9 : u < 10
  ·obtain ⟨K, hK⟩ := turned_p (pre ++ [((dig (u % 10)).toNat : Int)]) (by rw [List.length_append]; simp; omega)
   refine ⟨K + 1, fun k hk => ?_⟩
   obtain ⟨q, rfl⟩ : ∃ q, k = q + 1 := ⟨k - 1, by omega⟩
   have h := hK q (by omega)
   dsimp only at h
   show levyref4_digitsOf.l0 (q + 1) (u : Int) (pre ++ [((dig (u % 10)).toNat : Int)]) = _
   unfold levyref4_digitsOf.l0
   rw [if_neg (by omega), h, Option.bind_some, dec_small h9, Nat.mod_eq_of_lt h9]
   rfl
  ·have hdl : (decDigits u).length = (decDigits (u / 10)).length + 1 := by rw [dec_big h9, List.length_append]; rfl
   ·obtain ⟨K, hK⟩ := ih (u / 10) (by omega) (by omega) (pre ++ [((dig (u % 10)).toNat : Int)]) (by rw [List.length_append]; simp; omega)
    refine ⟨K + 1, fun k hk => ?_⟩
    obtain ⟨q, rfl⟩ : ∃ q, k = q + 1 := ⟨k - 1, by omega⟩
    have h := hK q (by omega)
    dsimp only at h
    show levyref4_digitsOf.l0 (q + 1) (u : Int) (pre ++ [((dig (u % 10)).toNat : Int)]) = _
    have e1 : wrap64 (Int.tdiv (u : Int) 10) = ((u / 10 : Nat) : Int) := by rw [Int.tdiv_eq_ediv_of_nonneg (by omega)]; rw [wr (by omega) (by omega)]; omega
    have e2 : Int.tmod ((u / 10 : Nat) : Int) 10 = ((u / 10 % 10 : Nat) : Int) := by rw [Int.tmod_eq_emod_of_nonneg (by omega)]; omega
    conv => lhs; unfold levyref4_digitsOf.l0
    rw [if_pos (by omega), if_pos (by rw [List.length_append]; simp; omega), e1, e2, digI (Nat.mod_lt _ (by decide)), h, dec_big h9]
    simp [numsB]
theorem digitsOf_p (u : Nat) (hb : u < 9223372036854775808) : Ev (fun k => levyref4_digitsOf.f k (u : Int)) (B (decDigits u)) := by
 obtain ⟨K, hK⟩ := digits_loop u u (Nat.le_refl _) hb [] (by have := dec_len u (by omega); simp; omega)
 refine ⟨K, fun k hk => ?_⟩
 have h := hK k hk
 dsimp only at h
 have e2 : Int.tmod (u : Int) 10 = ((u % 10 : Nat) : Int) := by rw [Int.tmod_eq_emod_of_nonneg (by omega)]; omega
 show levyref4_digitsOf.l0 k (u : Int) [wrap64 (48 + Int.tmod (u : Int) 10) % 256] = _
 rw [e2, digI (Nat.mod_lt _ (by decide))]
 rw [List.nil_append] at h
 rw [h, List.nil_append, ← strOf_numsB]
 congr 2
 unfold numsB
 rw [List.map_reverse, List.reverse_reverse]
theorem round_on (k : Nat) {x0 x4 : Int} {u : Nat} (hu : u < 9223372036854775809) (hx : x4 = (u : Int) ∨ x4 = -(u : Int)) (pre : List Int) (hp : pre.length < 1000) {i : Int} (h0 : 0 ≤ i) (h1 : i < 1000) :
  levyref4_Amount.j1 (k + 1) x0 pre x4 i true = levyref4_Amount.l0 k x0 ((if i = 2 then pre ++ [46] else pre) ++ [((dig (u % 10)).toNat : Int)]) (wrap64 (Int.tdiv x4 10)) (i + 1) := by
 obtain ⟨s1, s2, s3⟩ := step_digit hu hx
 have hw : wrap64 (i + 1) = i + 1 := wr (by omega) (by omega)
 simp only [levyref4_Amount.j1, if_true, Option.bind_some]
 rw [hw]
 by_cases hi : i = 2
 ·rw [if_pos hi, if_pos hi, if_pos (by omega)]
  by_cases hn : Int.tmod x4 10 < 0
  ·rw [if_pos hn, if_pos (by rw [List.length_append]; simp; omega), s1 hn]
  ·rw [if_neg hn, if_pos (by rw [List.length_append]; simp; omega), s2 hn]
 ·rw [if_neg hi, if_neg hi]
  by_cases hn : Int.tmod x4 10 < 0
  ·rw [if_pos hn, if_pos (by omega), s1 hn]
  ·rw [if_neg hn, if_pos (by omega), s2 hn]
theorem amount_fin (x0 : Int) (pre : List Int) (hp : pre.length < 1000) (i : Int) (h3 : ¬ i < 3) : Ev (fun k => levyref4_Amount.l0 k x0 pre 0 i) (strOfNums (finL x0 pre).reverse) := by
 obtain ⟨K1, h1⟩ := turned_p (pre ++ [45]) (by rw [List.length_append]; simp; omega)
 obtain ⟨K2, h2⟩ := turned_p pre (by omega)
 dsimp only at h1 h2
 refine ⟨K1 + K2 + 2, fun k hk => ?_⟩
 obtain ⟨q, rfl⟩ : ∃ q, k = q + 1 + 1 := ⟨k - 2, by omega⟩
 show levyref4_Amount.l0 (q + 1 + 1) x0 pre 0 i = _
 conv => lhs; unfold levyref4_Amount.l0
 rw [if_neg h3]
 show levyref4_Amount.j1 (q + 1) x0 pre 0 i false = _
 unfold levyref4_Amount.j1 finL
 rw [if_neg (by decide)]
 by_cases hx : x0 < 0
 ·rw [if_pos hx, if_pos hx, if_pos (by omega), h1 q (by omega)]; rfl
 ·rw [if_neg hx, if_neg hx, h2 q (by omega)]; rfl
theorem amount_loop (x0 : Int) (n : Nat) : ∀ (u : Nat) (x4 : Int) (pre : List Int) (i : Nat), u ≤ n → u < 9223372036854775809 → (x4 = (u : Int) ∨ x4 = -(u : Int)) → 3 ≤ i → i + (decDigits u).length ≤ 100 → pre.length + (decDigits u).length ≤ 100 →
  Ev (fun k => levyref4_Amount.l0 k x0 pre x4 (i : Int)) (strOfNums (finL x0 (pre ++ if u = 0 then [] else numsB (decDigits u).reverse)).reverse) := by
 induction n with
 | zero =>
  intro u x4 pre i hu hb hx h3 hi hp
  obtain rfl : u = 0 := by omega
  obtain rfl : x4 = 0 := by omega
  rw [if_pos rfl, List.append_nil]
  exact amount_fin x0 pre (by omega) i (by omega)
 | succ n ih =>
  intro u x4 pre i hu hb hx h3 hi hp
  by_cases h0 : u = 0
  ·subst h0
   obtain rfl : x4 = 0 := by omega
   rw [if_pos rfl, List.append_nil]
   exact amount_fin x0 pre (by omega) i (by omega)
  ·have hx0 : (x4 != 0) = true := by simp; omega
   have hdl : (decDigits (u / 10)).length ≤ (decDigits u).length ∧ (¬ u < 10 → (decDigits u).length = (decDigits (u / 10)).length + 1) := by
    by_cases h9 : u < 10
    ·rw [dec_small h9, dec_small (show u / 10 < 10 by omega)]; exact ⟨Nat.le_refl _, fun h => absurd h9 h⟩
    ·rw [dec_big h9, List.length_append]; simp
   obtain ⟨K, hK⟩ : Ev (fun k => levyref4_Amount.l0 k x0 (pre ++ [((dig (u % 10)).toNat : Int)]) (wrap64 (Int.tdiv x4 10)) ((i + 1 : Nat) : Int)) (strOfNums (finL x0 (pre ++ if u = 0 then [] else numsB (decDigits u).reverse)).reverse) := by
    by_cases h9 : u < 10
    ·have hz : wrap64 (Int.tdiv x4 10) = 0 := by have := (step_digit hb hx).2.2; omega
     rw [hz, if_neg h0, dec_small h9, Nat.mod_eq_of_lt h9]
     exact amount_fin x0 _ (by rw [List.length_append]; simp; omega) _ (by omega)
    ·have h := ih (u / 10) (wrap64 (Int.tdiv x4 10)) (pre ++ [((dig (u % 10)).toNat : Int)]) (i + 1) (by omega) (by omega) (step_digit hb hx).2.2 (by omega) (by have := hdl.2 h9; omega) (by have := hdl.2 h9; rw [List.length_append]; simp; omega)
     rw [if_neg (by omega)] at h
     rw [if_neg h0, dec_big h9]
     simpa [numsB] using h
   dsimp only at hK
   refine ⟨K + 2, fun k hk => ?_⟩
   obtain ⟨q, rfl⟩ : ∃ q, k = q + 1 + 1 := ⟨k - 2, by omega⟩
   show levyref4_Amount.l0 (q + 1 + 1) x0 pre x4 (i : Int) = _
   conv => lhs; unfold levyref4_Amount.l0
   rw [if_neg (by omega), hx0, round_on q hb hx pre (by omega) (by omega) (by omega), if_neg (by omega), show (i : Int) + 1 = ((i + 1 : Nat) : Int) by omega]
   exact hK q (by omega)
theorem ramount_p (c : Int) (h1 : -9223372036854775808 ≤ c) (h2 : c ≤ 9223372036854775807) : Ev (fun k => levyref4_Amount.f k c) (B (amountL (decide (c < 0)) c.natAbs)) := by
 obtain ⟨u, hu⟩ : ∃ u, u = c.natAbs := ⟨_, rfl⟩
 rw [← hu]
 have hb : u < 9223372036854775809 := by omega
 have hx0 : c = (u : Int) ∨ c = -(u : Int) := by omega
 have hx1 := (step_digit hb hx0).2.2
 have hx2 := (step_digit (show u / 10 < 9223372036854775809 by omega) hx1).2.2
 have hx3 := (step_digit (show u / 10 / 10 < 9223372036854775809 by omega) hx2).2.2
 obtain ⟨K, hK⟩ := amount_loop c (u / 10 / 10 / 10) (u / 10 / 10 / 10) _ [((dig (u % 10)).toNat : Int), ((dig (u / 10 % 10)).toNat : Int), 46, ((dig (u / 10 / 10 % 10)).toNat : Int)] 3 (Nat.le_refl _) (by omega) hx3 (by omega) (by have := dec_len (u / 10 / 10 / 10) (by omega); omega) (by have := dec_len (u / 10 / 10 / 10) (by omega); simp; omega)
 dsimp only at hK
 refine ⟨K + 6, fun k hk => ?_⟩
 obtain ⟨q, rfl⟩ : ∃ q, k = q + 1 + 1 + 1 + 1 + 1 + 1 := ⟨k - 6, by omega⟩
 have hl : ∀ (m : Nat) (pre : List Int) (x4 i : Int), i < 3 → levyref4_Amount.l0 (m + 1) c pre x4 i = levyref4_Amount.j1 m c pre x4 i true := fun m pre x4 i h => by
  conv => lhs; unfold levyref4_Amount.l0
  rw [if_pos h]
 show levyref4_Amount.l0 (q + 1 + 1 + 1 + 1 + 1 + 1) c [] c 0 = _
 rw [hl _ _ _ _ (by decide), round_on _ hb hx0 [] (by decide) (by decide) (by decide), if_neg (by decide)]
 rw [hl _ _ _ _ (by decide), round_on _ (show u / 10 < 9223372036854775809 by omega) hx1 _ (by simp) (by decide) (by decide), if_neg (by decide)]
 rw [hl _ _ _ _ (by decide), round_on _ (show u / 10 / 10 < 9223372036854775809 by omega) hx2 _ (by simp) (by decide) (by decide), if_pos (by decide)]
 have h := hK q (by omega)
 refine Eq.trans h ?_
 congr 1
 have e100 : u / 100 = u / 10 / 10 := by omega
 have hdec : decDigits (u / 100) = (if u / 10 / 10 / 10 = 0 then [] else decDigits (u / 10 / 10 / 10)) ++ [dig (u / 10 / 10 % 10)] := by
  rw [e100]
  by_cases h9 : u / 10 / 10 < 10
  ·rw [dec_small h9, if_pos (by omega), Nat.mod_eq_of_lt h9]; rfl
  ·rw [dec_big h9, if_neg (by omega)]
 rw [← strOf_numsB]
 congr 1
 unfold amountL finL
 rw [hdec]
 by_cases hc : c < 0
 ·rw [if_pos hc, decide_eq_true hc]
  by_cases hz : u / 10 / 10 / 10 = 0
  ·rw [if_pos hz, if_pos hz]; simp [numsB]
  ·rw [if_neg hz, if_neg hz]; simp [numsB]
 ·rw [if_neg hc, decide_eq_false hc]
  by_cases hz : u / 10 / 10 / 10 = 0
  ·rw [if_pos hz, if_pos hz]; simp [numsB]
  ·rw [if_neg hz, if_neg hz]; simp [numsB]
theorem rper_loop {d : Nat} (hd : 0 < d) (hd9 : d ≤ 1000000000) (j : Nat) : ∀ (r i : Nat) (acc : List UInt8), i + j = 6 → 1 ≤ i → r < d → acc.length + j ≤ 60 →
  Ev (fun k => levyref4_Percent.l0 k (d : Int) (B acc) (r : Int) (i : Int)) (tailS acc (longdiv d j r)) := by
 have e37 : (⟨#[37]⟩ : ByteArray) = B [37] := rfl
 induction j with
 | zero =>
  intro r i acc hi h1 hr ha
  refine ⟨1, fun k hk => ?_⟩
  obtain ⟨q, rfl⟩ : ∃ q, k = q + 1 := ⟨k - 1, by omega⟩
  show levyref4_Percent.l0 (q + 1) (d : Int) (B acc) (r : Int) (i : Int) = _
  unfold levyref4_Percent.l0
  by_cases h0 : r = 0
  ·subst h0
   rw [if_neg (by omega), if_pos (by rw [B_size]; omega), longdiv_zero, e37, B_append]
   show some (B (acc ++ [37]), true) = some (B (acc ++ [] ++ [37]), true)
   rw [List.append_nil]
  ·rw [if_pos (by omega), if_pos (by omega)]
   unfold longdiv
   rw [if_neg h0]
   rfl
 | succ j ih =>
  intro r i acc hi h1 hr ha
  by_cases h0 : r = 0
  ·subst h0
   refine ⟨1, fun k hk => ?_⟩
   obtain ⟨q, rfl⟩ : ∃ q, k = q + 1 := ⟨k - 1, by omega⟩
   show levyref4_Percent.l0 (q + 1) (d : Int) (B acc) ((0 : Nat) : Int) (i : Int) = _
   unfold levyref4_Percent.l0
   rw [if_neg (by omega), if_pos (by rw [B_size]; omega), longdiv_zero, e37, B_append]
   show some (B (acc ++ [37]), true) = some (B (acc ++ [] ++ [37]), true)
   rw [List.append_nil]
  ·have hq10 : 10 * r / d < 10 := by rw [Nat.div_lt_iff_lt_mul hd]; omega
   have hrl : 10 * r % d < d := Nat.mod_lt _ hd
   rw [longdiv_succ d j r h0]
   have EW : Aside0 (wrap64 (10 * (r : Int)) = ((10 * r : Nat) : Int)) := ⟨by rw [wr (by omega) (by omega)]; omega⟩
   have n1 := natdiv (10 * r) d
   have n2 := natmod (10 * r) d
   generalize 10 * r / d = Q at *
   generalize 10 * r % d = R at *
   have N1 := Aside0.mk n1
   have N2 := Aside0.mk n2
   clear n1 n2
   obtain ⟨K1, h1'⟩ := digitsOf_p Q (by omega)
   obtain ⟨K2, h2'⟩ := ih R (i + 1) (acc ++ [dig Q]) (by omega) (by omega) hrl (by rw [List.length_append]; simp; omega)
   dsimp only at h1' h2'
   refine ⟨K1 + K2 + 1, fun k hk => ?_⟩
   obtain ⟨q, rfl⟩ : ∃ q, k = q + 1 := ⟨k - 1, by omega⟩
   have hx := h2' q (by omega)
   have hy := h1' q (by omega)
   show levyref4_Percent.l0 (q + 1) (d : Int) (B acc) (r : Int) (i : Int) = _
   have ei : Aside0 (wrap64 ((i : Int) + 1) = ((i + 1 : Nat) : Int)) := ⟨by rw [wr (by omega) (by omega)]; omega⟩
   have ed : Aside0 (wrap64 (Q : Int) = (Q : Int)) := ⟨wr (by omega) (by omega)⟩
   have c1 : (r : Int) > 0 := by omega
   have c2 : ¬ (i : Int) = 6 := by omega
   have c3 : ¬ (i : Int) = 0 := by omega
   have c4 : ¬ (d : Int) = 0 := by omega
   have c5 : (acc).length + [dig Q].length ≤ 9223372036854775807 := by show acc.length + 1 ≤ 9223372036854775807; omega
   conv => lhs; unfold levyref4_Percent.l0
   rw [if_pos c1, if_neg c2, if_neg c3, if_neg c4, EW.out, N1.out, N2.out, ed.out, hy, Option.bind_some, dec_small hq10, B_append, B_size, B_size, if_pos c5, ei.out, hx]
   congr 1
   cases longdiv d j R with
   | none => rfl
   | some l => show (B (acc ++ [dig Q] ++ l ++ [37]), true) = (B (acc ++ (dig Q :: l) ++ [37]), true); simp
theorem rper_start {d : Nat} (hd : 0 < d) (hd9 : d ≤ 1000000000) (r : Nat) (hr : r < d) (acc : List UInt8) (ha : acc.length ≤ 20) :
  Ev (fun k => levyref4_Percent.l0 k (d : Int) (B acc) (r : Int) 0) (perS acc (longdiv d 6 r)) := by
 have e37 : (⟨#[37]⟩ : ByteArray) = B [37] := rfl
 have e46 : (⟨#[46]⟩ : ByteArray) = B [46] := rfl
 by_cases h0 : r = 0
 ·subst h0
  refine ⟨1, fun k hk => ?_⟩
  obtain ⟨q, rfl⟩ : ∃ q, k = q + 1 := ⟨k - 1, by omega⟩
  show levyref4_Percent.l0 (q + 1) (d : Int) (B acc) ((0 : Nat) : Int) 0 = _
  unfold levyref4_Percent.l0
  rw [if_neg (by omega), if_pos (by rw [B_size]; omega), longdiv_zero, e37, B_append]
  rfl
 ·have hq10 : 10 * r / d < 10 := by rw [Nat.div_lt_iff_lt_mul hd]; omega
  have hrl : 10 * r % d < d := Nat.mod_lt _ hd
  rw [longdiv_succ d 5 r h0]
  have EW : Aside0 (wrap64 (10 * (r : Int)) = ((10 * r : Nat) : Int)) := ⟨by rw [wr (by omega) (by omega)]; omega⟩
  have n1 := natdiv (10 * r) d
  have n2 := natmod (10 * r) d
  generalize 10 * r / d = Q at *
  generalize 10 * r % d = R at *
  have N1 := Aside0.mk n1
  have N2 := Aside0.mk n2
  clear n1 n2
  obtain ⟨K1, h1'⟩ := digitsOf_p Q (by omega)
  obtain ⟨K2, h2'⟩ := rper_loop hd hd9 5 R 1 (acc ++ [46] ++ [dig Q]) (by omega) (by omega) hrl (by simp; omega)
  dsimp only at h1' h2'
  refine ⟨K1 + K2 + 1, fun k hk => ?_⟩
  obtain ⟨q, rfl⟩ : ∃ q, k = q + 1 := ⟨k - 1, by omega⟩
  have hx := h2' q (by omega)
  have hy := h1' q (by omega)
  show levyref4_Percent.l0 (q + 1) (d : Int) (B acc) (r : Int) 0 = _
  have ei : Aside0 (wrap64 ((0 : Int) + 1) = ((1 : Nat) : Int)) := ⟨by rw [wr (by omega) (by omega)]; rfl⟩
  have ed : Aside0 (wrap64 (Q : Int) = (Q : Int)) := ⟨wr (by omega) (by omega)⟩
  have c1 : (r : Int) > 0 := by omega
  have c4 : ¬ (d : Int) = 0 := by omega
  have c5 : (acc ++ [46]).length + [dig Q].length ≤ 9223372036854775807 := by rw [List.length_append]; show acc.length + 1 + 1 ≤ 9223372036854775807; omega
  have c6 : acc.length + 1 ≤ 9223372036854775807 := by omega
  conv => lhs; unfold levyref4_Percent.l0
  rw [if_pos c1, if_neg (by decide), if_pos rfl, B_size, if_pos c6, if_neg c4, EW.out, N1.out, N2.out, ed.out, hy, Option.bind_some, dec_small hq10, e46, B_append, B_append, B_size, B_size, if_pos c5, ei.out, hx]
  congr 1
  cases longdiv d 5 R with
  | none => rfl
  | some l => show (B (acc ++ [46] ++ [dig Q] ++ l ++ [37]), true) = (B (acc ++ 46 :: (dig Q :: l) ++ [37]), true); simp
theorem rquote_loop (s : ByteArray) (hs : s.size ≤ 40) (d : Nat) : ∀ (i : Nat) (acc : List UInt8), s.data.toList.length = i + d → acc.length + 2 * d ≤ 100 →
  Ev (fun k => levyref4_Quote.l0 k s (B acc) (i : Int)) (qs (s.data.toList.drop i) acc) := by
 have hsl : s.data.toList.length = s.size := by rw [Array.length_toList]; rfl
 have e34 : (⟨#[34]⟩ : ByteArray) = B [34] := rfl
 have e92 : (⟨#[92]⟩ : ByteArray) = B [92] := rfl
 induction d with
 | zero =>
  intro i acc hi ha
  refine ⟨1, fun k hk => ?_⟩
  obtain ⟨q, rfl⟩ : ∃ q, k = q + 1 := ⟨k - 1, by omega⟩
  show levyref4_Quote.l0 (q + 1) s (B acc) (i : Int) = _
  unfold levyref4_Quote.l0
  rw [if_neg (by omega), if_pos (by rw [B_size]; omega), List.drop_of_length_le (by omega), e34, B_append]
  rfl
 | succ d ih =>
  intro i acc hi ha
  have hlt : i < s.data.toList.length := by omega
  obtain ⟨b, hb⟩ : ∃ b, s.data.toList[i]? = some b := ⟨_, List.getElem?_eq_getElem hlt⟩
  obtain ⟨hbt, hi2⟩ := bt_eq s hb
  have hdrop : s.data.toList.drop i = b :: s.data.toList.drop (i + 1) := by
   rw [List.drop_eq_getElem_cons hlt]
   congr 1
   exact (List.getElem?_eq_some_iff.1 hb).2
  have hw : wrap64 ((i : Int) + 1) = ((i + 1 : Nat) : Int) := by rw [wr (by omega) (by omega)]; omega
  have hel : (esc b).length ≤ 2 := by unfold esc; split <;> simp
  obtain ⟨K, hK⟩ := ih (i + 1) (acc ++ esc b) (by omega) (by rw [List.length_append]; omega)
  dsimp only at hK
  have hb255 : b.toNat < 256 := b.toNat_lt
  refine ⟨K + 2, fun k hk => ?_⟩
  obtain ⟨q, rfl⟩ : ∃ q, k = q + 1 + 1 := ⟨k - 2, by omega⟩
  have hk2 := hK q (by omega)
  show levyref4_Quote.l0 (q + 1 + 1) s (B acc) (i : Int) = _
  conv => lhs; unfold levyref4_Quote.l0
  rw [if_pos (by omega), if_pos (by omega), hbt, hdrop]
  by_cases h32 : b.toNat < 32
  ·rw [if_pos (by omega)]
   simp only [levyref4_Quote.j1, if_true]
   unfold qs
   rw [if_pos (Or.inl h32)]
  ·rw [if_neg (by omega)]
   by_cases h126 : 126 < b.toNat
   ·rw [decide_eq_true (by omega)]
    simp only [levyref4_Quote.j1, if_true]
    unfold qs
    rw [if_pos (Or.inr h126)]
   ·rw [decide_eq_false (by omega)]
    have hq : qs (b :: s.data.toList.drop (i + 1)) acc = qs (s.data.toList.drop (i + 1)) (acc ++ esc b) := by
     conv => lhs; unfold qs
     rw [if_neg (by omega)]
    rw [hq, ← hk2]
    have hex : s.extract (i : Int).toNat (((i + 1 : Nat) : Int)).toNat = B [b] := by rw [Int.toNat_natCast, Int.toNat_natCast]; exact extract_one s hb
    unfold levyref4_Quote.j1
    rw [if_neg (by decide), if_pos (by omega), if_pos (by omega), hbt, hw, hex, e92]
    simp only [B_append, B_size, List.length_append, List.length_cons, List.length_nil]
    by_cases h34 : b.toNat = 34
    ·have he : esc b = [92, b] := by unfold esc; rw [if_pos (Or.inl h34)]
     rw [if_pos (by omega), if_pos (by omega), if_pos (by omega), if_pos (by omega), if_pos (by omega), he, List.append_assoc]
     rfl
    ·rw [if_neg (by omega)]
     by_cases h92 : b.toNat = 92
     ·have he : esc b = [92, b] := by unfold esc; rw [if_pos (Or.inr h92)]
      rw [if_pos (by omega), if_pos (by omega), if_pos (by omega), if_pos (by omega), if_pos (by omega), he, List.append_assoc]
      rfl
     ·have he : esc b = [b] := by unfold esc; rw [if_neg (by omega)]
      rw [if_neg (by omega), if_pos (by omega), if_pos (by omega), if_pos (by omega), he]
theorem quote_both (s : ByteArray) : ∃ r : ByteArray × Bool, Ev (fun k => words_Quote.f k s) r ∧ Ev (fun k => levyref4_Quote.f k s) r := by
 have hsl : s.data.toList.length = s.size := by rw [Array.length_toList]; rfl
 by_cases h : (s.size : Int) > 40
 ·exact ⟨((⟨#[]⟩ : ByteArray), false), ⟨0, fun k _ => by show words_Quote.f k s = _; unfold words_Quote.f; rw [if_pos h]⟩, ⟨0, fun k _ => by show levyref4_Quote.f k s = _; unfold levyref4_Quote.f; rw [if_pos h]⟩⟩
 ·refine ⟨qs (s.data.toList.drop 0) [34], ?_, ?_⟩
  ·exact Ev.congr (fun k => by show words_Quote.f k s = _; unfold words_Quote.f; rw [if_neg h]; rfl) (wquote_loop s (by omega) s.data.toList.length 0 [34] (by omega) (by simp only [List.length_cons, List.length_nil]; omega))
  ·exact Ev.congr (fun k => by show levyref4_Quote.f k s = _; unfold levyref4_Quote.f; rw [if_neg h]; rfl) (rquote_loop s (by omega) s.data.toList.length 0 [34] (by omega) (by simp only [List.length_cons, List.length_nil]; omega))
theorem wno (a b : Int) : Ev (fun k => words_Percent.j0 k a b true) ((⟨#[]⟩ : ByteArray), false) := ⟨1, fun k hk => by
 obtain ⟨q, rfl⟩ : ∃ q, k = q + 1 := ⟨k - 1, by omega⟩
 show words_Percent.j0 (q + 1) a b true = _
 simp only [words_Percent.j0, if_true]⟩
theorem rno (a b : Int) : Ev (fun k => levyref4_Percent.j0 k a b true) ((⟨#[]⟩ : ByteArray), false) := ⟨1, fun k hk => by
 obtain ⟨q, rfl⟩ : ∃ q, k = q + 1 := ⟨k - 1, by omega⟩
 show levyref4_Percent.j0 (q + 1) a b true = _
 simp only [levyref4_Percent.j0, if_true]⟩
theorem rper_p {n d : Nat} (hn : n ≤ 1000000000) (hd : 0 < d) (hd9 : d ≤ 1000000000) :
  Ev (fun k => levyref4_Percent.j0 k (n : Int) (d : Int) false) (perS (decDigits (n * 100 / d)) (longdiv d 6 (n * 100 % d))) := by
 have w1 : Aside0 (wrap64 (100 * (n : Int)) = ((n * 100 : Nat) : Int)) := ⟨by rw [wr (by omega) (by omega)]; omega⟩
 have n1 := natdiv (n * 100) d
 have n2 := natmod (n * 100) d
 have hW : n * 100 / d ≤ 100000000000 := Nat.le_trans (Nat.div_le_self _ _) (by omega)
 have hr : n * 100 % d < d := Nat.mod_lt _ hd
 have N1 := Aside0.mk n1
 have N2 := Aside0.mk n2
 clear n1 n2
 generalize n * 100 / d = W at *
 generalize n * 100 % d = R at *
 have l1 := dec_len W (by omega)
 obtain ⟨K1, h1⟩ := digitsOf_p W (by omega)
 obtain ⟨K2, h2⟩ := rper_start hd hd9 R hr (decDigits W) l1
 dsimp only at h1 h2
 have w2 : Aside0 (wrap64 (W : Int) = (W : Int)) := ⟨wr (by omega) (by omega)⟩
 refine ⟨K1 + K2 + 1, fun k hk => ?_⟩
 obtain ⟨q, rfl⟩ : ∃ q, k = q + 1 := ⟨k - 1, by omega⟩
 have hx := h1 q (by omega)
 have hy := h2 q (by omega)
 have hd0 : ¬ (d : Int) = 0 := by omega
 show levyref4_Percent.j0 (q + 1) (n : Int) (d : Int) false = _
 simp only [levyref4_Percent.j0, Bool.false_eq_true, if_false]
 rw [if_neg hd0, w1.out, N1.out, N2.out, w2.out, hx, Option.bind_some]
 exact hy
theorem percent_both (a b : Int) : ∃ r : ByteArray × Bool, Ev (fun k => words_Percent.f k a b) r ∧ Ev (fun k => levyref4_Percent.f k a b) r := by
 by_cases h1 : a < 0
 ·exact ⟨_, Ev.congr (fun k => by show words_Percent.f k a b = _; unfold words_Percent.f; rw [if_pos h1]) (wno a b), Ev.congr (fun k => by show levyref4_Percent.f k a b = _; unfold levyref4_Percent.f; rw [if_pos h1]) (rno a b)⟩
 by_cases h2 : a > 1000000000
 ·exact ⟨_, Ev.congr (fun k => by show words_Percent.f k a b = _; unfold words_Percent.f; rw [if_neg h1, if_pos h2]) (wno a b), Ev.congr (fun k => by show levyref4_Percent.f k a b = _; unfold levyref4_Percent.f; rw [if_neg h1, if_pos h2]) (rno a b)⟩
 by_cases h3 : b < 1
 ·exact ⟨_, Ev.congr (fun k => by show words_Percent.f k a b = _; unfold words_Percent.f; rw [if_neg h1, if_neg h2, if_pos h3]) (wno a b), Ev.congr (fun k => by show levyref4_Percent.f k a b = _; unfold levyref4_Percent.f; rw [if_neg h1, if_neg h2, if_pos h3]) (rno a b)⟩
 by_cases h4 : b > 1000000000
 ·exact ⟨_, Ev.congr (fun k => by show words_Percent.f k a b = _; unfold words_Percent.f; rw [if_neg h1, if_neg h2, if_neg h3, if_pos h4]) (wno a b), Ev.congr (fun k => by show levyref4_Percent.f k a b = _; unfold levyref4_Percent.f; rw [if_neg h1, if_neg h2, if_neg h3, decide_eq_true h4]) (rno a b)⟩
 obtain ⟨n, rfl⟩ : ∃ n : Nat, a = n := ⟨a.toNat, by omega⟩
 obtain ⟨d, rfl⟩ : ∃ d : Nat, b = d := ⟨b.toNat, by omega⟩
 have h5 : ¬ (d : Int) = 0 := by omega
 exact ⟨_, Ev.congr (fun k => by show words_Percent.f k n d = _; unfold words_Percent.f; rw [if_neg h1, if_neg h2, if_neg h3, if_neg h4, if_neg h5]) (wper_p (by omega) (by omega) (by omega)), Ev.congr (fun k => by show levyref4_Percent.f k n d = _; unfold levyref4_Percent.f; rw [if_neg h1, if_neg h2, if_neg h3, decide_eq_false h4]) (rper_p (by omega) (by omega) (by omega))⟩
end Go.Proofs.YtjlclkenfmbahaaGreatDoor.Pure
namespace Go.Proofs.YtjlclkenfmbahaaGreatDoor.Days
open Go.RowKit Go.Proofs.YtjlclkenfmbahaaGreatDoorW.PrintWords Go.Proofs.YtjlclkenfmbahaaGreatDoorW.PrintLast Go.Proofs.YtjlclkenfmbahaaGreatDoor.PA Go.Proofs.YtjlclkenfmbahaaGreatDoor.Cal
set_option linter.unusedVariables false
open Go.Proofs.YtjlclkenfmbahaaGreatDoor.Days
theorem month_search {n : Int} {m : Nat} (h : Mon n m) (d : Nat) : ∀ lo hi : Nat, hi - lo ≤ d → lo ≤ m → m < hi → hi ≤ 3600 →
  Ev (fun k => levyref2_month.l0 k n lo hi) ((m : Int), n - B m) := by
 have hd := h.day
 have hB0 := B_nonneg m
 induction d with
 | zero => intro lo hi h1 h2 h3 h4; omega
 | succ d ih =>
  intro lo hi h1 h2 h3 h4
  by_cases hone : hi = lo + 1
  ·obtain rfl : lo = m := by omega
   subst hone
   refine Ev.step (f := fun k => (levyref2_begins.f k (lo : Int)).bind fun t => some ((lo : Int), wrap64 (n - t))) (fun k => ?_) ?_
   ·simp only [levyref2_month.l0]
    rw [wr (by omega) (by omega), if_neg (by omega)]
   ·have hT := B_top (k := lo) (by omega)
    refine Ev.bind (begins_r (by omega)) ?_
    rw [wr (by omega) (by omega)]
    exact Ev.now _
  ·have e : Int.tdiv (wrap64 ((lo : Int) + hi)) 2 = (((lo + hi) / 2 : Nat) : Int) := by
    rw [wr (by omega) (by omega), Int.tdiv_eq_ediv_of_nonneg (by omega)]; omega
   refine Ev.step (f := fun k => (levyref2_begins.f k (((lo + hi) / 2 : Nat) : Int)).bind fun t => if t ≤ n then levyref2_month.l0 k n (((lo + hi) / 2 : Nat) : Int) hi else levyref2_month.l0 k n lo (((lo + hi) / 2 : Nat) : Int)) (fun k => ?_) ?_
   ·simp only [levyref2_month.l0]
    rw [wr (x := (hi : Int) - lo) (by omega) (by omega), if_pos (by omega), e, wr (by omega) (by omega)]
   ·refine Ev.bind (begins_r (by omega)) ?_
    obtain ⟨_, ha, hb⟩ := h
    by_cases hc : B ((lo + hi) / 2) ≤ n
    ·have hle : (lo + hi) / 2 ≤ m := by
      refine Classical.byContradiction fun hx => ?_
      have := B_mono (show m + 1 ≤ (lo + hi) / 2 by omega)
      omega
     exact Ev.congr (fun k => by rw [if_pos hc]) (ih ((lo + hi) / 2) hi (by omega) hle h3 h4)
    ·have hlt : m < (lo + hi) / 2 := by
      refine Classical.byContradiction fun hx => ?_
      have := B_mono (show (lo + hi) / 2 ≤ m by omega)
      omega
     exact Ev.congr (fun k => by rw [if_neg hc]) (ih lo ((lo + hi) / 2) (by omega) h2 hlt (by omega))
theorem month_r {n : Int} {m : Nat} (h : Mon n m) : Ev (fun k => levyref2_month.f k n) ((m : Int), n - B m) :=
 month_search h 3600 0 3600 (by omega) (by omega) h.1 (by omega)
theorem is_r (n : Int) : levyref2_is.f n = some (decide (0 ≤ n ∧ n ≤ 109572)) := isDay_p n
theorem rdate_yes {n : Int} {m : Nat} (h : Mon n m) : Ev (fun k => levyref2_Date.f k n) ((dateS n m).1, (dateS n m).2.1, (dateS n m).2.2, 0) := by
 have hd := h.day
 have hB := B_nonneg m
 have hT := B_top (k := m) (by have := h.1; omega)
 have hm := h.1
 obtain ⟨_, hl, hu⟩ := h
 refine Ev.congr (f := fun k => (levyref2_month.f k n).bind fun b => some (wrap64 (1900 + wrap64 (Int.tdiv b.1 12)), wrap64 (Int.tmod b.1 12 + 1), wrap64 (b.2 + 1), 0)) (fun k => ?_) (Ev.bind (month_r ⟨hm, hl, hu⟩) ?_)
 ·unfold levyref2_Date.f
  rw [is_r, decide_eq_true hd]; simp only [Option.bind_some, if_true]
 ·refine Ev.congr (fun k => ?_) (Ev.now _)
  unfold dateS
  rw [Int.tdiv_eq_ediv_of_nonneg (by omega), Int.tmod_eq_emod_of_nonneg (by omega), wr (x := (m : Int) / 12) (by omega) (by omega), wr (by omega) (by omega), wr (by omega) (by omega), wr (by omega) (by omega)]
  simp only [Option.some.injEq, Prod.mk.injEq, and_true]
  omega
theorem rdate_no {n : Int} (h : ¬ (0 ≤ n ∧ n ≤ 109572)) : Ev (fun k => levyref2_Date.f k n) (0, 0, 0, 21) := by
 refine Ev.congr (fun k => ?_) (Ev.now _)
 unfold levyref2_Date.f
 rw [is_r, decide_eq_false h]; simp
theorem const_dig {d : Int} (h0 : 0 ≤ d) (h1 : d ≤ 9) : (⟨#[48, 49, 50, 51, 52, 53, 54, 55, 56, 57]⟩ : ByteArray).extract (d : Int).toNat ((d + 1) : Int).toNat = strOfNums [48 + d] := by
 obtain rfl | rfl | rfl | rfl | rfl | rfl | rfl | rfl | rfl | rfl : d = 0 ∨ d = 1 ∨ d = 2 ∨ d = 3 ∨ d = 4 ∨ d = 5 ∨ d = 6 ∨ d = 7 ∨ d = 8 ∨ d = 9 := by omega
 all_goals decide
theorem rdig_step {x : Int} (h0 : 0 ≤ x) (hx : x ≤ 1000000) (l : List Int) (hl : l.length ≤ 10) (i n : Nat) (hi : i < n) (hn : n ≤ 10) (k : Nat) :
  levyref2_digits.l0 (k + 1) x (n : Int) (strOfNums l) (i : Int) = levyref2_digits.l0 k (x / 10) (n : Int) (strOfNums ((48 + x % 10) :: l)) ((i + 1 : Nat) : Int) := by
 simp only [levyref2_digits.l0]
 rw [if_pos (by omega), Int.tdiv_eq_ediv_of_nonneg h0, Int.tmod_eq_emod_of_nonneg h0, if_pos (by omega), wr (x := x % 10 + 1) (by omega) (by omega), if_pos (by omega), if_pos (by omega), const_dig (by omega) (by omega), str_app]
 rw [if_pos (by rw [strOfNums_size, strOfNums_size]; simp only [List.length_cons, List.length_nil]; omega), wr (x := x / 10) (by omega) (by omega), wr (x := (i : Int) + 1) (by omega) (by omega)]
 rfl
theorem rdig_end (x : Int) (n : Nat) (s : ByteArray) (k : Nat) : levyref2_digits.l0 (k + 1) x (n : Int) s (n : Int) = some s := by
 simp only [levyref2_digits.l0]
 rw [if_neg (by omega)]
theorem digits4_r {y : Int} (h0 : 0 ≤ y) (h1 : y ≤ 9999) (k : Nat) : levyref2_digits.f (k + 5) y 4 = some (strOfNums [48 + y / 1000 % 10, 48 + y / 100 % 10, 48 + y / 10 % 10, 48 + y % 10]) := by
 unfold levyref2_digits.f
 rw [show (⟨#[]⟩ : ByteArray) = strOfNums [] from rfl, show (4 : Int) = ((4 : Nat) : Int) from rfl, show (0 : Int) = ((0 : Nat) : Int) from rfl]
 rw [rdig_step h0 (by omega) _ (by simp) 0 4 (by decide) (by decide), rdig_step (by omega) (by omega) _ (by simp) 1 4 (by decide) (by decide), rdig_step (by omega) (by omega) _ (by simp) 2 4 (by decide) (by decide), rdig_step (by omega) (by omega) _ (by simp) 3 4 (by decide) (by decide)]
 rw [rdig_end, show y / 10 / 10 / 10 = y / 1000 by omega, show y / 10 / 10 = y / 100 by omega]
theorem digits2_r {y : Int} (h0 : 0 ≤ y) (h1 : y ≤ 99) (k : Nat) : levyref2_digits.f (k + 5) y 2 = some (strOfNums [48 + y / 10 % 10, 48 + y % 10]) := by
 unfold levyref2_digits.f
 rw [show (⟨#[]⟩ : ByteArray) = strOfNums [] from rfl, show (2 : Int) = ((2 : Nat) : Int) from rfl, show (0 : Int) = ((0 : Nat) : Int) from rfl]
 rw [rdig_step h0 (by omega) _ (by simp) 0 2 (by decide) (by decide), rdig_step (by omega) (by omega) _ (by simp) 1 2 (by decide) (by decide)]
 rw [rdig_end]
theorem rprint_p {n : Int} {q : Nat} (h : Mon n q) : Ev (fun k => levyref2_Print.f k n) (strOfNums (textL (dateS n q).1 (dateS n q).2.1 (dateS n q).2.2), 0) := by
 have hd := h.day
 have hq := h.1
 have hl := h.len
 have hlow := h.2.1
 have hlb := len_bd q
 obtain ⟨K, hK⟩ := rdate_yes h
 refine ⟨K + 6, fun k hk => ?_⟩
 obtain ⟨k, rfl⟩ : ∃ m, k = m + 5 := ⟨k - 5, by omega⟩
 show levyref2_Print.f (k + 5) n = _
 have y0 : 0 ≤ (dateS n q).1 ∧ (dateS n q).1 ≤ 9999 := by unfold dateS; simp only; omega
 have m0 : 0 ≤ (dateS n q).2.1 ∧ (dateS n q).2.1 ≤ 99 := by unfold dateS; simp only; omega
 have d0 : 0 ≤ (dateS n q).2.2 ∧ (dateS n q).2.2 ≤ 99 := by unfold dateS; simp only; omega
 unfold levyref2_Print.f
 rw [show levyref2_Date.f (k + 5) n = some ((dateS n q).1, (dateS n q).2.1, (dateS n q).2.2, 0) from hK _ (by omega), Option.bind_some, if_pos rfl]
 rw [digits4_r y0.1 y0.2, Option.bind_some, if_pos (small (by simp [strOfNums_size])), digits2_r m0.1 m0.2, Option.bind_some, dash_s, str_app, if_pos (small (by simp [strOfNums_size])), str_app, if_pos (small (by simp [strOfNums_size])), digits2_r d0.1 d0.2, Option.bind_some, str_app, if_pos (small (by simp [strOfNums_size])), str_app]
 rfl
theorem rprint_no {n : Int} (h : ¬ (0 ≤ n ∧ n ≤ 109572)) : Ev (fun k => levyref2_Print.f k n) (⟨#[]⟩, 21) := by
 refine Ev.congr (f := fun k => (levyref2_Date.f k n).bind fun b => if b.2.2.2 = 0 then ((levyref2_digits.f k b.1 4).bind fun t255 => (if t255.size + 1 ≤ 9223372036854775807 then ((levyref2_digits.f k b.2.1 2).bind fun t256 => (if (t255 ++ (⟨#[45]⟩ : ByteArray)).size + t256.size ≤ 9223372036854775807 then (if ((t255 ++ (⟨#[45]⟩ : ByteArray)) ++ t256).size + 1 ≤ 9223372036854775807 then ((levyref2_digits.f k b.2.2.1 2).bind fun t257 => (if (((t255 ++ (⟨#[45]⟩ : ByteArray)) ++ t256) ++ (⟨#[45]⟩ : ByteArray)).size + t257.size ≤ 9223372036854775807 then (some ((((t255 ++ (⟨#[45]⟩ : ByteArray)) ++ t256) ++ (⟨#[45]⟩ : ByteArray)) ++ t257, 0)) else (none))) else (none)) else (none))) else (none))) else some ((⟨#[]⟩ : ByteArray), b.2.2.2)) (fun k => rfl) ?_
 refine Ev.bind (rdate_no h) ?_
 refine Ev.congr (fun k => ?_) (Ev.now _)
 rw [if_neg (by decide)]
end Go.Proofs.YtjlclkenfmbahaaGreatDoor.Days
