/- The document's answer on numbers, in plain words: the pieces that digits, a point and a percent sign make. Conditions: each law's own. -/
import Derived.Test.YtidbcenbcllfnaaDoorTPureScanC
import Derived.Test.YtidbcenbcllfnaaDoorTPAx0
import Derived.Test.YtidbcenbcllfnaaDoorTL
namespace Go.Proofs.YtidbcenbcllfnaaDoor.Pure
open Go.RowKit Go.Proofs.YtidbcenbcllfnaaDoorW.PrintWords Go.Proofs.YtidbcenbcllfnaaDoorW.PrintLast Go.Proofs.YtidbcenbcllfnaaDoor.PA Go.Proofs.YtidbcenbcllfnaaDoor.Days
set_option linter.unusedVariables false

theorem whole_val (l : List UInt8) (hd : ∀ b ∈ l, isDg b = true) : ∀ n, (n + 1) * 10 ^ l.length ≤ 1000000000000000000 → wholeR n l = valA n l := by
  induction l with
  | nil => intro n _; rfl
  | cons b l ih =>
    intro n h
    have hb := dg_bounds (hd b (by simp))
    rw [List.length_cons, Nat.pow_succ] at h
    have h2 : (10 * n + (b.toNat - 48) + 1) * 10 ^ l.length ≤ ((n + 1) * 10) * 10 ^ l.length := Nat.mul_le_mul_right _ (by omega)
    have h3 : (n + 1) * (10 ^ l.length * 10) = ((n + 1) * 10) * 10 ^ l.length := by rw [Nat.mul_comm (10 ^ l.length) 10, Nat.mul_assoc]
    have h4 : (n + 1) * 10 ≤ (n + 1) * 10 * 10 ^ l.length := Nat.le_mul_of_pos_right _ (Nat.pow_pos (by decide))
    rw [valA_cons]
    show (if 100000000000000000 ≤ n then 1000000000000000000 else wholeR (10 * n + (b.toNat - 48)) l) = _
    rw [if_neg (by omega)]
    exact ih (fun x hx => hd x (by simp [hx])) _ (by omega)
theorem whole_18 (l : List UInt8) (hd : ∀ b ∈ l, isDg b = true) (h : l.length ≤ 18) : wholeR 0 l = val l := by
  refine whole_val l hd 0 ?_
  have : 10 ^ l.length ≤ 10 ^ 18 := Nat.pow_le_pow_right (by decide) h
  omega
theorem whole_ge (l : List UInt8) : ∀ n m, m ≤ n * 10 ^ l.length → m ≤ 1000000000000000000 → m ≤ wholeR n l := by
  induction l with
  | nil => intro n m h _; show m ≤ n; simpa using h
  | cons b l ih =>
    intro n m h hm
    show m ≤ (if 100000000000000000 ≤ n then 1000000000000000000 else wholeR (10 * n + (b.toNat - 48)) l)
    split
    · exact hm
    · refine ih _ m ?_ hm
      rw [List.length_cons, Nat.pow_succ] at h
      have h3 : n * (10 ^ l.length * 10) = (10 * n) * 10 ^ l.length := by rw [Nat.mul_comm (10 ^ l.length) 10, ← Nat.mul_assoc, Nat.mul_comm n 10]
      have h2 : (10 * n) * 10 ^ l.length ≤ (10 * n + (b.toNat - 48)) * 10 ^ l.length := Nat.mul_le_mul_right _ (by omega)
      omega
theorem valA_ge (l : List UInt8) : ∀ n, n * 10 ^ l.length ≤ valA n l := by
  induction l with
  | nil => intro n; simp [valA]
  | cons b l ih =>
    intro n
    rw [valA_cons, List.length_cons, Nat.pow_succ]
    have h3 : n * (10 ^ l.length * 10) = (10 * n) * 10 ^ l.length := by rw [Nat.mul_comm (10 ^ l.length) 10, ← Nat.mul_assoc, Nat.mul_comm n 10]
    have h2 : (10 * n) * 10 ^ l.length ≤ (10 * n + (b.toNat - 48)) * 10 ^ l.length := Nat.mul_le_mul_right _ (by omega)
    have := ih (10 * n + (b.toNat - 48))
    omega

/-- Digits that may stand ahead in a number. -/
structure Lead (a : List UInt8) : Prop where
  d : ∀ b ∈ a, isDg b = true
  p : 0 < a.length
  h : ¬ (1 < a.length ∧ bt (bA a) 0 = 48)
theorem Lead.first {a : List UInt8} (h : Lead a) (h1 : 1 < a.length) : ∃ b l, a = b :: l ∧ 49 ≤ b.toNat ∧ (b == 48) = false := by
  obtain ⟨b, l, rfl⟩ : ∃ b l, a = b :: l := by
    cases a with
    | nil => simp at h1
    | cons b l => exact ⟨b, l, rfl⟩
  have hb := dg_bounds (h.d b (by simp))
  have hbt : bt (bA (b :: l)) ((0 : Nat) : Int) = (b.toNat : Int) := (bt_of (bA (b :: l)) (i := 0) rfl).1
  have hn := h.h
  have h48 : b.toNat ≠ 48 := fun e => hn ⟨h1, by rw [show (0 : Int) = ((0 : Nat) : Int) from rfl, hbt, e]; rfl⟩
  exact ⟨b, l, rfl, by omega, beq_eq_false_iff_ne.mpr (fun e => h48 (by rw [e]; rfl))⟩
theorem Lead.big {a : List UInt8} (h : Lead a) {k m : Nat} (h1 : k + 1 < a.length) (hm : m ≤ 10 ^ (k + 1)) (hm2 : m ≤ 1000000000000000000) : m ≤ wholeR 0 a := by
  obtain ⟨b, l, rfl, hb, _⟩ := h.first (by omega)
  show m ≤ wholeR (10 * 0 + (b.toNat - 48)) l
  refine whole_ge l _ m ?_ hm2
  rw [List.length_cons] at h1
  have h2 : 10 ^ (k + 1) ≤ 10 ^ l.length := Nat.pow_le_pow_right (by decide) (by omega)
  have h3 : 1 * 10 ^ l.length ≤ (10 * 0 + (b.toNat - 48)) * 10 ^ l.length := Nat.mul_le_mul_right _ (by omega)
  omega
theorem Lead.strip {a : List UInt8} (h : Lead a) (b : List UInt8) (h1 : 1 < a.length) : ((a ++ b).dropWhile (· == 48)).length = a.length + b.length := by
  obtain ⟨c, l, rfl, _, hc⟩ := h.first h1
  rw [List.cons_append, List.dropWhile_cons, if_neg (by simp [hc])]
  simp
  omega
theorem strip_le (l : List UInt8) : (l.dropWhile (· == 48)).length ≤ l.length := (List.dropWhile_sublist _).length_le
theorem digitsR_18 {l : List UInt8} (h : l.length ≤ 18) : digitsR l = ((val l : Int), true) := by
  have := strip_le l
  unfold digitsR
  rw [if_neg (by omega)]
theorem Lead.digitsR_no {a : List UInt8} (h : Lead a) (b : List UInt8) (h1 : 18 < a.length + b.length) (h2 : 1 < a.length) : digitsR (a ++ b) = (0, false) := by
  unfold digitsR
  rw [h.strip b h2, if_pos h1]

/-- What the pieces of a number say. -/
def piecesR (a b : List UInt8) (pt pc : Bool) : S33 × Bool := if pc = true then ratioR a b else if pt = true then amountR a b else countR a
/-- The same answer, said by the document: its fields count only where there is a token. -/
def Same (r : Int × Int × ByteArray × Int × Int × Bool) (R : S33 × Bool) : Prop := r.2.2.2.2.2 = R.2 ∧ (R.2 = true → r = (R.1.f0, 0, R.1.f2, R.1.f3, R.1.f4, true))

theorem j0_count (a : List UInt8) (h : Lead a) (hl : a.length ≤ 8000) (y : ByteArray) : ∃ r, Ev (fun k => levyref4_numbered.j0 k (bA a) false y false false) r ∧ Same r (countR a) := by
  obtain ⟨K, hK⟩ := whole_p a h.d hl
  refine ⟨(3, 0, ⟨#[]⟩, ((wholeR 0 a : Nat) : Int), 0, decide (((wholeR 0 a : Nat) : Int) ≤ 1000000000)), ⟨K + 1, fun k hk => ?_⟩, ?_⟩
  · obtain ⟨q, rfl⟩ : ∃ q, k = q + 1 := ⟨k - 1, by omega⟩
    have hq := hK q (by omega)
    dsimp only at hq
    show levyref4_numbered.j0 (q + 1) (bA a) false y false false = _
    simp only [levyref4_numbered.j0]
    rw [if_neg (by decide), hq, Option.bind_some, if_neg (by decide), if_neg (by decide)]
  · unfold countR
    by_cases h18 : a.length ≤ 18
    · rw [digitsR_18 h18, whole_18 a h.d h18]
      refine ⟨by simp, fun ht => ?_⟩
      rw [Bool.true_and] at ht
      show (3, 0, _, _, 0, _) = (_, _, _, _, _, true)
      rw [← ht]
    · have hb := h.big (k := 9) (m := 10000000000) (by omega) (by decide) (by decide)
      have e : digitsR a = (0, false) := by have := h.digitsR_no [] (by simp; omega) (by omega); rwa [List.append_nil] at this
      rw [e]
      refine ⟨?_, fun ht => by cases ht⟩
      show decide _ = _
      rw [decide_eq_false (by omega)]
      rfl
theorem j0_amount (a b : List UInt8) (h : Lead a) (hb : ∀ x ∈ b, isDg x = true) (hl : a.length + b.length ≤ 8000) : ∃ r, Ev (fun k => levyref4_numbered.j0 k (bA a) true (bA b) false false) r ∧ Same r (amountR a b) := by
  obtain ⟨K, hK⟩ := whole_p a h.d (by omega)
  have hsz := bA_size b
  by_cases h2 : b.length = 2
  · by_cases hn : ((wholeR 0 a : Nat) : Int) > 9999999999999
    · refine ⟨(0, 0, ⟨#[]⟩, 0, 0, false), ⟨K + 1, fun k hk => ?_⟩, ?_⟩
      · obtain ⟨q, rfl⟩ : ∃ q, k = q + 1 := ⟨k - 1, by omega⟩
        have hq := hK q (by omega)
        dsimp only at hq
        show levyref4_numbered.j0 (q + 1) (bA a) true (bA b) false false = _
        simp only [levyref4_numbered.j0]
        rw [if_neg (by decide), hq, Option.bind_some, if_neg (by decide), if_pos trivial, if_pos (by omega), if_pos hn]
      · unfold amountR
        by_cases h16 : a.length ≤ 16
        · rw [digitsR_18 (by rw [List.length_append]; omega)]
          have hv := valA_ge b (val a)
          have e : val (a ++ b) = valA (val a) b := valA_append 0 a b
          rw [whole_18 a h.d (by omega)] at hn
          rw [← e, h2] at hv
          have : decide (((val (a ++ b) : Nat) : Int) ≤ 9999999999999) = false := decide_eq_false (by omega)
          rw [this, Bool.and_false]
          exact ⟨rfl, fun ht => by cases ht⟩
        · rw [h.digitsR_no b (by omega) (by omega)]
          exact ⟨rfl, fun ht => by cases ht⟩
    · have h16 : a.length ≤ 16 := by
        rcases Nat.lt_or_ge 16 a.length with h | h
        · have := Lead.big (by assumption) (k := 15) (m := 10000000000000000) (by omega) (by decide) (by decide)
          omega
        · exact h
      obtain ⟨K2, hK2⟩ := whole_p b hb (by omega)
      rw [whole_18 a h.d (by omega)] at hK hn
      rw [whole_18 b hb (by omega)] at hK2
      have hv : val (a ++ b) = 100 * val a + val b := by
        have : ∀ (l : List UInt8) (n : Nat), l.length = 2 → valA n l = 100 * n + valA 0 l := by
          intro l n hl
          match l, hl with
          | [x, y], _ => simp only [valA_cons]; unfold valA; simp only [List.foldl_nil]; omega
        have e : val (a ++ b) = valA (val a) b := valA_append 0 a b
        rw [e, this b _ h2]; rfl
      have hvb := val_lt b hb
      rw [h2] at hvb
      have e1 : wrap64 (wrap64 (100 * ((val a : Nat) : Int)) + ((val b : Nat) : Int)) = ((val (a ++ b) : Nat) : Int) := by
        rw [wrI (x := 100 * _) (by omega) (by omega), wrI (by omega) (by omega)]; omega
      refine ⟨(2, 0, ⟨#[]⟩, ((val (a ++ b) : Nat) : Int), 0, decide (((val (a ++ b) : Nat) : Int) ≤ 9999999999999)), ⟨K + K2 + 1, fun k hk => ?_⟩, ?_⟩
      · obtain ⟨q, rfl⟩ : ∃ q, k = q + 1 := ⟨k - 1, by omega⟩
        have hq := hK q (by omega)
        have hq2 := hK2 q (by omega)
        dsimp only at hq hq2
        show levyref4_numbered.j0 (q + 1) (bA a) true (bA b) false false = _
        simp only [levyref4_numbered.j0]
        rw [if_neg (by decide), hq, Option.bind_some, if_neg (by decide), if_pos trivial, if_pos (by omega), if_neg hn, hq2, Option.bind_some, e1]
      · unfold amountR
        rw [digitsR_18 (by rw [List.length_append]; omega), decide_eq_true h2]
        refine ⟨by simp, fun ht => ?_⟩
        rw [Bool.true_and, Bool.true_and] at ht
        show (2, 0, _, _, 0, _) = (_, _, _, _, _, true)
        rw [← ht]
  · refine ⟨(0, 0, ⟨#[]⟩, 0, 0, false), ⟨K + 1, fun k hk => ?_⟩, ?_⟩
    · obtain ⟨q, rfl⟩ : ∃ q, k = q + 1 := ⟨k - 1, by omega⟩
      have hq := hK q (by omega)
      dsimp only at hq
      show levyref4_numbered.j0 (q + 1) (bA a) true (bA b) false false = _
      simp only [levyref4_numbered.j0]
      rw [if_neg (by decide), hq, Option.bind_some, if_neg (by decide), if_pos trivial, if_neg (by omega)]
    · unfold amountR
      rw [decide_eq_false h2, Bool.and_false]
      exact ⟨rfl, fun ht => by cases ht⟩

theorem ratio_loop (b : List UInt8) (hb : ∀ x ∈ b, isDg x = true) (h6 : b.length ≤ 6) (d : Nat) : ∀ (i n : Nat), b.length = i + d → n < 100000000001 * 10 ^ i →
    ∃ r, Ev (fun k => levyref4_numbered.l0 k (bA b) (n : Int) ((denR i : Nat) : Int) (i : Int)) r ∧
      Same r (⟨4, 0, ⟨#[]⟩, ((valA n (b.drop i) / Nat.gcd (valA n (b.drop i)) (denR b.length) : Nat) : Int), ((denR b.length / Nat.gcd (valA n (b.drop i)) (denR b.length) : Nat) : Int)⟩,
        decide (((valA n (b.drop i) / Nat.gcd (valA n (b.drop i)) (denR b.length) : Nat) : Int) ≤ 1000000000) && decide (((denR b.length / Nat.gcd (valA n (b.drop i)) (denR b.length) : Nat) : Int) ≤ 1000000000)) := by
  have hsz := bA_size b
  have hp6 : ∀ i, i ≤ 6 → 10 ^ i ≤ 1000000 := fun i hi => Nat.pow_le_pow_right (show 0 < 10 by decide) hi
  induction d with
  | zero =>
    intro i n hi hn
    obtain rfl : b.length = i := by omega
    have hdp := denR_le (k := b.length) h6
    have hpp := hp6 b.length h6
    rw [List.drop_length]
    have hv : valA n [] = n := rfl
    rw [hv]
    have hd0 : 0 < denR b.length := by unfold denR; exact Nat.mul_pos (by decide) (Nat.pow_pos (by decide))
    have hg := Nat.gcd_pos_of_pos_right n hd0
    have hle := Nat.div_le_self n (Nat.gcd n (denR b.length))
    have hle2 := Nat.div_le_self (denR b.length) (Nat.gcd n (denR b.length))
    obtain ⟨K, hK⟩ := common_p (denR b.length) n
    generalize denR b.length = D at *
    generalize hgg : Nat.gcd n D = g at *
    have t1 : Int.tdiv (n : Int) (g : Int) = ((n / g : Nat) : Int) := rfl
    have t2 : Int.tdiv (D : Int) (g : Int) = ((D / g : Nat) : Int) := rfl
    generalize n / g = a1 at *
    generalize D / g = a2 at *
    have e1 : wrap64 (Int.tdiv (n : Int) (g : Int)) = (a1 : Int) := by rw [t1, wrI (by omega) (by omega)]
    have e2 : wrap64 (Int.tdiv (D : Int) (g : Int)) = (a2 : Int) := by rw [t2, wrI (by omega) (by omega)]
    have hev : ∀ q, K ≤ q → levyref4_numbered.l0 (q + 1) (bA b) (n : Int) (D : Int) (b.length : Int) = (if (a1 : Int) ≤ 1000000000 then (some (4, 0, (⟨#[]⟩ : ByteArray), (a1 : Int), (a2 : Int), decide ((a2 : Int) ≤ 1000000000))) else (some (4, 0, (⟨#[]⟩ : ByteArray), (a1 : Int), (a2 : Int), false))) := fun q hq => by
      have h := hK q hq
      dsimp only at h
      simp only [levyref4_numbered.l0, levyref4_common.f]
      rw [if_neg (by omega), h, Option.bind_some, if_neg (by omega), e1, e2]
    by_cases h1 : (a1 : Int) ≤ 1000000000
    · refine ⟨(4, 0, ⟨#[]⟩, (a1 : Int), (a2 : Int), decide ((a2 : Int) ≤ 1000000000)), ⟨K + 1, fun k hk => ?_⟩, ?_⟩
      · obtain ⟨q, rfl⟩ : ∃ q, k = q + 1 := ⟨k - 1, by omega⟩
        show levyref4_numbered.l0 (q + 1) (bA b) (n : Int) (D : Int) (b.length : Int) = _
        rw [hev q (by omega), if_pos h1]
      · rw [decide_eq_true h1, Bool.true_and]
        refine ⟨rfl, fun ht => ?_⟩
        show (4, 0, _, _, _, _) = (_, _, _, _, _, true)
        have ht : decide ((a2 : Int) ≤ 1000000000) = true := ht
        rw [ht]
    · refine ⟨(4, 0, ⟨#[]⟩, (a1 : Int), (a2 : Int), false), ⟨K + 1, fun k hk => ?_⟩, ?_⟩
      · obtain ⟨q, rfl⟩ : ∃ q, k = q + 1 := ⟨k - 1, by omega⟩
        show levyref4_numbered.l0 (q + 1) (bA b) (n : Int) (D : Int) (b.length : Int) = _
        rw [hev q (by omega), if_neg h1]
      · rw [decide_eq_false h1, Bool.false_and]
        exact ⟨rfl, fun ht => by cases ht⟩
  | succ d ih =>
    intro i n hi hn
    have hlt : i < b.length := by omega
    obtain ⟨c, hc⟩ : ∃ c, (Ls (bA b))[i]? = some c := ⟨_, List.getElem?_eq_getElem hlt⟩
    have hbt := (bt_of (bA b) hc).1
    have hdrop : b.drop i = c :: b.drop (i + 1) := by
      rw [List.drop_eq_getElem_cons hlt]
      congr 1
      exact (List.getElem?_eq_some_iff.1 hc).2
    have hbd := dg_bounds (hb c (List.mem_of_getElem? hc))
    have hpp := hp6 i (by omega)
    have hp5 : 10 ^ i ≤ 100000 := Nat.pow_le_pow_right (show 0 < 10 by decide) (show i ≤ 5 by omega)
    have hdp := denR_le (k := i) (by omega)
    rw [hdrop, valA_cons]
    obtain ⟨r, ⟨K, hK⟩, hS⟩ := ih (i + 1) (10 * n + (c.toNat - 48)) (by omega) (by rw [Nat.pow_succ]; omega)
    refine ⟨r, ⟨K + 1, fun k hk => ?_⟩, hS⟩
    obtain ⟨q, rfl⟩ : ∃ q, k = q + 1 := ⟨k - 1, by omega⟩
    have hq := hK q (by omega)
    dsimp only at hq
    show levyref4_numbered.l0 (q + 1) (bA b) (n : Int) ((denR i : Nat) : Int) (i : Int) = _
    simp only [levyref4_numbered.l0]
    have e1 : wrap64 ((wrap64 (10 * (n : Int))) + ((bt (bA b) (i : Int) - 48) % 256)) = ((10 * n + (c.toNat - 48) : Nat) : Int) := PA.dig_step (by omega) hbt hbd.1 hbd.2
    have e2 : wrap64 ((i : Int) + 1) = ((i + 1 : Nat) : Int) := by rw [wrI (by omega) (by omega)]; omega
    have e3 : wrap64 (((denR i : Nat) : Int) * 10) = ((denR (i + 1) : Nat) : Int) := by rw [denR_succ, wrI (by omega) (by omega)]; omega
    rw [e1, e2, e3, hq]
    clear e1 e2 e3 hq hK hn
    rw [if_pos (by omega), if_pos (by omega)]
theorem ratio_none {a b : List UInt8} {n : Nat} (hv : n * 10 ^ b.length ≤ val (a ++ b)) (hn : 100000000000 < n) : ((val (a ++ b) / Nat.gcd (val (a ++ b)) (denR b.length) : Nat) : Int) ≤ 1000000000 → False := by
  intro h
  have hd0 : 0 < denR b.length := by unfold denR; exact Nat.mul_pos (by decide) (Nat.pow_pos (by decide))
  have hg := Nat.le_of_dvd hd0 (Nat.gcd_dvd_right (val (a ++ b)) (denR b.length))
  have hN := Nat.div_mul_cancel (Nat.gcd_dvd_left (val (a ++ b)) (denR b.length))
  generalize val (a ++ b) / Nat.gcd (val (a ++ b)) (denR b.length) = x at h hN
  generalize Nat.gcd (val (a ++ b)) (denR b.length) = g at hg hN
  generalize val (a ++ b) = N at *
  have h1 : x * g ≤ 1000000000 * denR b.length := Nat.mul_le_mul (by omega) hg
  have h2 : 100000000001 * 10 ^ b.length ≤ n * 10 ^ b.length := Nat.mul_le_mul_right _ (by omega)
  have h3 : 0 < 10 ^ b.length := Nat.pow_pos (by decide)
  unfold denR at h1
  generalize 10 ^ b.length = P at *
  generalize n * P = Q at *
  omega
theorem j0_ratio (a b : List UInt8) (pt : Bool) (h : Lead a) (hb : ∀ x ∈ b, isDg x = true) (hpt : pt = decide (0 < b.length)) (hl : a.length + b.length ≤ 8000) : ∃ r, Ev (fun k => levyref4_numbered.j0 k (bA a) pt (bA b) true false) r ∧ Same r (ratioR a b) := by
  obtain ⟨K, hK⟩ := whole_p a h.d (by omega)
  have hsz := bA_size b
  have no : ∀ q x, levyref4_numbered.j1 (q + 1) (bA b) x true = some (0, 0, (⟨#[]⟩ : ByteArray), 0, 0, false) := fun q x => by
    simp only [levyref4_numbered.j1]
    rw [if_pos trivial]
  have e1 : wrap64 (((bA b).size : Int) - 1) = ((bA b).size : Int) - 1 := wrI (by omega) (by omega)
  have head : ∀ q, K ≤ q → levyref4_numbered.j0 (q + 1) (bA a) pt (bA b) true false = if 6 < b.length ∨ b.getLast? = some 48 then levyref4_numbered.j1 q (bA b) ((wholeR 0 a : Nat) : Int) true else levyref4_numbered.j1 q (bA b) ((wholeR 0 a : Nat) : Int) (decide (((wholeR 0 a : Nat) : Int) > 100000000000)) := fun q hq => by
    have hq := hK q hq
    dsimp only at hq
    simp only [levyref4_numbered.j0]
    rw [if_neg (by decide), hq, Option.bind_some, if_pos trivial]
    cases pt with
    | false =>
      have h0 : b = [] := by
        have := of_decide_eq_false hpt.symm
        exact List.length_eq_zero_iff.mp (by omega)
      subst h0
      rw [if_neg (by decide), if_neg (by simp)]
    | true =>
      have h0 : 0 < b.length := of_decide_eq_true hpt.symm
      rw [if_pos rfl]
      by_cases h6 : 6 < b.length
      · rw [if_pos (by omega), if_pos (Or.inl h6)]
      · rw [if_neg (by omega), e1, if_pos (by omega), if_pos (by omega)]
        obtain ⟨x, hx, hx2⟩ := last_bt (bA b) (by omega)
        have hx2 : b.getLast? = some x := hx2
        have e2 : ((bA b).size : Int) - 1 = (((bA b).size - 1 : Nat) : Int) := by omega
        rw [e2, (bt_of _ hx).1, hx2]
        by_cases h48 : x = 48
        · subst h48
          rw [if_pos (by decide), if_pos (Or.inr rfl)]
        · rw [if_neg (fun e => h48 (UInt8.toNat_inj.mp (show x.toNat = (48 : UInt8).toNat by have : (48 : UInt8).toNat = 48 := rfl; omega))), if_neg]
          rintro (h | h)
          · exact h6 h
          · exact h48 (Option.some.inj h)
  by_cases hbad : 6 < b.length ∨ b.getLast? = some 48
  · refine ⟨(0, 0, ⟨#[]⟩, 0, 0, false), ⟨K + 2, fun k hk => ?_⟩, ?_⟩
    · obtain ⟨q, rfl⟩ : ∃ q, k = q + 2 := ⟨k - 2, by omega⟩
      show levyref4_numbered.j0 (q + 1 + 1) (bA a) pt (bA b) true false = _
      rw [head (q + 1) (by omega), if_pos hbad, no]
    · unfold ratioR
      rw [if_pos hbad]
      exact ⟨rfl, fun ht => by cases ht⟩
  · have h6 : b.length ≤ 6 := by omega
    have hd0 : 0 < denR b.length := by unfold denR; exact Nat.mul_pos (by decide) (Nat.pow_pos (by decide))
    have hg := Nat.gcd_pos_of_pos_right (val (a ++ b)) hd0
    have hmax : max (Nat.gcd (val (a ++ b)) (denR b.length)) 1 = Nat.gcd (val (a ++ b)) (denR b.length) := Nat.max_eq_left hg
    by_cases hn : 100000000000 < wholeR 0 a
    · refine ⟨(0, 0, ⟨#[]⟩, 0, 0, false), ⟨K + 2, fun k hk => ?_⟩, ?_⟩
      · obtain ⟨q, rfl⟩ : ∃ q, k = q + 2 := ⟨k - 2, by omega⟩
        show levyref4_numbered.j0 (q + 1 + 1) (bA a) pt (bA b) true false = _
        rw [head (q + 1) (by omega), if_neg hbad, decide_eq_true (show ((wholeR 0 a : Nat) : Int) > 100000000000 by omega), no]
      · unfold ratioR
        rw [if_neg hbad]
        by_cases hD : (digitsR (a ++ b)).2 = false
        · rw [if_pos hD]
          exact ⟨rfl, fun ht => by cases ht⟩
        · rw [if_neg hD, hmax]
          have h18 : a.length ≤ 18 := by
            rcases Nat.lt_or_ge 18 a.length with h9 | h9
            · rw [h.digitsR_no b (by omega) (by omega)] at hD
              exact absurd rfl hD
            · exact h9
          rw [whole_18 a h.d h18] at hn
          have hv := valA_ge b (val a)
          have e : val (a ++ b) = valA (val a) b := valA_append 0 a b
          rw [← e] at hv
          have := ratio_none (a := a) (b := b) hv hn
          rw [decide_eq_false this, Bool.false_and]
          exact ⟨rfl, fun ht => by cases ht⟩
    · have h12 : a.length ≤ 12 := by
        rcases Nat.lt_or_ge 12 a.length with h9 | h9
        · have := h.big (k := 11) (m := 1000000000000) (by omega) (by decide) (by decide)
          omega
        · exact h9
      rw [whole_18 a h.d (by omega)] at head hn
      have e : val (a ++ b) = valA (val a) b := valA_append 0 a b
      obtain ⟨r, ⟨K2, hK2⟩, hS⟩ := ratio_loop b hb h6 b.length 0 (val a) (by omega) (by omega)
      rw [List.drop_zero, ← e] at hS
      refine ⟨r, ⟨K + K2 + 2, fun k hk => ?_⟩, ?_⟩
      · obtain ⟨q, rfl⟩ : ∃ q, k = q + 2 := ⟨k - 2, by omega⟩
        have hq := hK2 q (by omega)
        dsimp only at hq
        show levyref4_numbered.j0 (q + 1 + 1) (bA a) pt (bA b) true false = _
        rw [head (q + 1) (by omega), if_neg hbad, decide_eq_false (show ¬ ((val a : Nat) : Int) > 100000000000 by omega)]
        simp only [levyref4_numbered.j1]
        rw [if_neg (by decide)]
        exact hq
      · unfold ratioR
        rw [if_neg hbad, digitsR_18 (by rw [List.length_append]; omega), if_neg (by simp), hmax]
        exact hS
theorem numbered_p (a b : List UInt8) (pt pc : Bool) (ha : ∀ x ∈ a, isDg x = true) (ha0 : 0 < a.length) (hb : ∀ x ∈ b, isDg x = true) (hpt : pt = decide (0 < b.length)) (hl : a.length + b.length ≤ 8000) :
    ∃ r, Ev (fun k => levyref4_numbered.f k (bA a) pt (bA b) pc) r ∧ Same r (if 1 < a.length ∧ bt (bA a) 0 = 48 then (⟨0, 0, ⟨#[]⟩, 0, 0⟩, false) else piecesR a b pt pc) := by
  have hsz := bA_size a
  by_cases h1 : 1 < a.length ∧ bt (bA a) 0 = 48
  · rw [if_pos h1]
    refine ⟨(0, 0, ⟨#[]⟩, 0, 0, false), ⟨1, fun k hk => ?_⟩, rfl, fun ht => by cases ht⟩
    obtain ⟨q, rfl⟩ : ∃ q, k = q + 1 := ⟨k - 1, by omega⟩
    show levyref4_numbered.f (q + 1) (bA a) pt (bA b) pc = _
    unfold levyref4_numbered.f
    rw [if_pos (by omega), if_pos (by omega), h1.2]
    simp only [levyref4_numbered.j0]
    rw [if_pos (by decide)]
  · rw [if_neg h1]
    have e : ∀ k, levyref4_numbered.f k (bA a) pt (bA b) pc = levyref4_numbered.j0 k (bA a) pt (bA b) pc false := fun k => by
      unfold levyref4_numbered.f
      by_cases h2 : 1 < a.length
      · rw [if_pos (by omega), if_pos (by omega), beq_eq_false_iff_ne.mpr (fun h => h1 ⟨h2, h⟩)]
      · rw [if_neg (by omega)]
    have hL : Lead a := ⟨ha, ha0, h1⟩
    obtain ⟨r, hr, hS⟩ : ∃ r, Ev (fun k => levyref4_numbered.j0 k (bA a) pt (bA b) pc false) r ∧ Same r (piecesR a b pt pc) := by
      unfold piecesR
      cases pc with
      | true => rw [if_pos rfl]; exact j0_ratio a b pt hL hb hpt hl
      | false =>
        rw [if_neg (by decide)]
        cases pt with
        | true => rw [if_pos rfl]; exact j0_amount a b hL hb hl
        | false => rw [if_neg (by decide)]; exact j0_count a hL (by omega) (bA b)
    exact ⟨r, Ev.congr e hr, hS⟩
end Go.Proofs.YtidbcenbcllfnaaDoor.Pure
