/- The document's answer on dates, wholes and common divisors, in plain words. Conditions: each law's own. -/
import Derived.Test.YtidbcenbcllfnaaDoorTPureScanA
import Derived.Test.YtidbcenbcllfnaaDoorTPureParse
import Derived.Test.YtidbcenbcllfnaaDoorTPAx0
import Derived.Test.YtidbcenbcllfnaaDoorTL
namespace Go.Proofs.YtidbcenbcllfnaaDoor.Pure
open Go.RowKit Go.Proofs.YtidbcenbcllfnaaDoorW.PrintWords Go.Proofs.YtidbcenbcllfnaaDoorW.PrintLast Go.Proofs.YtidbcenbcllfnaaDoor.PA Go.Proofs.YtidbcenbcllfnaaDoor.Days
set_option linter.unusedVariables false

/-- What the document's look at a word tells, said by the scanner's answer. -/
def rfOf (r : S33 × Bool × Nat × Int × Int) : Int × Int × ByteArray × Int × Int × Int × Int :=
  if r.2.1 = true then (r.1.f0, 0, r.1.f2, r.1.f3, r.1.f4, (r.2.2.1 : Int), 0) else (0, 0, ⟨#[]⟩, 0, 0, r.2.2.2.2, r.2.2.2.1)

theorem datedB_at {s : ByteArray} {p : Nat} (h : datedB s p = true) {j : Nat} (hj : j < 10) : datedT s p j = true := datedGo_at 10 0 h j (by omega) (by omega)
theorem false_of {b : Bool} (h : b = true → False) : b = false := by cases b with | true => exact (h rfl).elim | false => rfl

theorem dateAt_loop (s : ByteArray) (hs : s.size ≤ 8000) (p : Nat) (hp : p + 10 ≤ s.size) (h4 : datedT s p 4 = true) (h7 : datedT s p 7 = true) (d : Nat) :
    ∀ i, i + d = 10 → Ev (fun k => levyref4_dateAt.l0 k s (p : Int) (i : Int)) (datedGo s p d i) := by
  induction d with
  | zero =>
    intro i hi
    refine ⟨1, fun k hk => ?_⟩
    obtain ⟨q, rfl⟩ : ∃ q, k = q + 1 := ⟨k - 1, by omega⟩
    show levyref4_dateAt.l0 (q + 1) s (p : Int) (i : Int) = _
    simp only [levyref4_dateAt.l0]
    rw [if_neg (by omega)]
    rfl
  | succ d ih =>
    intro i hi
    obtain ⟨K, hK⟩ := ih (i + 1) (by omega)
    refine ⟨K + 1, fun k hk => ?_⟩
    obtain ⟨q, rfl⟩ : ∃ q, k = q + 1 := ⟨k - 1, by omega⟩
    have hq := hK q (by omega)
    dsimp only at hq
    show levyref4_dateAt.l0 (q + 1) s (p : Int) (i : Int) = _
    simp only [levyref4_dateAt.l0]
    have e1 : wrap64 ((p : Int) + (i : Int)) = ((p + i : Nat) : Int) := by rw [wrI (by omega) (by omega)]; omega
    have e2 : wrap64 ((i : Int) + 1) = ((i + 1 : Nat) : Int) := by rw [wrI (by omega) (by omega)]; omega
    rw [e1, e2, hq]
    clear e1 e2 hq
    rw [if_pos (by omega)]
    show _ = some (if datedT s p i = true then datedGo s p d (i + 1) else false)
    by_cases c4 : i = 4
    · subst c4
      rw [if_pos (by omega), if_pos h4]
    rw [if_neg (by omega)]
    by_cases c7 : i = 7
    · subst c7
      rw [if_pos (by omega), if_pos h7]
    rw [if_neg (by omega), if_pos (by omega), if_pos (by omega)]
    obtain ⟨b, hb⟩ := byte_some s (i := p + i) (by omega)
    have hT : datedT s p i = isDg b := by
      unfold datedT atP
      rw [if_neg (by omega), hb]
    rw [(bt_of s hb).1, digit_r, Option.bind_some, hT]
    split <;> rfl
theorem datedT_45 {s : ByteArray} {p i : Nat} (h : i = 4 ∨ i = 7) (hp : p + i < s.size) : datedT s p i = (bt s ((p + i : Nat) : Int) == 45) := by
  obtain ⟨b, hb⟩ := byte_some s hp
  unfold datedT atP
  rw [if_pos h, hb, (bt_of s hb).1]
  by_cases h45 : b.toNat = 45
  · show (b.toNat == 45) = _
    rw [h45]; rfl
  · rw [beq_eq_false_iff_ne.mpr (show ((b.toNat : Int)) ≠ 45 by omega)]
    exact beq_eq_false_iff_ne.mpr h45
theorem dateAt_p (s : ByteArray) (hs : s.size ≤ 8000) (p : Nat) (hp : p ≤ s.size) : Ev (fun k => levyref4_dateAt.f k s (p : Int)) (datedB s p) := by
  have e10 : wrap64 ((p : Int) + 10) = ((p + 10 : Nat) : Int) := by rw [wrI (by omega) (by omega)]; omega
  have e4 : wrap64 ((p : Int) + 4) = ((p + 4 : Nat) : Int) := by rw [wrI (by omega) (by omega)]; omega
  have e7 : wrap64 ((p : Int) + 7) = ((p + 7 : Nat) : Int) := by rw [wrI (by omega) (by omega)]; omega
  have no : ∀ q, levyref4_dateAt.j0 (q + 1) s (p : Int) true = some false := fun q => by simp only [levyref4_dateAt.j0]; rw [if_pos trivial]
  by_cases h10 : s.size < p + 10
  · rw [false_of (b := datedB s p) (fun h => by have := datedB_le h; omega)]
    refine ⟨1, fun k hk => ?_⟩
    obtain ⟨q, rfl⟩ : ∃ q, k = q + 1 := ⟨k - 1, by omega⟩
    show levyref4_dateAt.f (q + 1) s (p : Int) = _
    unfold levyref4_dateAt.f
    rw [e10, if_pos (by omega)]
    exact no q
  by_cases h4 : datedT s p 4 = true
  · have k4 := h4
    rw [datedT_45 (Or.inl rfl) (by omega), beq_iff_eq] at k4
    by_cases h7 : datedT s p 7 = true
    · have k7 := h7
      rw [datedT_45 (Or.inr rfl) (by omega), beq_iff_eq] at k7
      obtain ⟨K, hK⟩ := dateAt_loop s hs p (by omega) h4 h7 10 0 rfl
      refine ⟨K + 1, fun k hk => ?_⟩
      obtain ⟨q, rfl⟩ : ∃ q, k = q + 1 := ⟨k - 1, by omega⟩
      have hq := hK q (by omega)
      show levyref4_dateAt.f (q + 1) s (p : Int) = _
      unfold levyref4_dateAt.f
      rw [e10, e4, e7]
      clear e10 e4 e7
      rw [if_neg (by omega), if_pos (by omega), if_pos (by omega), if_pos k4, if_pos (by omega), if_pos (by omega), k7]
      simp only [levyref4_dateAt.j0]
      rw [if_neg (by decide)]
      exact hq
    · rw [false_of (b := datedB s p) (fun h => h7 (datedB_at h (by omega)))]
      have k7 := h7
      rw [datedT_45 (Or.inr rfl) (by omega), beq_iff_eq] at k7
      refine ⟨1, fun k hk => ?_⟩
      obtain ⟨q, rfl⟩ : ∃ q, k = q + 1 := ⟨k - 1, by omega⟩
      show levyref4_dateAt.f (q + 1) s (p : Int) = _
      unfold levyref4_dateAt.f
      rw [e10, e4, e7]
      clear e10 e4 e7
      rw [if_neg (by omega), if_pos (by omega), if_pos (by omega), if_pos k4, if_pos (by omega), if_pos (by omega), bne_iff_ne.mpr k7]
      exact no q
  · rw [false_of (b := datedB s p) (fun h => h4 (datedB_at h (by omega)))]
    have k4 := h4
    rw [datedT_45 (Or.inl rfl) (by omega), beq_iff_eq] at k4
    refine ⟨1, fun k hk => ?_⟩
    obtain ⟨q, rfl⟩ : ∃ q, k = q + 1 := ⟨k - 1, by omega⟩
    show levyref4_dateAt.f (q + 1) s (p : Int) = _
    unfold levyref4_dateAt.f
    rw [e10, e4, e7]
    clear e10 e4 e7
    rw [if_neg (by omega), if_pos (by omega), if_pos (by omega), if_neg k4]
    exact no q
theorem dated_p (s : ByteArray) (hs : s.size ≤ 8000) (p : Nat) (hd : datedB s p = true) : Ev (fun k => levyref4_dated.f k s (p : Int)) (rfOf (dateR s p 0 0)) := by
  have hp := datedB_le hd
  have e10 : wrap64 ((p : Int) + 10) = ((p + 10 : Nat) : Int) := by rw [wrI (by omega) (by omega)]; omega
  obtain ⟨K, hK⟩ := rparse_p (s.extract p (p + 10))
  refine ⟨K, fun k hk => ?_⟩
  have hq := hK k hk
  dsimp only at hq
  show levyref4_dated.f k s (p : Int) = _
  unfold levyref4_dated.f
  rw [e10]
  clear e10
  rw [if_pos (by omega), if_pos (by omega), if_pos (by omega), Int.toNat_natCast, Int.toNat_natCast, hq, Option.bind_some]
  unfold dateR
  by_cases h0 : (parseS (s.extract p (p + 10))).2.2 = 0
  · rw [if_pos h0]
    by_cases hlt : p + 10 < s.size
    · obtain ⟨b, hb⟩ := byte_some s hlt
      rw [if_pos (by omega), if_pos (by omega), (bt_of s hb).1, wordb_r, Option.bind_some]
      have ea : atP isWd s (p + 10) = isWd b := by unfold atP; rw [hb]
      rw [ea]
      cases hw : isWd b with
      | true => rw [if_pos rfl, if_pos (Or.inr rfl)]; rfl
      | false => rw [if_neg (by simp), if_neg (by simp [h0])]; rfl
    · rw [if_neg (by omega)]
      have ea : atP isWd s (p + 10) = false := by unfold atP; rw [byte_none s hlt]
      rw [ea, if_neg (by simp [h0])]
      rfl
  · rw [if_neg h0, if_pos (Or.inl h0)]
    rfl

/-- The number that digits say, cut off where it grows too great. -/
def wholeR : Nat → List UInt8 → Nat
  | n, [] => n
  | n, b :: l => if 100000000000000000 ≤ n then 1000000000000000000 else wholeR (10 * n + (b.toNat - 48)) l
theorem whole_loop (l : List UInt8) (hd : ∀ b ∈ l, isDg b = true) (hl : l.length ≤ 8000) (d : Nat) : ∀ (i n : Nat), l.length = i + d → n ≤ 1000000000000000000 →
    Ev (fun k => levyref4_whole.l0 k (bA l) (n : Int) (i : Int)) ((wholeR n (l.drop i) : Nat) : Int) := by
  have hsz := bA_size l
  induction d with
  | zero =>
    intro i n hi hn
    refine ⟨1, fun k hk => ?_⟩
    obtain ⟨q, rfl⟩ : ∃ q, k = q + 1 := ⟨k - 1, by omega⟩
    show levyref4_whole.l0 (q + 1) (bA l) (n : Int) (i : Int) = _
    unfold levyref4_whole.l0
    rw [if_neg (by omega), List.drop_of_length_le (by omega)]
    rfl
  | succ d ih =>
    intro i n hi hn
    have hlt : i < l.length := by omega
    obtain ⟨b, hb⟩ : ∃ b, (Ls (bA l))[i]? = some b := ⟨_, List.getElem?_eq_getElem hlt⟩
    have hbt := (bt_of (bA l) hb).1
    have hdrop : l.drop i = b :: l.drop (i + 1) := by
      rw [List.drop_eq_getElem_cons hlt]
      congr 1
      exact (List.getElem?_eq_some_iff.1 hb).2
    have hbd := dg_bounds (hd b (List.mem_of_getElem? hb))
    rw [hdrop]
    unfold wholeR
    by_cases h17 : 100000000000000000 ≤ n
    · rw [if_pos h17]
      refine ⟨1, fun k hk => ?_⟩
      obtain ⟨q, rfl⟩ : ∃ q, k = q + 1 := ⟨k - 1, by omega⟩
      show levyref4_whole.l0 (q + 1) (bA l) (n : Int) (i : Int) = _
      unfold levyref4_whole.l0
      rw [if_pos (by omega), if_pos (by omega)]
      rfl
    · rw [if_neg h17]
      obtain ⟨K, hK⟩ := ih (i + 1) (10 * n + (b.toNat - 48)) (by omega) (by omega)
      refine ⟨K + 1, fun k hk => ?_⟩
      obtain ⟨q, rfl⟩ : ∃ q, k = q + 1 := ⟨k - 1, by omega⟩
      have hK := hK q (by omega)
      dsimp only at hK
      show levyref4_whole.l0 (q + 1) (bA l) (n : Int) (i : Int) = _
      unfold levyref4_whole.l0
      rw [if_pos (by omega), if_neg (by omega), if_pos (by omega)]
      have e1 : wrap64 ((wrap64 (10 * (n : Int))) + ((bt (bA l) (i : Int) - 48) % 256)) = ((10 * n + (b.toNat - 48) : Nat) : Int) := PA.dig_step (by omega) hbt hbd.1 hbd.2
      have e2 : wrap64 ((i : Int) + 1) = ((i + 1 : Nat) : Int) := by rw [wrI (by omega) (by omega)]; omega
      rw [e1, e2, hK]
theorem whole_p (l : List UInt8) (hd : ∀ b ∈ l, isDg b = true) (hl : l.length ≤ 8000) : Ev (fun k => levyref4_whole.f k (bA l)) ((wholeR 0 l : Nat) : Int) :=
  whole_loop l hd hl l.length 0 0 (by omega) (by omega)

theorem common_p (b : Nat) : ∀ a : Nat, Ev (fun k => levyref4_common.l0 k (a : Int) (b : Int)) ((Nat.gcd a b : Nat) : Int) := by
  induction b using Nat.strongRecOn with
  | ind b ih =>
    intro a
    by_cases h0 : b = 0
    · subst h0
      refine ⟨1, fun k hk => ?_⟩
      obtain ⟨q, rfl⟩ : ∃ q, k = q + 1 := ⟨k - 1, by omega⟩
      show levyref4_common.l0 (q + 1) (a : Int) ((0 : Nat) : Int) = _
      unfold levyref4_common.l0
      rw [if_neg (by omega), Nat.gcd_zero_right]
    · obtain ⟨K, hK⟩ := ih (a % b) (Nat.mod_lt _ (by omega)) b
      refine ⟨K + 1, fun k hk => ?_⟩
      obtain ⟨q, rfl⟩ : ∃ q, k = q + 1 := ⟨k - 1, by omega⟩
      have hq := hK q (by omega)
      dsimp only at hq
      show levyref4_common.l0 (q + 1) (a : Int) (b : Int) = _
      unfold levyref4_common.l0
      rw [if_pos (by omega), if_neg (by omega)]
      have e : Int.tmod (a : Int) (b : Int) = ((a % b : Nat) : Int) := rfl
      rw [e, hq, Nat.gcd_comm b (a % b), ← Nat.gcd_rec, Nat.gcd_comm]
end Go.Proofs.YtidbcenbcllfnaaDoor.Pure
