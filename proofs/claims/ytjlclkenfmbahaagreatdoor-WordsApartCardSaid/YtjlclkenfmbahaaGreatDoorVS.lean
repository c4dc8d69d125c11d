/- Several texts of this claim in one, each in a section of its own; what nothing reaches is left out. Conditions: each law's own. -/
import Derived.Test.YtjlclkenfmbahaaGreatDoorVScScan
import Derived.Test.YtjlclkenfmbahaaGreatDoorVPAx0
import Derived.Test.YtjlclkenfmbahaaGreatDoorVL
import Derived.Test.YtjlclkenfmbahaaGreatDoorVQ
import Derived.Test.YtjlclkenfmbahaaGreatDoorVL2
import Derived.Test.YtjlclkenfmbahaaGreatDoorVL3
set_option linter.unusedVariables false
set_option linter.unusedSimpArgs false
set_option linter.unusedSectionVars false
section
namespace Go.Proofs.YtjlclkenfmbahaaGreatDoor.Pure
open Go.RowKit Go.Proofs.YtjlclkenfmbahaaGreatDoorW.PrintWords Go.Proofs.YtjlclkenfmbahaaGreatDoorW.PrintLast Go.Proofs.YtjlclkenfmbahaaGreatDoor.PA
theorem letter_r (b : UInt8) : levyref4_isLetter.f (b.toNat : Int) = some (isLt b) := by
 unfold levyref4_isLetter.f isLt
 by_cases h : 97 ≤ b.toNat
 ·rw [if_pos (by omega), decide_eq_true h, Bool.true_and]
  congr 1
  by_cases h2 : b.toNat ≤ 122
  ·rw [decide_eq_true h2, decide_eq_true (by omega)]
  ·rw [decide_eq_false h2, decide_eq_false (by omega)]
 ·rw [if_neg (by omega), decide_eq_false h, Bool.false_and]
theorem digit_r (b : UInt8) : levyref4_isDigit.f (b.toNat : Int) = some (isDg b) := by
 unfold levyref4_isDigit.f isDg
 by_cases h : 48 ≤ b.toNat
 ·rw [if_pos (by omega), decide_eq_true h, Bool.true_and]
  congr 1
  by_cases h2 : b.toNat ≤ 57
  ·rw [decide_eq_true h2, decide_eq_true (by omega)]
  ·rw [decide_eq_false h2, decide_eq_false (by omega)]
 ·rw [if_neg (by omega), decide_eq_false h, Bool.false_and]
theorem word95_r (b : UInt8) : ((b.toNat : Int) == 95) = (b.toNat == 95) := by
 by_cases h : b.toNat = 95
 ·rw [h]; rfl
 ·rw [beq_eq_false_iff_ne.mpr h, beq_eq_false_iff_ne.mpr (by omega)]
theorem wordb_r (b : UInt8) : levyref4_isWord.f (b.toNat : Int) = some (isWd b) := by
 unfold levyref4_isWord.f isWd
 rw [letter_r, Option.bind_some, digit_r, Option.bind_some, word95_r]
 cases isLt b <;> cases isDg b <;> rfl
theorem run1_r (s : ByteArray) (hs : s.size ≤ 8000) (p : Nat) (hp : p ≤ 8001) (d : Nat) : ∀ n, runP isDg s (p + n) = d → n ≤ 8001 → Ev (fun k => levyref4_run.l0 k s (p : Int) 1 (n : Int)) ((n + d : Nat) : Int) := by
 induction d with
 | zero =>
  intro n hn hn2
  refine ⟨1, fun k hk => ?_⟩
  obtain ⟨q, rfl⟩ : ∃ q, k = q + 1 := ⟨k - 1, by omega⟩
  show levyref4_run.l0 (q + 1) s (p : Int) 1 (n : Int) = _
  unfold levyref4_run.l0
  have e1 : wrap64 ((p : Int) + (n : Int)) = ((p + n : Nat) : Int) := by rw [wrI (by omega) (by omega)]; omega
  rw [e1]
  clear e1
  by_cases hlt : p + n < s.size
  ·obtain ⟨b, hb⟩ := byte_some s hlt
   have hd : isDg b = false := by
    cases h : isDg b with
    | false => rfl
    | true => have := (runP_yes (p := isDg) (s := s) (i := p + n) (by unfold atP; rw [hb]; exact h)).1; omega
   rw [if_pos (by omega), if_pos rfl, if_pos (by omega), (bt_of s hb).1, digit_r, Option.bind_some, hd, if_neg (by simp), if_neg (by decide)]
   rfl
  ·rw [if_neg (by omega)]
   rfl
 | succ d ih =>
  intro n hn hn2
  have hy : atP isDg s (p + n) = true := by
   cases h : atP isDg s (p + n) with
   | true => rfl
   | false => rw [runP_no h] at hn; omega
  obtain ⟨hr, hlt⟩ := runP_yes hy
  obtain ⟨b, hb⟩ := byte_some s hlt
  have hd : isDg b = true := by unfold atP at hy; rw [hb] at hy; exact hy
  obtain ⟨K, hK⟩ := ih (n + 1) (by rw [← Nat.add_assoc]; omega) (by omega)
  refine ⟨K + 1, fun k hk => ?_⟩
  obtain ⟨q, rfl⟩ : ∃ q, k = q + 1 := ⟨k - 1, by omega⟩
  have hq := hK q (by omega)
  dsimp only at hq
  show levyref4_run.l0 (q + 1) s (p : Int) 1 (n : Int) = _
  unfold levyref4_run.l0
  have e1 : wrap64 ((p : Int) + (n : Int)) = ((p + n : Nat) : Int) := by rw [wrI (by omega) (by omega)]; omega
  have e2 : wrap64 ((n : Int) + 1) = ((n + 1 : Nat) : Int) := by rw [wrI (by omega) (by omega)]; omega
  rw [e1, e2, hq]
  clear e1 e2 hq
  rw [if_pos (by omega), if_pos rfl, if_pos (by omega), (bt_of s hb).1, digit_r, Option.bind_some, hd, if_pos rfl]
  congr 2
  omega
theorem run1_p (s : ByteArray) (hs : s.size ≤ 8000) (p : Nat) (hp : p ≤ 8001) : Ev (fun k => levyref4_run.f k s (p : Int) 1) ((runP isDg s p : Nat) : Int) := by
 have h := run1_r s hs p hp (runP isDg s p) 0 rfl (by omega)
 rw [Nat.zero_add] at h
 exact h
theorem run2_r (s : ByteArray) (hs : s.size ≤ 8000) (p : Nat) (hp : p ≤ 8001) (d : Nat) : ∀ n, runP isWd s (p + n) = d → n ≤ 8001 → Ev (fun k => levyref4_run.l0 k s (p : Int) 2 (n : Int)) ((n + d : Nat) : Int) := by
 induction d with
 | zero =>
  intro n hn hn2
  refine ⟨1, fun k hk => ?_⟩
  obtain ⟨q, rfl⟩ : ∃ q, k = q + 1 := ⟨k - 1, by omega⟩
  show levyref4_run.l0 (q + 1) s (p : Int) 2 (n : Int) = _
  unfold levyref4_run.l0
  have e1 : wrap64 ((p : Int) + (n : Int)) = ((p + n : Nat) : Int) := by rw [wrI (by omega) (by omega)]; omega
  rw [e1]
  clear e1
  by_cases hlt : p + n < s.size
  ·obtain ⟨b, hb⟩ := byte_some s hlt
   have hd : isWd b = false := by
    cases h : isWd b with
    | false => rfl
    | true => have := (runP_yes (p := isWd) (s := s) (i := p + n) (by unfold atP; rw [hb]; exact h)).1; omega
   rw [if_pos (by omega), if_neg (by decide), if_pos rfl, if_pos (by omega), (bt_of s hb).1, wordb_r, Option.bind_some, hd, if_neg (by simp)]
   rfl
  ·rw [if_neg (by omega)]
   rfl
 | succ d ih =>
  intro n hn hn2
  have hy : atP isWd s (p + n) = true := by
   cases h : atP isWd s (p + n) with
   | true => rfl
   | false => rw [runP_no h] at hn; omega
  obtain ⟨hr, hlt⟩ := runP_yes hy
  obtain ⟨b, hb⟩ := byte_some s hlt
  have hd : isWd b = true := by unfold atP at hy; rw [hb] at hy; exact hy
  obtain ⟨K, hK⟩ := ih (n + 1) (by rw [← Nat.add_assoc]; omega) (by omega)
  refine ⟨K + 1, fun k hk => ?_⟩
  obtain ⟨q, rfl⟩ : ∃ q, k = q + 1 := ⟨k - 1, by omega⟩
  have hq := hK q (by omega)
  dsimp only at hq
  show levyref4_run.l0 (q + 1) s (p : Int) 2 (n : Int) = _
  unfold levyref4_run.l0
  have e1 : wrap64 ((p : Int) + (n : Int)) = ((p + n : Nat) : Int) := by rw [wrI (by omega) (by omega)]; omega
  have e2 : wrap64 ((n : Int) + 1) = ((n + 1 : Nat) : Int) := by rw [wrI (by omega) (by omega)]; omega
  rw [e1, e2, hq]
  clear e1 e2 hq
  rw [if_pos (by omega), if_neg (by decide), if_pos rfl, if_pos (by omega), (bt_of s hb).1, wordb_r, Option.bind_some, hd, if_pos rfl]
  congr 2
  omega
theorem run2_p (s : ByteArray) (hs : s.size ≤ 8000) (p : Nat) (hp : p ≤ 8001) : Ev (fun k => levyref4_run.f k s (p : Int) 2) ((runP isWd s p : Nat) : Int) := by
 have h := run2_r s hs p hp (runP isWd s p) 0 rfl (by omega)
 rw [Nat.zero_add] at h
 exact h
theorem ext_bytes (s : ByteArray) (i j : Nat) : (s.extract i j).toList = ((Ls s).drop i).take (j - i) := by
 rw [Go.Lib.toList_data, ByteArray.data_extract, Array.toList_extract, List.extract_eq_take_drop]
theorem is1_r (s : ByteArray) (hs : s.size ≤ 8000) (i : Nat) (hi : i ≤ 8001) (x : UInt8) : levyref4_is.f s (i : Int) ⟨#[x]⟩ = some (atP (fun b => b == x) s i) := by
 unfold levyref4_is.f
 have e1 : wrap64 ((i : Int) + ((⟨#[x]⟩ : ByteArray).size : Int)) = ((i + 1 : Nat) : Int) := by rw [show ((⟨#[x]⟩ : ByteArray).size : Int) = 1 from rfl, wrI (by omega) (by omega)]; omega
 rw [e1]
 clear e1
 unfold atP
 by_cases hlt : i < s.size
 ·obtain ⟨b, hb⟩ := byte_some s hlt
  rw [if_pos (by omega), if_pos (by omega), if_pos (by omega), Int.toNat_natCast, Int.toNat_natCast, ext_bytes, Nat.add_sub_cancel_left, hb]
  obtain ⟨hl, e⟩ := List.getElem?_eq_some_iff.1 hb
  rw [List.drop_eq_getElem_cons hl, e, show (⟨#[x]⟩ : ByteArray).toList = [x] by rw [Go.Lib.toList_data]]
  simp
 ·rw [if_neg (by omega), byte_none s hlt]
end Go.Proofs.YtjlclkenfmbahaaGreatDoor.Pure
end
section
namespace Go.Proofs.YtjlclkenfmbahaaGreatDoor.Pure
open Go.RowKit Go.Proofs.YtjlclkenfmbahaaGreatDoorW.PrintWords Go.Proofs.YtjlclkenfmbahaaGreatDoorW.PrintLast Go.Proofs.YtjlclkenfmbahaaGreatDoor.PA Go.Proofs.YtjlclkenfmbahaaGreatDoor.Days
def rfOf (r : S57 × Bool × Nat × Int × Int) : Int × Int × ByteArray × Int × Int × Int × Int :=
 if r.2.1 = true then (r.1.f0, 0, r.1.f2, r.1.f3, r.1.f4, (r.2.2.1 : Int), 0) else (0, 0, ⟨#[]⟩, 0, 0, r.2.2.2.2, r.2.2.2.1)
theorem datedB_at {s : ByteArray} {p : Nat} (h : datedB s p = true) {j : Nat} (hj : j < 10) : datedT s p j = true := datedGo_at 10 0 h j (by omega) (by omega)
theorem false_of {b : Bool} (h : b = true → False) : b = false := by cases b with | true => exact (h rfl).elim | false => rfl
theorem dateAt_loop (s : ByteArray) (hs : s.size ≤ 8000) (p : Nat) (hp : p + 10 ≤ s.size) (h4 : datedT s p 4 = true) (h7 : datedT s p 7 = true) (d : Nat) :
  ∀ i, i + d = 10 → Ev (fun k => levyref4_dateAt.l0 k s (p : Int) (i : Int)) (datedGo s p d i) := by
 induction d with
 | zero =>
  intro i hi
  refine ⟨1, fun k hk => ?_⟩
  obtain ⟨q, rfl⟩ : ∃ q, k = q + 1 := ⟨k - 1, by omega⟩
  show levyref4_dateAt.l0 (q + 1) s (p : Int) (i : Int) = _
  simp only [levyref4_dateAt.l0]
  rw [if_neg (by omega)]
  rfl
 | succ d ih =>
  intro i hi
  obtain ⟨K, hK⟩ := ih (i + 1) (by omega)
  refine ⟨K + 1, fun k hk => ?_⟩
  obtain ⟨q, rfl⟩ : ∃ q, k = q + 1 := ⟨k - 1, by omega⟩
  have hq := hK q (by omega)
  dsimp only at hq
  show levyref4_dateAt.l0 (q + 1) s (p : Int) (i : Int) = _
  simp only [levyref4_dateAt.l0]
  have e1 : wrap64 ((p : Int) + (i : Int)) = ((p + i : Nat) : Int) := by rw [wrI (by omega) (by omega)]; omega
  have e2 : wrap64 ((i : Int) + 1) = ((i + 1 : Nat) : Int) := by rw [wrI (by omega) (by omega)]; omega
  rw [e1, e2, hq]
  clear e1 e2 hq
  rw [if_pos (by omega)]
  show _ = some (if datedT s p i = true then datedGo s p d (i + 1) else false)
  by_cases c4 : i = 4
  ·subst c4
   rw [if_pos (by omega), if_pos h4]
  rw [if_neg (by omega)]
  by_cases c7 : i = 7
  ·subst c7
   rw [if_pos (by omega), if_pos h7]
  rw [if_neg (by omega), if_pos (by omega), if_pos (by omega)]
  obtain ⟨b, hb⟩ := byte_some s (i := p + i) (by omega)
  have hT : datedT s p i = isDg b := by
   unfold datedT atP
   rw [if_neg (by omega), hb]
  rw [(bt_of s hb).1, digit_r, Option.bind_some, hT]
  split <;> rfl
theorem datedT_45 {s : ByteArray} {p i : Nat} (h : i = 4 ∨ i = 7) (hp : p + i < s.size) : datedT s p i = (bt s ((p + i : Nat) : Int) == 45) := by
 obtain ⟨b, hb⟩ := byte_some s hp
 unfold datedT atP
 rw [if_pos h, hb, (bt_of s hb).1]
 by_cases h45 : b.toNat = 45
 ·show (b.toNat == 45) = _
  rw [h45]; rfl
 ·rw [beq_eq_false_iff_ne.mpr (show ((b.toNat : Int)) ≠ 45 by omega)]
  exact beq_eq_false_iff_ne.mpr h45
theorem dateAt_p (s : ByteArray) (hs : s.size ≤ 8000) (p : Nat) (hp : p ≤ s.size) : Ev (fun k => levyref4_dateAt.f k s (p : Int)) (datedB s p) := by
 have e10 : wrap64 ((p : Int) + 10) = ((p + 10 : Nat) : Int) := by rw [wrI (by omega) (by omega)]; omega
 have e4 : wrap64 ((p : Int) + 4) = ((p + 4 : Nat) : Int) := by rw [wrI (by omega) (by omega)]; omega
 have e7 : wrap64 ((p : Int) + 7) = ((p + 7 : Nat) : Int) := by rw [wrI (by omega) (by omega)]; omega
 have no : ∀ q, levyref4_dateAt.j0 (q + 1) s (p : Int) true = some false := fun q => by simp only [levyref4_dateAt.j0]; rw [if_pos trivial]
 by_cases h10 : s.size < p + 10
 ·rw [false_of (b := datedB s p) (fun h => by have := datedB_le h; omega)]
  refine ⟨1, fun k hk => ?_⟩
  obtain ⟨q, rfl⟩ : ∃ q, k = q + 1 := ⟨k - 1, by omega⟩
  show levyref4_dateAt.f (q + 1) s (p : Int) = _
  unfold levyref4_dateAt.f
  rw [e10, if_pos (by omega)]
  exact no q
 by_cases h4 : datedT s p 4 = true
 ·have k4 := h4
  rw [datedT_45 (Or.inl rfl) (by omega), beq_iff_eq] at k4
  by_cases h7 : datedT s p 7 = true
  ·have k7 := h7
   rw [datedT_45 (Or.inr rfl) (by omega), beq_iff_eq] at k7
   obtain ⟨K, hK⟩ := dateAt_loop s hs p (by omega) h4 h7 10 0 rfl
   refine ⟨K + 1, fun k hk => ?_⟩
   obtain ⟨q, rfl⟩ : ∃ q, k = q + 1 := ⟨k - 1, by omega⟩
   have hq := hK q (by omega)
   show levyref4_dateAt.f (q + 1) s (p : Int) = _
   unfold levyref4_dateAt.f
   rw [e10, e4, e7]
   clear e10 e4 e7
   rw [if_neg (by omega), if_pos (by omega), if_pos (by omega), if_pos k4, if_pos (by omega), if_pos (by omega), k7]
   simp only [levyref4_dateAt.j0]
   rw [if_neg (by decide)]
   exact hq
  ·rw [false_of (b := datedB s p) (fun h => h7 (datedB_at h (by omega)))]
   have k7 := h7
   rw [datedT_45 (Or.inr rfl) (by omega), beq_iff_eq] at k7
   refine ⟨1, fun k hk => ?_⟩
   obtain ⟨q, rfl⟩ : ∃ q, k = q + 1 := ⟨k - 1, by omega⟩
   show levyref4_dateAt.f (q + 1) s (p : Int) = _
   unfold levyref4_dateAt.f
   rw [e10, e4, e7]
   clear e10 e4 e7
   rw [if_neg (by omega), if_pos (by omega), if_pos (by omega), if_pos k4, if_pos (by omega), if_pos (by omega), bne_iff_ne.mpr k7]
   exact no q
 ·rw [false_of (b := datedB s p) (fun h => h4 (datedB_at h (by omega)))]
  have k4 := h4
  rw [datedT_45 (Or.inl rfl) (by omega), beq_iff_eq] at k4
  refine ⟨1, fun k hk => ?_⟩
  obtain ⟨q, rfl⟩ : ∃ q, k = q + 1 := ⟨k - 1, by omega⟩
  show levyref4_dateAt.f (q + 1) s (p : Int) = _
  unfold levyref4_dateAt.f
  rw [e10, e4, e7]
  clear e10 e4 e7
  rw [if_neg (by omega), if_pos (by omega), if_pos (by omega), if_neg k4]
  exact no q
theorem dated_p (s : ByteArray) (hs : s.size ≤ 8000) (p : Nat) (hd : datedB s p = true) : Ev (fun k => levyref4_dated.f k s (p : Int)) (rfOf (dateR s p 0 0)) := by
 have hp := datedB_le hd
 have e10 : wrap64 ((p : Int) + 10) = ((p + 10 : Nat) : Int) := by rw [wrI (by omega) (by omega)]; omega
 obtain ⟨K, hK⟩ := rparse_p (s.extract p (p + 10))
 refine ⟨K, fun k hk => ?_⟩
 have hq := hK k hk
 dsimp only at hq
 show levyref4_dated.f k s (p : Int) = _
 unfold levyref4_dated.f
 rw [e10]
 clear e10
 rw [if_pos (by omega), if_pos (by omega), if_pos (by omega), Int.toNat_natCast, Int.toNat_natCast, hq, Option.bind_some]
 unfold dateR
 by_cases h0 : (parseS (s.extract p (p + 10))).2.2 = 0
 ·rw [if_pos h0]
  by_cases hlt : p + 10 < s.size
  ·obtain ⟨b, hb⟩ := byte_some s hlt
   rw [if_pos (by omega), if_pos (by omega), (bt_of s hb).1, wordb_r, Option.bind_some]
   have ea : atP isWd s (p + 10) = isWd b := by unfold atP; rw [hb]
   rw [ea]
   cases hw : isWd b with
   | true => rw [if_pos rfl, if_pos (Or.inr rfl)]; rfl
   | false => rw [if_neg (by simp), if_neg (by simp [h0])]; rfl
  ·rw [if_neg (by omega)]
   have ea : atP isWd s (p + 10) = false := by unfold atP; rw [byte_none s hlt]
   rw [ea, if_neg (by simp [h0])]
   rfl
 ·rw [if_neg h0, if_pos (Or.inl h0)]
  rfl
def wholeR : Nat → List UInt8 → Nat
 | n, [] => n
 | n, b :: l => if 100000000000000000 ≤ n then 1000000000000000000 else wholeR (10 * n + (b.toNat - 48)) l
theorem whole_loop (l : List UInt8) (hd : ∀ b ∈ l, isDg b = true) (hl : l.length ≤ 8000) (d : Nat) : ∀ (i n : Nat), l.length = i + d → n ≤ 1000000000000000000 →
  Ev (fun k => levyref4_whole.l0 k (bA l) (n : Int) (i : Int)) ((wholeR n (l.drop i) : Nat) : Int) := by
 have hsz := bA_size l
 induction d with
 | zero =>
  intro i n hi hn
  refine ⟨1, fun k hk => ?_⟩
  obtain ⟨q, rfl⟩ : ∃ q, k = q + 1 := ⟨k - 1, by omega⟩
  show levyref4_whole.l0 (q + 1) (bA l) (n : Int) (i : Int) = _
  unfold levyref4_whole.l0
  rw [if_neg (by omega), List.drop_of_length_le (by omega)]
  rfl
 | succ d ih =>
  intro i n hi hn
  have hlt : i < l.length := by omega
  obtain ⟨b, hb⟩ : ∃ b, (Ls (bA l))[i]? = some b := ⟨_, List.getElem?_eq_getElem hlt⟩
  have hbt := (bt_of (bA l) hb).1
  have hdrop : l.drop i = b :: l.drop (i + 1) := by
   rw [List.drop_eq_getElem_cons hlt]
   congr 1
   exact (List.getElem?_eq_some_iff.1 hb).2
  have hbd := dg_bounds (hd b (List.mem_of_getElem? hb))
  rw [hdrop]
  unfold wholeR
  by_cases h17 : 100000000000000000 ≤ n
  ·rw [if_pos h17]
   refine ⟨1, fun k hk => ?_⟩
   obtain ⟨q, rfl⟩ : ∃ q, k = q + 1 := ⟨k - 1, by omega⟩
   show levyref4_whole.l0 (q + 1) (bA l) (n : Int) (i : Int) = _
   unfold levyref4_whole.l0
   rw [if_pos (by omega), if_pos (by omega)]
   rfl
  ·rw [if_neg h17]
   obtain ⟨K, hK⟩ := ih (i + 1) (10 * n + (b.toNat - 48)) (by omega) (by omega)
   refine ⟨K + 1, fun k hk => ?_⟩
   obtain ⟨q, rfl⟩ : ∃ q, k = q + 1 := ⟨k - 1, by omega⟩
   have hK := hK q (by omega)
   dsimp only at hK
   show levyref4_whole.l0 (q + 1) (bA l) (n : Int) (i : Int) = _
   unfold levyref4_whole.l0
   rw [if_pos (by omega), if_neg (by omega), if_pos (by omega)]
   have e1 : wrap64 ((wrap64 (10 * (n : Int))) + ((bt (bA l) (i : Int) - 48) % 256)) = ((10 * n + (b.toNat - 48) : Nat) : Int) := PA.dig_step (by omega) hbt hbd.1 hbd.2
   have e2 : wrap64 ((i : Int) + 1) = ((i + 1 : Nat) : Int) := by rw [wrI (by omega) (by omega)]; omega
   rw [e1, e2, hK]
theorem whole_p (l : List UInt8) (hd : ∀ b ∈ l, isDg b = true) (hl : l.length ≤ 8000) : Ev (fun k => levyref4_whole.f k (bA l)) ((wholeR 0 l : Nat) : Int) :=
 whole_loop l hd hl l.length 0 0 (by omega) (by omega)
theorem common_p (b : Nat) : ∀ a : Nat, Ev (fun k => levyref4_common.l0 k (a : Int) (b : Int)) ((Nat.gcd a b : Nat) : Int) := by
 induction b using Nat.strongRecOn with
 | ind b ih =>
  intro a
  by_cases h0 : b = 0
  ·subst h0
   refine ⟨1, fun k hk => ?_⟩
   obtain ⟨q, rfl⟩ : ∃ q, k = q + 1 := ⟨k - 1, by omega⟩
   show levyref4_common.l0 (q + 1) (a : Int) ((0 : Nat) : Int) = _
   unfold levyref4_common.l0
   rw [if_neg (by omega), Nat.gcd_zero_right]
  ·obtain ⟨K, hK⟩ := ih (a % b) (Nat.mod_lt _ (by omega)) b
   refine ⟨K + 1, fun k hk => ?_⟩
   obtain ⟨q, rfl⟩ : ∃ q, k = q + 1 := ⟨k - 1, by omega⟩
   have hq := hK q (by omega)
   dsimp only at hq
   show levyref4_common.l0 (q + 1) (a : Int) (b : Int) = _
   unfold levyref4_common.l0
   rw [if_pos (by omega), if_neg (by omega)]
   have e : Int.tmod (a : Int) (b : Int) = ((a % b : Nat) : Int) := rfl
   rw [e, hq, Nat.gcd_comm b (a % b), ← Nat.gcd_rec, Nat.gcd_comm]
theorem is2_r (s : ByteArray) (hs : s.size ≤ 8000) (i : Nat) (hi : i ≤ 8001) (x y : UInt8) : levyref4_is.f s (i : Int) ⟨#[x, y]⟩ = some (atP (fun b => b == x) s i && atP (fun b => b == y) s (i + 1)) := by
 unfold levyref4_is.f
 have e1 : wrap64 ((i : Int) + ((⟨#[x, y]⟩ : ByteArray).size : Int)) = ((i + 2 : Nat) : Int) := by rw [show ((⟨#[x, y]⟩ : ByteArray).size : Int) = 2 from rfl, wrI (by omega) (by omega)]; omega
 rw [e1]
 clear e1
 unfold atP
 by_cases hlt : i + 1 < s.size
 ·obtain ⟨b, hb⟩ := byte_some s (i := i) (by omega)
  obtain ⟨b2, hb2⟩ := byte_some s hlt
  rw [if_pos (by omega), if_pos (by omega), if_pos (by omega), Int.toNat_natCast, Int.toNat_natCast, ext_bytes, Nat.add_sub_cancel_left, hb, hb2]
  obtain ⟨hl, e⟩ := List.getElem?_eq_some_iff.1 hb
  obtain ⟨hl2, e2⟩ := List.getElem?_eq_some_iff.1 hb2
  rw [List.drop_eq_getElem_cons hl, e, List.drop_eq_getElem_cons hl2, e2, show (⟨#[x, y]⟩ : ByteArray).toList = [x, y] by rw [Go.Lib.toList_data]]
  simp
 ·rw [if_neg (by omega), byte_none s hlt]
  simp
theorem ext1 {s : ByteArray} {p : Nat} {x : UInt8} (h : (Ls s)[p]? = some x) : s.extract p (p + 1) = ⟨#[x]⟩ := by
 apply ByteArray.ext
 apply Array.toList_inj.mp
 obtain ⟨hl, e⟩ := List.getElem?_eq_some_iff.1 h
 rw [ByteArray.data_extract, Array.toList_extract, List.extract_eq_take_drop, Nat.add_sub_cancel_left, List.drop_eq_getElem_cons hl, e]
 rfl
theorem ext2 {s : ByteArray} {p : Nat} {x y : UInt8} (h : (Ls s)[p]? = some x) (h2 : (Ls s)[p + 1]? = some y) : s.extract p (p + 2) = ⟨#[x, y]⟩ := by
 apply ByteArray.ext
 apply Array.toList_inj.mp
 obtain ⟨hl, e⟩ := List.getElem?_eq_some_iff.1 h
 obtain ⟨hl2, e2⟩ := List.getElem?_eq_some_iff.1 h2
 rw [ByteArray.data_extract, Array.toList_extract, List.extract_eq_take_drop, Nat.add_sub_cancel_left, List.drop_eq_getElem_cons hl, e, List.drop_eq_getElem_cons hl2, e2]
 rfl
theorem sg_ev {s : ByteArray} {p : Nat} (hs : s.size ≤ 8000) (hp : p < s.size) {r : Int × Int × ByteArray × Int × Int × Int × Int} (j : Nat) (t : ByteArray) (b : Bool) (hj : j < 15) (ht : rdOf ByteArray.empty tab0 (j : Int) = t) (hl : t.size ≤ 2)
  (hb : levyref4_is.f s (p : Int) t = some b) (h1 : b = true → r = (7, 0, t, 0, 0, ((p + t.size : Nat) : Int), 0)) (h2 : b = false → Ev (fun k => levyref4_word.l0 k s (p : Int) ((j + 1 : Nat) : Int)) r) :
  Ev (fun k => levyref4_word.l0 k s (p : Int) (j : Int)) r := by
 have e1 : wrap64 ((p : Int) + (t.size : Int)) = ((p + t.size : Nat) : Int) := by rw [wrI (by omega) (by omega)]; omega
 have e2 : wrap64 ((j : Int) + 1) = ((j + 1 : Nat) : Int) := by rw [wrI (by omega) (by omega)]; omega
 cases b with
 | true =>
  rw [h1 rfl]
  refine ⟨1, fun k hk => ?_⟩
  obtain ⟨q, rfl⟩ : ∃ q, k = q + 1 := ⟨k - 1, by omega⟩
  show levyref4_word.l0 (q + 1) s (p : Int) (j : Int) = _
  simp only [levyref4_word.l0]
  rw [if_pos (by omega), if_pos (by omega), ht, hb, Option.bind_some, if_pos rfl, e1]
 | false =>
  obtain ⟨K, hK⟩ := h2 rfl
  refine ⟨K + 1, fun k hk => ?_⟩
  obtain ⟨q, rfl⟩ : ∃ q, k = q + 1 := ⟨k - 1, by omega⟩
  have hq := hK q (by omega)
  dsimp only at hq
  show levyref4_word.l0 (q + 1) s (p : Int) (j : Int) = _
  simp only [levyref4_word.l0]
  rw [if_pos (by omega), if_pos (by omega), ht, hb, Option.bind_some, if_neg (by simp), e2, hq]
def sgnR (s : ByteArray) (p : Nat) (c : UInt8) : S57 × Bool × Nat × Int × Int := if isSg c = true then signR s p 0 0 else (⟨0, 0, ⟨#[]⟩, 0, 0⟩, false, p, 41, p)
theorem two_sg {s : ByteArray} {p : Nat} {c d : UInt8} (hc : (Ls s)[p]? = some c) (hd : (Ls s)[p + 1]? = some d) (h1 : c = 33 ∨ c = 60 ∨ c = 62) (h2 : d = 61) : rfOf (sgnR s p c) = (7, 0, ⟨#[c, d]⟩, 0, 0, ((p + 2 : Nat) : Int), 0) := by
 have hb := (bt_of s hc).1
 have hb2 := (bt_of s hd).1
 have hlt := (bt_of s hd).2
 unfold sgnR signR
 rw [hb, hb2]
 subst h2
 rcases h1 with rfl | rfl | rfl <;> (rw [if_pos (by decide), if_pos ⟨by decide, hlt, by decide⟩, ext2 hc hd]; rfl)
theorem one_sg {s : ByteArray} {p : Nat} {c : UInt8} (hc : (Ls s)[p]? = some c) (hn : (c = 33 ∨ c = 60 ∨ c = 62) → atP (fun b => b == 61) s (p + 1) = false) (h1 : isSg c = true) (h33 : c ≠ 33) : rfOf (sgnR s p c) = (7, 0, ⟨#[c]⟩, 0, 0, ((p + 1 : Nat) : Int), 0) := by
 have hb := (bt_of s hc).1
 unfold sgnR signR
 rw [hb, if_pos h1, if_neg, if_neg, ext1 hc]
 ·rfl
 ·intro h
  exact h33 (UInt8.toNat_inj.mp (show c.toNat = (33 : UInt8).toNat by have : (33 : UInt8).toNat = 33 := rfl; omega))
 ·rintro ⟨h, h2, h3⟩
  obtain ⟨d, hd⟩ := byte_some s h2
  have := hn (by
   rcases h with h | h | h
   ·exact Or.inl (UInt8.toNat_inj.mp (show c.toNat = (33 : UInt8).toNat by have : (33 : UInt8).toNat = 33 := rfl; omega))
   ·exact Or.inr (Or.inl (UInt8.toNat_inj.mp (show c.toNat = (60 : UInt8).toNat by have : (60 : UInt8).toNat = 60 := rfl; omega)))
   ·exact Or.inr (Or.inr (UInt8.toNat_inj.mp (show c.toNat = (62 : UInt8).toNat by have : (62 : UInt8).toNat = 62 := rfl; omega))))
  unfold atP at this
  rw [hd] at this
  rw [(bt_of s hd).1] at h3
  exact (beq_eq_false_iff_ne.mp this) (UInt8.toNat_inj.mp (show d.toNat = (61 : UInt8).toNat by have : (61 : UInt8).toNat = 61 := rfl; omega))
theorem no_sg {s : ByteArray} {p : Nat} {c : UInt8} (hc : (Ls s)[p]? = some c) (h : c = 33 ∧ atP (fun b => b == 61) s (p + 1) = false ∨ isSg c = false) : rfOf (sgnR s p c) = (0, 0, ⟨#[]⟩, 0, 0, (p : Int), 41) := by
 have hb := (bt_of s hc).1
 unfold sgnR
 rcases h with ⟨rfl, h⟩ | h
 ·unfold signR
  rw [hb, if_pos (by decide), if_neg, if_pos (by decide)]
  ·rfl
  ·rintro ⟨_, h2, h3⟩
   obtain ⟨d, hd⟩ := byte_some s h2
   unfold atP at h
   rw [hd] at h
   rw [(bt_of s hd).1] at h3
   exact (beq_eq_false_iff_ne.mp h) (UInt8.toNat_inj.mp (show d.toNat = (61 : UInt8).toNat by have : (61 : UInt8).toNat = 61 := rfl; omega))
 ·rw [if_neg (by simp [h])]
  rfl
theorem signs_p (s : ByteArray) (hs : s.size ≤ 8000) (p : Nat) (c : UInt8) (hc : (Ls s)[p]? = some c) : Ev (fun k => levyref4_word.l0 k s (p : Int) 0) (rfOf (sgnR s p c)) := by
 have hp := (bt_of s hc).2
 have at1 : ∀ x : UInt8, atP (fun b => b == x) s p = (c == x) := fun x => by unfold atP; rw [hc]
 have at2 : atP (fun b => b == 61) s (p + 1) = true → ∃ d, (Ls s)[p + 1]? = some d ∧ d = 61 := fun h => by
  unfold atP at h
  cases hd : (Ls s)[p + 1]? with
  | none => rw [hd] at h; cases h
  | some d => rw [hd] at h; exact ⟨d, rfl, by simpa using h⟩
 have two : ∀ (x : UInt8), (x = 33 ∨ x = 60 ∨ x = 62) → (atP (fun b => b == x) s p && atP (fun b => b == 61) s (p + 1)) = true → rfOf (sgnR s p c) = (7, 0, ⟨#[x, 61]⟩, 0, 0, ((p + 2 : Nat) : Int), 0) := fun x hx h => by
  rw [at1, Bool.and_eq_true, beq_iff_eq] at h
  obtain ⟨d, hd, rfl⟩ := at2 h.2
  obtain rfl := h.1
  exact two_sg hc hd hx rfl
 refine sg_ev hs hp 0 ⟨#[33, 61]⟩ _ (by decide) rfl (by decide) (is2_r s hs p (by omega) 33 61) (fun h => two 33 (by decide) h) (fun n0 => ?_)
 refine sg_ev hs hp 1 ⟨#[60, 61]⟩ _ (by decide) rfl (by decide) (is2_r s hs p (by omega) 60 61) (fun h => two 60 (by decide) h) (fun n1 => ?_)
 refine sg_ev hs hp 2 ⟨#[62, 61]⟩ _ (by decide) rfl (by decide) (is2_r s hs p (by omega) 62 61) (fun h => two 62 (by decide) h) (fun n2 => ?_)
 rw [at1] at n0 n1 n2
 have hn : (c = 33 ∨ c = 60 ∨ c = 62) → atP (fun b => b == 61) s (p + 1) = false := fun h => by
  rcases h with rfl | rfl | rfl
  ·simpa using n0
  ·simpa using n1
  ·simpa using n2
 have one : ∀ (x : UInt8), isSg x = true → x ≠ 33 → atP (fun b => b == x) s p = true → rfOf (sgnR s p c) = (7, 0, ⟨#[x]⟩, 0, 0, ((p + 1 : Nat) : Int), 0) := fun x hx h33 h => by
  rw [at1, beq_iff_eq] at h
  subst h
  exact one_sg hc hn hx h33
 have ne : ∀ x : UInt8, atP (fun b => b == x) s p = false → c ≠ x := fun x h => by rw [at1] at h; exact beq_eq_false_iff_ne.mp h
 clear n0 n1 n2
 refine sg_ev hs hp 3 ⟨#[40]⟩ _ (by decide) rfl (by decide) (is1_r s hs p (by omega) 40) (fun h => one 40 (by decide) (by decide) h) (fun n => ?_)
 have n3 := ne _ n
 refine sg_ev hs hp 4 ⟨#[41]⟩ _ (by decide) rfl (by decide) (is1_r s hs p (by omega) 41) (fun h => one 41 (by decide) (by decide) h) (fun n => ?_)
 have n4 := ne _ n
 refine sg_ev hs hp 5 ⟨#[44]⟩ _ (by decide) rfl (by decide) (is1_r s hs p (by omega) 44) (fun h => one 44 (by decide) (by decide) h) (fun n => ?_)
 have n5 := ne _ n
 refine sg_ev hs hp 6 ⟨#[58]⟩ _ (by decide) rfl (by decide) (is1_r s hs p (by omega) 58) (fun h => one 58 (by decide) (by decide) h) (fun n => ?_)
 have n6 := ne _ n
 refine sg_ev hs hp 7 ⟨#[46]⟩ _ (by decide) rfl (by decide) (is1_r s hs p (by omega) 46) (fun h => one 46 (by decide) (by decide) h) (fun n => ?_)
 have n7 := ne _ n
 refine sg_ev hs hp 8 ⟨#[61]⟩ _ (by decide) rfl (by decide) (is1_r s hs p (by omega) 61) (fun h => one 61 (by decide) (by decide) h) (fun n => ?_)
 have n8 := ne _ n
 refine sg_ev hs hp 9 ⟨#[60]⟩ _ (by decide) rfl (by decide) (is1_r s hs p (by omega) 60) (fun h => one 60 (by decide) (by decide) h) (fun n => ?_)
 have n9 := ne _ n
 refine sg_ev hs hp 10 ⟨#[62]⟩ _ (by decide) rfl (by decide) (is1_r s hs p (by omega) 62) (fun h => one 62 (by decide) (by decide) h) (fun n => ?_)
 have n10 := ne _ n
 refine sg_ev hs hp 11 ⟨#[43]⟩ _ (by decide) rfl (by decide) (is1_r s hs p (by omega) 43) (fun h => one 43 (by decide) (by decide) h) (fun n => ?_)
 have n11 := ne _ n
 refine sg_ev hs hp 12 ⟨#[45]⟩ _ (by decide) rfl (by decide) (is1_r s hs p (by omega) 45) (fun h => one 45 (by decide) (by decide) h) (fun n => ?_)
 have n12 := ne _ n
 refine sg_ev hs hp 13 ⟨#[42]⟩ _ (by decide) rfl (by decide) (is1_r s hs p (by omega) 42) (fun h => one 42 (by decide) (by decide) h) (fun n => ?_)
 have n13 := ne _ n
 refine sg_ev hs hp 14 ⟨#[47]⟩ _ (by decide) rfl (by decide) (is1_r s hs p (by omega) 47) (fun h => one 47 (by decide) (by decide) h) (fun n => ?_)
 have n14 := ne _ n
 rw [no_sg hc]
 ·refine ⟨1, fun k hk => ?_⟩
  obtain ⟨q, rfl⟩ : ∃ q, k = q + 1 := ⟨k - 1, by omega⟩
  show levyref4_word.l0 (q + 1) s (p : Int) ((15 : Nat) : Int) = _
  simp only [levyref4_word.l0]
  rw [if_neg (by omega)]
 ·by_cases h33 : c = 33
  ·exact Or.inl ⟨h33, hn (Or.inl h33)⟩
  ·right
   have tn : ∀ x : UInt8, c ≠ x → c.toNat ≠ x.toNat := fun x h e => h (UInt8.toNat_inj.mp e)
   have t3 := tn _ n3; have t4 := tn _ n4; have t5 := tn _ n5; have t6 := tn _ n6; have t7 := tn _ n7; have t8 := tn _ n8; have t9 := tn _ n9; have t10 := tn _ n10; have t11 := tn _ n11; have t12 := tn _ n12; have t13 := tn _ n13; have t14 := tn _ n14; have t15 := tn _ h33
   unfold isSg
   rw [List.contains_eq_mem, decide_eq_false_iff_not]
   simp only [List.mem_cons, List.not_mem_nil, or_false, not_or]
   exact ⟨t3, t4, t5, t6, t7, t8, t15, t9, t10, t11, t12, t13, t14⟩
theorem str_numU (l : List UInt8) : strOfNums (numU l) = bA l := by
 unfold numU strOfNums bA
 rw [List.map_map]
 congr 2
 rw [List.map_congr_left (g := id) (fun b _ => by simp), List.map_id]
theorem bA_snoc (acc : List UInt8) (s : ByteArray) {i : Nat} {c : UInt8} (h : (Ls s)[i]? = some c) : bA acc ++ s.extract i (i + 1) = bA (acc ++ [c]) := by
 rw [ext1 h]
 exact bA_append acc [c]
theorem fits {n : Nat} (h : n ≤ 20000) : n ≤ 9223372036854775807 := by omega
theorem ext_size1 {s : ByteArray} {i : Nat} (h : i < s.size) : (s.extract i (i + 1)).size = 1 := by
 rw [ByteArray.size_extract]; omega
theorem text_go (s : ByteArray) (hs : s.size ≤ 8000) (p : Nat) (hp : p < s.size) (d : Nat) : ∀ (i : Nat) (acc : List UInt8), s.size < i + d → i ≤ s.size → acc.length ≤ i →
  Ev (fun k => levyref4_text.l0 k s (p : Int) (i : Int) (bA acc)) (rfOf (txtR s p 0 0 d i acc)) := by
 induction d with
 | zero => intro i acc h1 h2; omega
 | succ d ih =>
  intro i acc h1 h2 hacc
  have hsz := bA_size acc
  unfold txtR
  by_cases hlt : i < s.size
  ·obtain ⟨c, hb⟩ := byte_some s hlt
   have hbt := (bt_of s hb).1
   have e1 : wrap64 ((i : Int) + 1) = ((i + 1 : Nat) : Int) := by rw [wrI (by omega) (by omega)]; omega
   have e2 : wrap64 (((i + 1 : Nat) : Int) + 1) = ((i + 2 : Nat) : Int) := by rw [wrI (by omega) (by omega)]; omega
   rw [hb]
   dsimp only
   have h0 : ∀ q, levyref4_text.l0 (q + 1) s (p : Int) (i : Int) (bA acc) = levyref4_text.j1 q s (p : Int) (i : Int) (bA acc) ((c.toNat : Int) != 34) := fun q => by
    simp only [levyref4_text.l0]
    rw [if_pos (by omega), if_pos (by omega), hbt]
   by_cases c34 : (c.toNat : Int) = 34
   ·
    rw [if_neg (by omega), if_pos c34]
    refine ⟨2, fun k hk => ?_⟩
    obtain ⟨q, rfl⟩ : ∃ q, k = q + 2 := ⟨k - 2, by omega⟩
    show levyref4_text.l0 (q + 1 + 1) s (p : Int) (i : Int) (bA acc) = _
    rw [h0, c34]
    simp only [levyref4_text.j1]
    rw [if_neg (by decide), if_neg (by omega), hsz, e1]
    by_cases h40 : acc.length ≤ 40
    ·rw [if_neg (by omega), if_pos h40, str_numU]
     rfl
    ·rw [if_pos (by omega), if_neg h40]
     rfl
   ·have h0' : ∀ q, levyref4_text.l0 (q + 2) s (p : Int) (i : Int) (bA acc) = (if (c.toNat : Int) = 10 then (some (0, 0, (⟨#[]⟩ : ByteArray), 0, 0, (p : Int), 43)) else (if (c.toNat : Int) < 32 then (levyref4_text.j2 q s (p : Int) (i : Int) (bA acc) (c.toNat : Int) true) else (levyref4_text.j2 q s (p : Int) (i : Int) (bA acc) (c.toNat : Int) (decide ((c.toNat : Int) > 126))))) := fun q => by
     rw [h0, bne_iff_ne.mpr c34]
     simp only [levyref4_text.j1]
     rw [if_pos trivial, if_pos (by omega), if_pos (by omega), hbt]
    have bad : ∀ q x, levyref4_text.j2 (q + 1) s (p : Int) (i : Int) (bA acc) x true = some (0, 0, (⟨#[]⟩ : ByteArray), 0, 0, (i : Int), 43) := fun q x => by
     simp only [levyref4_text.j2]
     rw [if_pos trivial]
    by_cases c10 : (c.toNat : Int) = 10
    ·rw [if_pos c10]
     refine ⟨2, fun k hk => ?_⟩
     obtain ⟨q, rfl⟩ : ∃ q, k = q + 2 := ⟨k - 2, by omega⟩
     show levyref4_text.l0 (q + 2) s (p : Int) (i : Int) (bA acc) = _
     rw [h0', if_pos c10]
     rfl
    rw [if_neg c10, if_neg c34]
    by_cases c92 : (c.toNat : Int) = 92
    ·rw [if_pos c92]
     have h0'' : ∀ q, levyref4_text.l0 (q + 3) s (p : Int) (i : Int) (bA acc) = levyref4_text.j2 (q + 1) s (p : Int) (i : Int) (bA acc) 92 false := fun q => by
      rw [h0' (q + 1), c92, if_neg (by decide), if_neg (by decide), decide_eq_false (by decide)]
     have no : ∀ q, atP (fun b => b == 34) s (i + 1) = false → atP (fun b => b == 92) s (i + 1) = false → levyref4_text.l0 (q + 3) s (p : Int) (i : Int) (bA acc) = some (0, 0, (⟨#[]⟩ : ByteArray), 0, 0, (i : Int), 43) := fun q n1 n2 => by
      rw [h0'']
      simp only [levyref4_text.j2]
      rw [if_neg (by decide), if_pos trivial, e1, is1_r s hs (i + 1) (by omega), Option.bind_some, n1, if_neg (by simp), is1_r s hs (i + 1) (by omega), Option.bind_some, n2, if_neg (by simp)]
     by_cases hl2 : i + 1 < s.size
     ·obtain ⟨c2, hb2⟩ := byte_some s hl2
      rw [hb2]
      dsimp only
      have a1 : ∀ x : UInt8, atP (fun b => b == x) s (i + 1) = (c2 == x) := fun x => by unfold atP; rw [hb2]
      by_cases hq : (c2.toNat : Int) = 34 ∨ (c2.toNat : Int) = 92
      ·rw [if_pos hq]
       obtain ⟨K, hK⟩ := ih (i + 2) (acc ++ [c2]) (by omega) (by omega) (by rw [List.length_append]; simp; omega)
       refine ⟨K + 3, fun k hk => ?_⟩
       obtain ⟨q, rfl⟩ : ∃ q, k = q + 3 := ⟨k - 3, by omega⟩
       have hq2 := hK q (by omega)
       dsimp only at hq2
       show levyref4_text.l0 (q + 3) s (p : Int) (i : Int) (bA acc) = _
       rw [h0'']
       simp only [levyref4_text.j2]
       have f1 : ∀ z, (if (0 : Int) ≤ ((i + 1 : Nat) : Int) then (if ((i + 1 : Nat) : Int) ≤ ((i + 2 : Nat) : Int) then (if ((i + 2 : Nat) : Int) ≤ (s.size : Int) then (if (bA acc).size + (s.extract (i + 1) (i + 2)).size ≤ 9223372036854775807 then z else none) else none) else none) else none) = (z : Option (Int × Int × ByteArray × Int × Int × Int × Int)) := fun z => by
        have hx := ext_size1 hl2
        rw [if_pos (by omega), if_pos (by omega), if_pos (by omega), hsz, hx, if_pos (fits (by omega))]
       rw [if_neg (by decide), if_pos trivial, e1, is1_r s hs (i + 1) (by omega), Option.bind_some, is1_r s hs (i + 1) (by omega), Option.bind_some, e2, Int.toNat_natCast, Int.toNat_natCast, f1, bA_snoc acc s hb2, a1, a1, hq2]
       rcases hq with h | h
       ·have : c2 = 34 := UInt8.toNat_inj.mp (show c2.toNat = (34 : UInt8).toNat by have : (34 : UInt8).toNat = 34 := rfl; omega)
        subst this
        rw [if_pos (by decide)]
       ·have : c2 = 92 := UInt8.toNat_inj.mp (show c2.toNat = (92 : UInt8).toNat by have : (92 : UInt8).toNat = 92 := rfl; omega)
        subst this
        rw [if_neg (by decide), if_pos (by decide)]
      ·rw [if_neg hq]
       refine ⟨3, fun k hk => ?_⟩
       obtain ⟨q, rfl⟩ : ∃ q, k = q + 3 := ⟨k - 3, by omega⟩
       show levyref4_text.l0 (q + 3) s (p : Int) (i : Int) (bA acc) = _
       rw [no q (by rw [a1]; exact beq_eq_false_iff_ne.mpr (fun h => hq (by rw [h]; decide))) (by rw [a1]; exact beq_eq_false_iff_ne.mpr (fun h => hq (by rw [h]; decide)))]
       rfl
     ·rw [byte_none s hl2]
      dsimp only
      refine ⟨3, fun k hk => ?_⟩
      obtain ⟨q, rfl⟩ : ∃ q, k = q + 3 := ⟨k - 3, by omega⟩
      show levyref4_text.l0 (q + 3) s (p : Int) (i : Int) (bA acc) = _
      rw [no q (by unfold atP; rw [byte_none s hl2]) (by unfold atP; rw [byte_none s hl2])]
      rfl
    rw [if_neg c92]
    by_cases hr : (c.toNat : Int) < 32 ∨ 126 < (c.toNat : Int)
    ·rw [if_pos hr]
     refine ⟨3, fun k hk => ?_⟩
     obtain ⟨q, rfl⟩ : ∃ q, k = q + 3 := ⟨k - 3, by omega⟩
     show levyref4_text.l0 (q + 1 + 2) s (p : Int) (i : Int) (bA acc) = _
     rw [h0', if_neg c10]
     by_cases h32 : (c.toNat : Int) < 32
     ·rw [if_pos h32, bad]
      rfl
     ·rw [if_neg h32, decide_eq_true (show (c.toNat : Int) > 126 by omega), bad]
      rfl
    ·rw [if_neg hr]
     obtain ⟨K, hK⟩ := ih (i + 1) (acc ++ [c]) (by omega) (by omega) (by rw [List.length_append]; simp; omega)
     refine ⟨K + 3, fun k hk => ?_⟩
     obtain ⟨q, rfl⟩ : ∃ q, k = q + 3 := ⟨k - 3, by omega⟩
     have hq2 := hK q (by omega)
     dsimp only at hq2
     show levyref4_text.l0 (q + 1 + 2) s (p : Int) (i : Int) (bA acc) = _
     have hx := ext_size1 hlt
     rw [h0', if_neg c10, if_neg (by omega), decide_eq_false (by omega)]
     simp only [levyref4_text.j2]
     rw [if_neg (by decide), if_neg c92, e1, Int.toNat_natCast, Int.toNat_natCast, bA_snoc acc s hb, hsz, hx]
     clear e1 e2
     rw [if_pos (by omega), if_pos (by omega), if_pos (by omega), if_pos (fits (by omega)), hq2]
  ·rw [byte_none s hlt]
   dsimp only
   refine ⟨2, fun k hk => ?_⟩
   obtain ⟨q, rfl⟩ : ∃ q, k = q + 2 := ⟨k - 2, by omega⟩
   show levyref4_text.l0 (q + 2) s (p : Int) (i : Int) (bA acc) = _
   simp only [levyref4_text.l0]
   rw [if_neg (by omega)]
   simp only [levyref4_text.j1]
   rw [if_neg (by decide), if_pos (by omega)]
   rfl
theorem text_p (s : ByteArray) (hs : s.size ≤ 8000) (p : Nat) (hp : p < s.size) : Ev (fun k => levyref4_text.f k s (p : Int)) (rfOf (quotedR s p 0 0)) := by
 have e1 : wrap64 ((p : Int) + 1) = ((p + 1 : Nat) : Int) := by rw [wrI (by omega) (by omega)]; omega
 refine Ev.congr (fun k => ?_) (text_go s hs p hp (s.size + 1) (p + 1) [] (by omega) (by omega) (by simp))
 show levyref4_text.l0 k s (p : Int) (wrap64 ((p : Int) + 1)) ⟨#[]⟩ = _
 rw [e1]
 rfl
theorem whole_val (l : List UInt8) (hd : ∀ b ∈ l, isDg b = true) : ∀ n, (n + 1) * 10 ^ l.length ≤ 1000000000000000000 → wholeR n l = valA n l := by
 induction l with
 | nil => intro n _; rfl
 | cons b l ih =>
  intro n h
  have hb := dg_bounds (hd b (by simp))
  rw [List.length_cons, Nat.pow_succ] at h
  have h2 : (10 * n + (b.toNat - 48) + 1) * 10 ^ l.length ≤ ((n + 1) * 10) * 10 ^ l.length := Nat.mul_le_mul_right _ (by omega)
  have h3 : (n + 1) * (10 ^ l.length * 10) = ((n + 1) * 10) * 10 ^ l.length := by rw [Nat.mul_comm (10 ^ l.length) 10, Nat.mul_assoc]
  have h4 : (n + 1) * 10 ≤ (n + 1) * 10 * 10 ^ l.length := Nat.le_mul_of_pos_right _ (Nat.pow_pos (by decide))
  rw [valA_cons]
  show (if 100000000000000000 ≤ n then 1000000000000000000 else wholeR (10 * n + (b.toNat - 48)) l) = _
  rw [if_neg (by omega)]
  exact ih (fun x hx => hd x (by simp [hx])) _ (by omega)
theorem whole_18 (l : List UInt8) (hd : ∀ b ∈ l, isDg b = true) (h : l.length ≤ 18) : wholeR 0 l = val l := by
 refine whole_val l hd 0 ?_
 have : 10 ^ l.length ≤ 10 ^ 18 := Nat.pow_le_pow_right (by decide) h
 omega
theorem whole_ge (l : List UInt8) : ∀ n m, m ≤ n * 10 ^ l.length → m ≤ 1000000000000000000 → m ≤ wholeR n l := by
 induction l with
 | nil => intro n m h _; show m ≤ n; simpa using h
 | cons b l ih =>
  intro n m h hm
  show m ≤ (if 100000000000000000 ≤ n then 1000000000000000000 else wholeR (10 * n + (b.toNat - 48)) l)
  split
  ·exact hm
  ·refine ih _ m ?_ hm
   rw [List.length_cons, Nat.pow_succ] at h
   have h3 : n * (10 ^ l.length * 10) = (10 * n) * 10 ^ l.length := by rw [Nat.mul_comm (10 ^ l.length) 10, ← Nat.mul_assoc, Nat.mul_comm n 10]
   have h2 : (10 * n) * 10 ^ l.length ≤ (10 * n + (b.toNat - 48)) * 10 ^ l.length := Nat.mul_le_mul_right _ (by omega)
   omega
theorem valA_ge (l : List UInt8) : ∀ n, n * 10 ^ l.length ≤ valA n l := by
 induction l with
 | nil => intro n; simp [valA]
 | cons b l ih =>
  intro n
  rw [valA_cons, List.length_cons, Nat.pow_succ]
  have h3 : n * (10 ^ l.length * 10) = (10 * n) * 10 ^ l.length := by rw [Nat.mul_comm (10 ^ l.length) 10, ← Nat.mul_assoc, Nat.mul_comm n 10]
  have h2 : (10 * n) * 10 ^ l.length ≤ (10 * n + (b.toNat - 48)) * 10 ^ l.length := Nat.mul_le_mul_right _ (by omega)
  have := ih (10 * n + (b.toNat - 48))
  omega
structure Lead (a : List UInt8) : Prop where
 d : ∀ b ∈ a, isDg b = true
 p : 0 < a.length
 h : ¬ (1 < a.length ∧ bt (bA a) 0 = 48)
theorem Lead.first {a : List UInt8} (h : Lead a) (h1 : 1 < a.length) : ∃ b l, a = b :: l ∧ 49 ≤ b.toNat ∧ (b == 48) = false := by
 obtain ⟨b, l, rfl⟩ : ∃ b l, a = b :: l := by
  cases a with
  | nil => simp at h1
  | cons b l => exact ⟨b, l, rfl⟩
 have hb := dg_bounds (h.d b (by simp))
 have hbt : bt (bA (b :: l)) ((0 : Nat) : Int) = (b.toNat : Int) := (bt_of (bA (b :: l)) (i := 0) rfl).1
 have hn := h.h
 have h48 : b.toNat ≠ 48 := fun e => hn ⟨h1, by rw [show (0 : Int) = ((0 : Nat) : Int) from rfl, hbt, e]; rfl⟩
 exact ⟨b, l, rfl, by omega, beq_eq_false_iff_ne.mpr (fun e => h48 (by rw [e]; rfl))⟩
theorem Lead.big {a : List UInt8} (h : Lead a) {k m : Nat} (h1 : k + 1 < a.length) (hm : m ≤ 10 ^ (k + 1)) (hm2 : m ≤ 1000000000000000000) : m ≤ wholeR 0 a := by
 obtain ⟨b, l, rfl, hb, _⟩ := h.first (by omega)
 show m ≤ wholeR (10 * 0 + (b.toNat - 48)) l
 refine whole_ge l _ m ?_ hm2
 rw [List.length_cons] at h1
 have h2 : 10 ^ (k + 1) ≤ 10 ^ l.length := Nat.pow_le_pow_right (by decide) (by omega)
 have h3 : 1 * 10 ^ l.length ≤ (10 * 0 + (b.toNat - 48)) * 10 ^ l.length := Nat.mul_le_mul_right _ (by omega)
 omega
theorem Lead.strip {a : List UInt8} (h : Lead a) (b : List UInt8) (h1 : 1 < a.length) : ((a ++ b).dropWhile (· == 48)).length = a.length + b.length := by
 obtain ⟨c, l, rfl, _, hc⟩ := h.first h1
 rw [List.cons_append, List.dropWhile_cons, if_neg (by simp [hc])]
 simp
 omega
theorem strip_le (l : List UInt8) : (l.dropWhile (· == 48)).length ≤ l.length := (List.dropWhile_sublist _).length_le
theorem digitsR_18 {l : List UInt8} (h : l.length ≤ 18) : digitsR l = ((val l : Int), true) := by
 have := strip_le l
 unfold digitsR
 rw [if_neg (by omega)]
theorem Lead.digitsR_no {a : List UInt8} (h : Lead a) (b : List UInt8) (h1 : 18 < a.length + b.length) (h2 : 1 < a.length) : digitsR (a ++ b) = (0, false) := by
 unfold digitsR
 rw [h.strip b h2, if_pos h1]
def piecesR (a b : List UInt8) (pt pc : Bool) : S57 × Bool := if pc = true then ratioR a b else if pt = true then amountR a b else countR a
def Same (r : Int × Int × ByteArray × Int × Int × Bool) (R : S57 × Bool) : Prop := r.2.2.2.2.2 = R.2 ∧ (R.2 = true → r = (R.1.f0, 0, R.1.f2, R.1.f3, R.1.f4, true))
theorem j0_count (a : List UInt8) (h : Lead a) (hl : a.length ≤ 8000) (y : ByteArray) : ∃ r, Ev (fun k => levyref4_numbered.j0 k (bA a) false y false false) r ∧ Same r (countR a) := by
 obtain ⟨K, hK⟩ := whole_p a h.d hl
 refine ⟨(3, 0, ⟨#[]⟩, ((wholeR 0 a : Nat) : Int), 0, decide (((wholeR 0 a : Nat) : Int) ≤ 1000000000)), ⟨K + 1, fun k hk => ?_⟩, ?_⟩
 ·obtain ⟨q, rfl⟩ : ∃ q, k = q + 1 := ⟨k - 1, by omega⟩
  have hq := hK q (by omega)
  dsimp only at hq
  show levyref4_numbered.j0 (q + 1) (bA a) false y false false = _
  simp only [levyref4_numbered.j0]
  rw [if_neg (by decide), hq, Option.bind_some, if_neg (by decide), if_neg (by decide)]
 ·unfold countR
  by_cases h18 : a.length ≤ 18
  ·rw [digitsR_18 h18, whole_18 a h.d h18]
   refine ⟨by simp, fun ht => ?_⟩
   rw [Bool.true_and] at ht
   show (3, 0, _, _, 0, _) = (_, _, _, _, _, true)
   rw [← ht]
  ·have hb := h.big (k := 9) (m := 10000000000) (by omega) (by decide) (by decide)
   have e : digitsR a = (0, false) := by have := h.digitsR_no [] (by simp; omega) (by omega); rwa [List.append_nil] at this
   rw [e]
   refine ⟨?_, fun ht => by cases ht⟩
   show decide _ = _
   rw [decide_eq_false (by omega)]
   rfl
theorem j0_amount (a b : List UInt8) (h : Lead a) (hb : ∀ x ∈ b, isDg x = true) (hl : a.length + b.length ≤ 8000) : ∃ r, Ev (fun k => levyref4_numbered.j0 k (bA a) true (bA b) false false) r ∧ Same r (amountR a b) := by
 obtain ⟨K, hK⟩ := whole_p a h.d (by omega)
 have hsz := bA_size b
 by_cases h2 : b.length = 2
 ·by_cases hn : ((wholeR 0 a : Nat) : Int) > 9999999999999
  ·refine ⟨(0, 0, ⟨#[]⟩, 0, 0, false), ⟨K + 1, fun k hk => ?_⟩, ?_⟩
   ·obtain ⟨q, rfl⟩ : ∃ q, k = q + 1 := ⟨k - 1, by omega⟩
    have hq := hK q (by omega)
    dsimp only at hq
    show levyref4_numbered.j0 (q + 1) (bA a) true (bA b) false false = _
    simp only [levyref4_numbered.j0]
    rw [if_neg (by decide), hq, Option.bind_some, if_neg (by decide), if_pos trivial, if_pos (by omega), if_pos hn]
   ·unfold amountR
    by_cases h16 : a.length ≤ 16
    ·rw [digitsR_18 (by rw [List.length_append]; omega)]
     have hv := valA_ge b (val a)
     have e : val (a ++ b) = valA (val a) b := valA_append 0 a b
     rw [whole_18 a h.d (by omega)] at hn
     rw [← e, h2] at hv
     have : decide (((val (a ++ b) : Nat) : Int) ≤ 9999999999999) = false := decide_eq_false (by omega)
     rw [this, Bool.and_false]
     exact ⟨rfl, fun ht => by cases ht⟩
    ·rw [h.digitsR_no b (by omega) (by omega)]
     exact ⟨rfl, fun ht => by cases ht⟩
  ·have h16 : a.length ≤ 16 := by
    rcases Nat.lt_or_ge 16 a.length with h | h
    ·have := Lead.big (by assumption) (k := 15) (m := 10000000000000000) (by omega) (by decide) (by decide)
     omega
    ·exact h
   obtain ⟨K2, hK2⟩ := whole_p b hb (by omega)
   rw [whole_18 a h.d (by omega)] at hK hn
   rw [whole_18 b hb (by omega)] at hK2
   have hv : val (a ++ b) = 100 * val a + val b := by
    have : ∀ (l : List UInt8) (n : Nat), l.length = 2 → valA n l = 100 * n + valA 0 l := by
     intro l n hl
     match l, hl with
     | [x, y], _ => simp only [valA_cons]; unfold valA; simp only [List.foldl_nil]; omega
    have e : val (a ++ b) = valA (val a) b := valA_append 0 a b
    rw [e, this b _ h2]; rfl
   have hvb := val_lt b hb
   rw [h2] at hvb
   have e1 : wrap64 (wrap64 (100 * ((val a : Nat) : Int)) + ((val b : Nat) : Int)) = ((val (a ++ b) : Nat) : Int) := by
    rw [wrI (x := 100 * _) (by omega) (by omega), wrI (by omega) (by omega)]; omega
   refine ⟨(2, 0, ⟨#[]⟩, ((val (a ++ b) : Nat) : Int), 0, decide (((val (a ++ b) : Nat) : Int) ≤ 9999999999999)), ⟨K + K2 + 1, fun k hk => ?_⟩, ?_⟩
   ·obtain ⟨q, rfl⟩ : ∃ q, k = q + 1 := ⟨k - 1, by omega⟩
    have hq := hK q (by omega)
    have hq2 := hK2 q (by omega)
    dsimp only at hq hq2
    show levyref4_numbered.j0 (q + 1) (bA a) true (bA b) false false = _
    simp only [levyref4_numbered.j0]
    rw [if_neg (by decide), hq, Option.bind_some, if_neg (by decide), if_pos trivial, if_pos (by omega), if_neg hn, hq2, Option.bind_some, e1]
   ·unfold amountR
    rw [digitsR_18 (by rw [List.length_append]; omega), decide_eq_true h2]
    refine ⟨by simp, fun ht => ?_⟩
    rw [Bool.true_and, Bool.true_and] at ht
    show (2, 0, _, _, 0, _) = (_, _, _, _, _, true)
    rw [← ht]
 ·refine ⟨(0, 0, ⟨#[]⟩, 0, 0, false), ⟨K + 1, fun k hk => ?_⟩, ?_⟩
  ·obtain ⟨q, rfl⟩ : ∃ q, k = q + 1 := ⟨k - 1, by omega⟩
   have hq := hK q (by omega)
   dsimp only at hq
   show levyref4_numbered.j0 (q + 1) (bA a) true (bA b) false false = _
   simp only [levyref4_numbered.j0]
   rw [if_neg (by decide), hq, Option.bind_some, if_neg (by decide), if_pos trivial, if_neg (by omega)]
  ·unfold amountR
   rw [decide_eq_false h2, Bool.and_false]
   exact ⟨rfl, fun ht => by cases ht⟩
theorem ratio_loop (b : List UInt8) (hb : ∀ x ∈ b, isDg x = true) (h6 : b.length ≤ 6) (d : Nat) : ∀ (i n : Nat), b.length = i + d → n < 100000000001 * 10 ^ i →
  ∃ r, Ev (fun k => levyref4_numbered.l0 k (bA b) (n : Int) ((denR i : Nat) : Int) (i : Int)) r ∧
   Same r (⟨4, 0, ⟨#[]⟩, ((valA n (b.drop i) / Nat.gcd (valA n (b.drop i)) (denR b.length) : Nat) : Int), ((denR b.length / Nat.gcd (valA n (b.drop i)) (denR b.length) : Nat) : Int)⟩,
    decide (((valA n (b.drop i) / Nat.gcd (valA n (b.drop i)) (denR b.length) : Nat) : Int) ≤ 1000000000) && decide (((denR b.length / Nat.gcd (valA n (b.drop i)) (denR b.length) : Nat) : Int) ≤ 1000000000)) := by
 have hsz := bA_size b
 have hp6 : ∀ i, i ≤ 6 → 10 ^ i ≤ 1000000 := fun i hi => Nat.pow_le_pow_right (show 0 < 10 by decide) hi
 induction d with
 | zero =>
  intro i n hi hn
  obtain rfl : b.length = i := by omega
  have hdp := denR_le (k := b.length) h6
  have hpp := hp6 b.length h6
  rw [List.drop_length]
  have hv : valA n [] = n := rfl
  rw [hv]
  have hd0 : 0 < denR b.length := by unfold denR; exact Nat.mul_pos (by decide) (Nat.pow_pos (by decide))
  have hg := Nat.gcd_pos_of_pos_right n hd0
  have hle := Nat.div_le_self n (Nat.gcd n (denR b.length))
  have hle2 := Nat.div_le_self (denR b.length) (Nat.gcd n (denR b.length))
  obtain ⟨K, hK⟩ := common_p (denR b.length) n
  generalize denR b.length = D at *
  generalize hgg : Nat.gcd n D = g at *
  have t1 : Int.tdiv (n : Int) (g : Int) = ((n / g : Nat) : Int) := rfl
  have t2 : Int.tdiv (D : Int) (g : Int) = ((D / g : Nat) : Int) := rfl
  generalize n / g = a1 at *
  generalize D / g = a2 at *
  have e1 : wrap64 (Int.tdiv (n : Int) (g : Int)) = (a1 : Int) := by rw [t1, wrI (by omega) (by omega)]
  have e2 : wrap64 (Int.tdiv (D : Int) (g : Int)) = (a2 : Int) := by rw [t2, wrI (by omega) (by omega)]
  have hev : ∀ q, K ≤ q → levyref4_numbered.l0 (q + 1) (bA b) (n : Int) (D : Int) (b.length : Int) = (if (a1 : Int) ≤ 1000000000 then (some (4, 0, (⟨#[]⟩ : ByteArray), (a1 : Int), (a2 : Int), decide ((a2 : Int) ≤ 1000000000))) else (some (4, 0, (⟨#[]⟩ : ByteArray), (a1 : Int), (a2 : Int), false))) := fun q hq => by
   have h := hK q hq
   dsimp only at h
   simp only [levyref4_numbered.l0, levyref4_common.f]
   rw [if_neg (by omega), h, Option.bind_some, if_neg (by omega), e1, e2]
  by_cases h1 : (a1 : Int) ≤ 1000000000
  ·refine ⟨(4, 0, ⟨#[]⟩, (a1 : Int), (a2 : Int), decide ((a2 : Int) ≤ 1000000000)), ⟨K + 1, fun k hk => ?_⟩, ?_⟩
   ·obtain ⟨q, rfl⟩ : ∃ q, k = q + 1 := ⟨k - 1, by omega⟩
    show levyref4_numbered.l0 (q + 1) (bA b) (n : Int) (D : Int) (b.length : Int) = _
    rw [hev q (by omega), if_pos h1]
   ·rw [decide_eq_true h1, Bool.true_and]
    refine ⟨rfl, fun ht => ?_⟩
    show (4, 0, _, _, _, _) = (_, _, _, _, _, true)
    have ht : decide ((a2 : Int) ≤ 1000000000) = true := ht
    rw [ht]
  ·refine ⟨(4, 0, ⟨#[]⟩, (a1 : Int), (a2 : Int), false), ⟨K + 1, fun k hk => ?_⟩, ?_⟩
   ·obtain ⟨q, rfl⟩ : ∃ q, k = q + 1 := ⟨k - 1, by omega⟩
    show levyref4_numbered.l0 (q + 1) (bA b) (n : Int) (D : Int) (b.length : Int) = _
    rw [hev q (by omega), if_neg h1]
   ·rw [decide_eq_false h1, Bool.false_and]
    exact ⟨rfl, fun ht => by cases ht⟩
 | succ d ih =>
  intro i n hi hn
  have hlt : i < b.length := by omega
  obtain ⟨c, hc⟩ : ∃ c, (Ls (bA b))[i]? = some c := ⟨_, List.getElem?_eq_getElem hlt⟩
  have hbt := (bt_of (bA b) hc).1
  have hdrop : b.drop i = c :: b.drop (i + 1) := by
   rw [List.drop_eq_getElem_cons hlt]
   congr 1
   exact (List.getElem?_eq_some_iff.1 hc).2
  have hbd := dg_bounds (hb c (List.mem_of_getElem? hc))
  have hpp := hp6 i (by omega)
  have hp5 : 10 ^ i ≤ 100000 := Nat.pow_le_pow_right (show 0 < 10 by decide) (show i ≤ 5 by omega)
  have hdp := denR_le (k := i) (by omega)
  rw [hdrop, valA_cons]
  obtain ⟨r, ⟨K, hK⟩, hS⟩ := ih (i + 1) (10 * n + (c.toNat - 48)) (by omega) (by rw [Nat.pow_succ]; omega)
  refine ⟨r, ⟨K + 1, fun k hk => ?_⟩, hS⟩
  obtain ⟨q, rfl⟩ : ∃ q, k = q + 1 := ⟨k - 1, by omega⟩
  have hq := hK q (by omega)
  dsimp only at hq
  show levyref4_numbered.l0 (q + 1) (bA b) (n : Int) ((denR i : Nat) : Int) (i : Int) = _
  simp only [levyref4_numbered.l0]
  have e1 : wrap64 ((wrap64 (10 * (n : Int))) + ((bt (bA b) (i : Int) - 48) % 256)) = ((10 * n + (c.toNat - 48) : Nat) : Int) := PA.dig_step (by omega) hbt hbd.1 hbd.2
  have e2 : wrap64 ((i : Int) + 1) = ((i + 1 : Nat) : Int) := by rw [wrI (by omega) (by omega)]; omega
  have e3 : wrap64 (((denR i : Nat) : Int) * 10) = ((denR (i + 1) : Nat) : Int) := by rw [denR_succ, wrI (by omega) (by omega)]; omega
  rw [e1, e2, e3, hq]
  clear e1 e2 e3 hq hK hn
  rw [if_pos (by omega), if_pos (by omega)]
theorem ratio_none {a b : List UInt8} {n : Nat} (hv : n * 10 ^ b.length ≤ val (a ++ b)) (hn : 100000000000 < n) : ((val (a ++ b) / Nat.gcd (val (a ++ b)) (denR b.length) : Nat) : Int) ≤ 1000000000 → False := by
 intro h
 have hd0 : 0 < denR b.length := by unfold denR; exact Nat.mul_pos (by decide) (Nat.pow_pos (by decide))
 have hg := Nat.le_of_dvd hd0 (Nat.gcd_dvd_right (val (a ++ b)) (denR b.length))
 have hN := Nat.div_mul_cancel (Nat.gcd_dvd_left (val (a ++ b)) (denR b.length))
 generalize val (a ++ b) / Nat.gcd (val (a ++ b)) (denR b.length) = x at h hN
 generalize Nat.gcd (val (a ++ b)) (denR b.length) = g at hg hN
 generalize val (a ++ b) = N at *
 have h1 : x * g ≤ 1000000000 * denR b.length := Nat.mul_le_mul (by omega) hg
 have h2 : 100000000001 * 10 ^ b.length ≤ n * 10 ^ b.length := Nat.mul_le_mul_right _ (by omega)
 have h3 : 0 < 10 ^ b.length := Nat.pow_pos (by decide)
 unfold denR at h1
 generalize 10 ^ b.length = P at *
 generalize n * P = Q at *
 omega
theorem j0_ratio (a b : List UInt8) (pt : Bool) (h : Lead a) (hb : ∀ x ∈ b, isDg x = true) (hpt : pt = decide (0 < b.length)) (hl : a.length + b.length ≤ 8000) : ∃ r, Ev (fun k => levyref4_numbered.j0 k (bA a) pt (bA b) true false) r ∧ Same r (ratioR a b) := by
 obtain ⟨K, hK⟩ := whole_p a h.d (by omega)
 have hsz := bA_size b
 have no : ∀ q x, levyref4_numbered.j1 (q + 1) (bA b) x true = some (0, 0, (⟨#[]⟩ : ByteArray), 0, 0, false) := fun q x => by
  simp only [levyref4_numbered.j1]
  rw [if_pos trivial]
 have e1 : wrap64 (((bA b).size : Int) - 1) = ((bA b).size : Int) - 1 := wrI (by omega) (by omega)
 have head : ∀ q, K ≤ q → levyref4_numbered.j0 (q + 1) (bA a) pt (bA b) true false = if 6 < b.length ∨ b.getLast? = some 48 then levyref4_numbered.j1 q (bA b) ((wholeR 0 a : Nat) : Int) true else levyref4_numbered.j1 q (bA b) ((wholeR 0 a : Nat) : Int) (decide (((wholeR 0 a : Nat) : Int) > 100000000000)) := fun q hq => by
  have hq := hK q hq
  dsimp only at hq
  simp only [levyref4_numbered.j0]
  rw [if_neg (by decide), hq, Option.bind_some, if_pos trivial]
  cases pt with
  | false =>
   have h0 : b = [] := by
    have := of_decide_eq_false hpt.symm
    exact List.length_eq_zero_iff.mp (by omega)
   subst h0
   rw [if_neg (by decide), if_neg (by simp)]
  | true =>
   have h0 : 0 < b.length := of_decide_eq_true hpt.symm
   rw [if_pos rfl]
   by_cases h6 : 6 < b.length
   ·rw [if_pos (by omega), if_pos (Or.inl h6)]
   ·rw [if_neg (by omega), e1, if_pos (by omega), if_pos (by omega)]
    obtain ⟨x, hx, hx2⟩ := last_bt (bA b) (by omega)
    have hx2 : b.getLast? = some x := hx2
    have e2 : ((bA b).size : Int) - 1 = (((bA b).size - 1 : Nat) : Int) := by omega
    rw [e2, (bt_of _ hx).1, hx2]
    by_cases h48 : x = 48
    ·subst h48
     rw [if_pos (by decide), if_pos (Or.inr rfl)]
    ·rw [if_neg (fun e => h48 (UInt8.toNat_inj.mp (show x.toNat = (48 : UInt8).toNat by have : (48 : UInt8).toNat = 48 := rfl; omega))), if_neg]
     rintro (h | h)
     ·exact h6 h
     ·exact h48 (Option.some.inj h)
 by_cases hbad : 6 < b.length ∨ b.getLast? = some 48
 ·refine ⟨(0, 0, ⟨#[]⟩, 0, 0, false), ⟨K + 2, fun k hk => ?_⟩, ?_⟩
  ·obtain ⟨q, rfl⟩ : ∃ q, k = q + 2 := ⟨k - 2, by omega⟩
   show levyref4_numbered.j0 (q + 1 + 1) (bA a) pt (bA b) true false = _
   rw [head (q + 1) (by omega), if_pos hbad, no]
  ·unfold ratioR
   rw [if_pos hbad]
   exact ⟨rfl, fun ht => by cases ht⟩
 ·have h6 : b.length ≤ 6 := by omega
  have hd0 : 0 < denR b.length := by unfold denR; exact Nat.mul_pos (by decide) (Nat.pow_pos (by decide))
  have hg := Nat.gcd_pos_of_pos_right (val (a ++ b)) hd0
  have hmax : max (Nat.gcd (val (a ++ b)) (denR b.length)) 1 = Nat.gcd (val (a ++ b)) (denR b.length) := Nat.max_eq_left hg
  by_cases hn : 100000000000 < wholeR 0 a
  ·refine ⟨(0, 0, ⟨#[]⟩, 0, 0, false), ⟨K + 2, fun k hk => ?_⟩, ?_⟩
   ·obtain ⟨q, rfl⟩ : ∃ q, k = q + 2 := ⟨k - 2, by omega⟩
    show levyref4_numbered.j0 (q + 1 + 1) (bA a) pt (bA b) true false = _
    rw [head (q + 1) (by omega), if_neg hbad, decide_eq_true (show ((wholeR 0 a : Nat) : Int) > 100000000000 by omega), no]
   ·unfold ratioR
    rw [if_neg hbad]
    by_cases hD : (digitsR (a ++ b)).2 = false
    ·rw [if_pos hD]
     exact ⟨rfl, fun ht => by cases ht⟩
    ·rw [if_neg hD, hmax]
     have h18 : a.length ≤ 18 := by
      rcases Nat.lt_or_ge 18 a.length with h9 | h9
      ·rw [h.digitsR_no b (by omega) (by omega)] at hD
       exact absurd rfl hD
      ·exact h9
     rw [whole_18 a h.d h18] at hn
     have hv := valA_ge b (val a)
     have e : val (a ++ b) = valA (val a) b := valA_append 0 a b
     rw [← e] at hv
     have := ratio_none (a := a) (b := b) hv hn
     rw [decide_eq_false this, Bool.false_and]
     exact ⟨rfl, fun ht => by cases ht⟩
  ·have h12 : a.length ≤ 12 := by
    rcases Nat.lt_or_ge 12 a.length with h9 | h9
    ·have := h.big (k := 11) (m := 1000000000000) (by omega) (by decide) (by decide)
     omega
    ·exact h9
   rw [whole_18 a h.d (by omega)] at head hn
   have e : val (a ++ b) = valA (val a) b := valA_append 0 a b
   obtain ⟨r, ⟨K2, hK2⟩, hS⟩ := ratio_loop b hb h6 b.length 0 (val a) (by omega) (by omega)
   rw [List.drop_zero, ← e] at hS
   refine ⟨r, ⟨K + K2 + 2, fun k hk => ?_⟩, ?_⟩
   ·obtain ⟨q, rfl⟩ : ∃ q, k = q + 2 := ⟨k - 2, by omega⟩
    have hq := hK2 q (by omega)
    dsimp only at hq
    show levyref4_numbered.j0 (q + 1 + 1) (bA a) pt (bA b) true false = _
    rw [head (q + 1) (by omega), if_neg hbad, decide_eq_false (show ¬ ((val a : Nat) : Int) > 100000000000 by omega)]
    simp only [levyref4_numbered.j1]
    rw [if_neg (by decide)]
    exact hq
   ·unfold ratioR
    rw [if_neg hbad, digitsR_18 (by rw [List.length_append]; omega), if_neg (by simp), hmax]
    exact hS
theorem numbered_p (a b : List UInt8) (pt pc : Bool) (ha : ∀ x ∈ a, isDg x = true) (ha0 : 0 < a.length) (hb : ∀ x ∈ b, isDg x = true) (hpt : pt = decide (0 < b.length)) (hl : a.length + b.length ≤ 8000) :
  ∃ r, Ev (fun k => levyref4_numbered.f k (bA a) pt (bA b) pc) r ∧ Same r (if 1 < a.length ∧ bt (bA a) 0 = 48 then (⟨0, 0, ⟨#[]⟩, 0, 0⟩, false) else piecesR a b pt pc) := by
 have hsz := bA_size a
 by_cases h1 : 1 < a.length ∧ bt (bA a) 0 = 48
 ·rw [if_pos h1]
  refine ⟨(0, 0, ⟨#[]⟩, 0, 0, false), ⟨1, fun k hk => ?_⟩, rfl, fun ht => by cases ht⟩
  obtain ⟨q, rfl⟩ : ∃ q, k = q + 1 := ⟨k - 1, by omega⟩
  show levyref4_numbered.f (q + 1) (bA a) pt (bA b) pc = _
  unfold levyref4_numbered.f
  rw [if_pos (by omega), if_pos (by omega), h1.2]
  simp only [levyref4_numbered.j0]
  rw [if_pos (by decide)]
 ·rw [if_neg h1]
  have e : ∀ k, levyref4_numbered.f k (bA a) pt (bA b) pc = levyref4_numbered.j0 k (bA a) pt (bA b) pc false := fun k => by
   unfold levyref4_numbered.f
   by_cases h2 : 1 < a.length
   ·rw [if_pos (by omega), if_pos (by omega), beq_eq_false_iff_ne.mpr (fun h => h1 ⟨h2, h⟩)]
   ·rw [if_neg (by omega)]
  have hL : Lead a := ⟨ha, ha0, h1⟩
  obtain ⟨r, hr, hS⟩ : ∃ r, Ev (fun k => levyref4_numbered.j0 k (bA a) pt (bA b) pc false) r ∧ Same r (piecesR a b pt pc) := by
   unfold piecesR
   cases pc with
   | true => rw [if_pos rfl]; exact j0_ratio a b pt hL hb hpt hl
   | false =>
    rw [if_neg (by decide)]
    cases pt with
    | true => rw [if_pos rfl]; exact j0_amount a b hL hb hl
    | false => rw [if_neg (by decide)]; exact j0_count a hL (by omega) (bA b)
  exact ⟨r, Ev.congr e hr, hS⟩
theorem at_nat (s : ByteArray) (i : Nat) (x : UInt8) : atP (fun b => b == x) s i = atP (fun b => b.toNat == x.toNat) s i := by
 unfold atP
 cases (Ls s)[i]? with
 | none => rfl
 | some b =>
  show (b == x) = (b.toNat == x.toNat)
  by_cases h : b = x
  ·subst h; simp
  ·rw [beq_eq_false_iff_ne.mpr h, beq_eq_false_iff_ne.mpr (fun e => h (UInt8.toNat_inj.mp e))]
theorem run_pos (p : UInt8 → Bool) (s : ByteArray) (i : Nat) : decide (((runP p s i : Nat) : Int) > 0) = atP p s i := by
 cases h : atP p s i with
 | true => exact decide_eq_true (by have := (runP_yes h).1; omega)
 | false => exact decide_eq_false (by have := runP_no h; omega)
theorem ext_size {s : ByteArray} {i n : Nat} (h : i + n ≤ s.size) : (s.extract i (i + n)).size = n := by
 rw [ByteArray.size_extract]; omega
theorem ext_first {s : ByteArray} {i n : Nat} (h : i < s.size) (hn : 0 < n) : bt (s.extract i (i + n)) 0 = bt s (i : Int) := by
 obtain ⟨b, hb⟩ := byte_some s h
 have h2 : (Ls (s.extract i (i + n)))[0]? = some b := by
  show (s.extract i (i + n)).data.toList[0]? = _
  rw [ByteArray.data_extract, Array.toList_extract, List.extract_eq_take_drop, Nat.add_sub_cancel_left]
  obtain ⟨hl, e⟩ := List.getElem?_eq_some_iff.1 hb
  rw [List.drop_eq_getElem_cons hl, e]
  obtain ⟨m, rfl⟩ : ∃ m, n = m + 1 := ⟨n - 1, by omega⟩
  rfl
 have h3 := (bt_of _ h2).1
 rw [(bt_of s hb).1]
 exact h3
section
variable {s : ByteArray} {p : Nat} (hs : s.size ≤ 8000)
include hs
theorem num_a (hp : p ≤ s.size) : ∃ K, ∀ k, K ≤ k → levyref4_number.f k s (p : Int) = levyref4_number.j0 k s (p : Int) (s.extract p (p + runP isDg s p)) ((p + runP isDg s p : Nat) : Int) (ptB s (p + runP isDg s p)) := by
 have hle := runP_le isDg s p hp
 obtain ⟨K, hK⟩ := run1_p s hs p (by omega)
 generalize hq : p + runP isDg s p = q at *
 obtain ⟨K2, hK2⟩ := run1_p s hs (q + 1) (by omega)
 refine ⟨K + K2, fun k hk => ?_⟩
 have h1 := hK k (by omega)
 have h2 := hK2 k (by omega)
 dsimp only at h1 h2
 unfold levyref4_number.f
 have e1 : wrap64 ((p : Int) + ((runP isDg s p : Nat) : Int)) = (q : Int) := by rw [wrI (by omega) (by omega)]; omega
 have e2 : wrap64 ((q : Int) + 1) = ((q + 1 : Nat) : Int) := by rw [wrI (by omega) (by omega)]; omega
 rw [h1, Option.bind_some, e1, e2, h2, Option.bind_some, is1_r s hs q (by omega), Option.bind_some, run_pos, Int.toNat_natCast, Int.toNat_natCast, at_nat]
 clear e1 e2 h1 h2
 rw [if_pos (by omega), if_pos (by omega), if_pos (by omega)]
 unfold ptB
 have e46 : (46 : UInt8).toNat = 46 := rfl
 rw [e46]
 cases atP (fun b => b.toNat == 46) s q with
 | true => rw [if_pos rfl, Bool.true_and]
 | false => rw [if_neg (by decide), Bool.false_and]
theorem num_b {q : Nat} (hq : q ≤ s.size) (a : ByteArray) : ∃ K, ∀ k, K ≤ k → levyref4_number.j0 (k + 1) s (p : Int) a (q : Int) (ptB s q) = levyref4_number.j1 k s (p : Int) a ((mB s q : Nat) : Int) (ptB s q) (partB s q) := by
 obtain ⟨K2, hK2⟩ := run1_p s hs (q + 1) (by omega)
 refine ⟨K2, fun k hk => ?_⟩
 have h2 := hK2 k (by omega)
 dsimp only at h2
 simp only [levyref4_number.j0]
 unfold mB partB
 cases hpt : ptB s q with
 | true =>
  have hd : atP isDg s (q + 1) = true := by unfold ptB at hpt; exact ((Bool.and_eq_true _ _).mp hpt).2
  have hlt := (runP_yes hd).2
  have hle := runP_le isDg s (q + 1) (by omega)
  have e2 : wrap64 ((q : Int) + 1) = ((q + 1 : Nat) : Int) := by rw [wrI (by omega) (by omega)]; omega
  have e3 : wrap64 (((q + 1 : Nat) : Int) + ((runP isDg s (q + 1) : Nat) : Int)) = ((q + 1 + runP isDg s (q + 1) : Nat) : Int) := by rw [wrI (by omega) (by omega)]; omega
  rw [if_pos rfl, e2, h2, Option.bind_some, e3, Int.toNat_natCast, Int.toNat_natCast, if_pos rfl, if_pos rfl]
  clear e2 e3 h2
  rw [if_pos (by omega), if_pos (by omega), if_pos (by omega)]
 | false => rw [if_neg (by decide), if_neg (by decide), if_neg (by decide)]
theorem num_c {m : Nat} (hm : m ≤ s.size) (a b : ByteArray) (pt : Bool) (k : Nat) : levyref4_number.j1 (k + 1) s (p : Int) a (m : Int) pt b = levyref4_number.j2 k s (p : Int) a ((m2B s m : Nat) : Int) pt b (pcB s m) := by
 simp only [levyref4_number.j1]
 rw [is1_r s hs m (by omega), Option.bind_some, at_nat]
 unfold m2B pcB
 have e37 : (37 : UInt8).toNat = 37 := rfl
 rw [e37]
 have e2 : wrap64 ((m : Int) + 1) = ((m + 1 : Nat) : Int) := by rw [wrI (by omega) (by omega)]; omega
 rw [e2]
 clear e2
 cases atP (fun b => b.toNat == 37) s m with
 | true => rw [if_pos rfl, if_pos rfl]
 | false => rw [if_neg (by decide), if_neg (by decide)]
omit hs in
theorem num_d (m : Nat) (a b : ByteArray) (pt pc : Bool) (k : Nat) : levyref4_number.j2 (k + 1) s (p : Int) a (m : Int) pt b pc = levyref4_number.j3 k (p : Int) a (m : Int) pt b pc (atP isLu s m) := by
 simp only [levyref4_number.j2]
 by_cases h : m < s.size
 ·obtain ⟨c, hc⟩ := byte_some s h
  have ea : atP isLu s m = (isLt c || c.toNat == 95) := by unfold atP isLu; rw [hc]
  rw [if_pos (by omega), if_pos (by omega), (bt_of s hc).1, letter_r, Option.bind_some, ea, word95_r]
  cases isLt c with
  | true => rw [if_pos rfl, Bool.true_or]
  | false => rw [if_neg (by decide), Bool.false_or]
 ·rw [if_neg (by omega)]
  have ea : atP isLu s m = false := by unfold atP; rw [byte_none s h]
  rw [ea]
theorem number_r4 (hd : atP isDg s p = true) : Ev (fun k => levyref4_number.f k s (p : Int)) (rfOf (numR s p 0 0)) := by
 obtain ⟨hrun, hp⟩ := runP_yes hd
 have hle := runP_le isDg s p (by omega)
 have hm := mB_le hle
 have hdig := run_digits s p (by omega)
 have hsz := ext_size hle
 have hf := ext_first (s := s) (i := p) (n := runP isDg s p) hp (by omega)
 obtain ⟨K1, h1⟩ := num_a hs (p := p) (by omega)
 generalize hq : p + runP isDg s p = q at *
 obtain ⟨K2, h2⟩ := num_b (p := p) hs hle (s.extract p q)
 have hpart : (∀ x ∈ Ls (partB s q), isDg x = true) ∧ ptB s q = decide (0 < (Ls (partB s q)).length) ∧ (partB s q).size + q ≤ s.size := by
  unfold partB
  cases hpt : ptB s q with
  | true =>
   have hd : atP isDg s (q + 1) = true := by unfold ptB at hpt; exact ((Bool.and_eq_true _ _).mp hpt).2
   have hy := runP_yes hd
   have hle2 := runP_le isDg s (q + 1) (by omega)
   have hx := ext_size hle2
   rw [if_pos rfl]
   refine ⟨run_digits s (q + 1) (by omega), (decide_eq_true ?_).symm, by omega⟩
   rw [Ls_len, hx]
   omega
  | false =>
   rw [if_neg (by decide)]
   refine ⟨?_, rfl, ?_⟩
   ·intro x hx
    exact absurd hx (List.not_mem_nil (a := x))
   ·show 0 + q ≤ _
    omega
 obtain ⟨r, ⟨K3, h3⟩, hS⟩ := numbered_p (Ls (s.extract p q)) (Ls (partB s q)) (ptB s q) (pcB s (mB s q)) hdig (by rw [Ls_len]; omega) hpart.1 hpart.2.1 (by rw [Ls_len, Ls_len]; have := hpart.2.2; omega)
 rw [bA_Ls, bA_Ls] at h3
 rw [bA_Ls, Ls_len, hsz, hf] at hS
 refine ⟨K1 + K2 + K3 + 5, fun k hk => ?_⟩
 obtain ⟨n, rfl⟩ : ∃ n, k = n + 4 := ⟨k - 4, by omega⟩
 have h3 := h3 n (by omega)
 dsimp only at h3
 show levyref4_number.f (n + 4) s (p : Int) = _
 rw [h1 (n + 4) (by omega), h2 (n + 3) (by omega), num_c hs hm, num_d]
 simp only [levyref4_number.j3]
 unfold numR resR
 dsimp only
 rw [hq]
 by_cases hlu : atP isLu s (m2B s (mB s q)) = true
 ·rw [if_pos hlu, if_pos hlu]
  rfl
 ·rw [if_neg hlu, if_neg hlu, h3, Option.bind_some]
  unfold piecesR at hS
  generalize (if 1 < runP isDg s p ∧ bt s (p : Int) = 48 then ((⟨0, 0, ⟨#[]⟩, 0, 0⟩ : S57), false) else if pcB s (mB s q) = true then ratioR (Ls (s.extract p q)) (Ls (partB s q)) else if ptB s q = true then amountR (Ls (s.extract p q)) (Ls (partB s q)) else countR (Ls (s.extract p q))) = R at hS ⊢
  obtain ⟨s1, s2⟩ := hS
  cases hR : R.2 with
  | true =>
   rw [s2 hR]
   rfl
  | false =>
   rw [s1, hR]
   rfl
theorem word_p {c : UInt8} (hc : (Ls s)[p]? = some c) : Ev (fun k => levyref4_word.f k s (p : Int)) (rfOf (wordR s p c 0 0)) := by
 obtain ⟨hbt, hp⟩ := bt_of s hc
 have head : ∀ k, levyref4_word.f k s (p : Int) = if isLt c = true then ((levyref4_run.f k s (p : Int) 2).bind fun t147 => (if t147 > 12 then (some (0, 0, (⟨#[]⟩ : ByteArray), 0, 0, (p : Int), 40)) else (if (p : Int) ≤ (wrap64 ((p : Int) + t147)) then (if (wrap64 ((p : Int) + t147)) ≤ (s.size : Int) then (some (1, 0, s.extract (p : Int).toNat ((wrap64 ((p : Int) + t147)) : Int).toNat, 0, 0, wrap64 ((p : Int) + t147), 0)) else (none)) else (none)))) else (if isDg c = true then ((levyref4_dateAt.f k s (p : Int)).bind fun t149 => (levyref4_word.j0 k s (p : Int) t149)) else (levyref4_word.j0 k s (p : Int) false)) := fun k => by
  unfold levyref4_word.f
  rw [if_pos (by omega), if_pos (by omega), hbt, letter_r, Option.bind_some, digit_r, Option.bind_some]
 have hj : ∀ k, levyref4_word.j0 (k + 1) s (p : Int) false = if isDg c = true then (levyref4_number.f k s (p : Int)).bind some else if (c.toNat : Int) = 34 then (levyref4_text.f k s (p : Int)).bind some else levyref4_word.l0 k s (p : Int) 0 := fun k => by
  simp only [levyref4_word.j0]
  rw [if_neg (by decide), if_pos (by omega), if_pos (by omega), hbt, digit_r, Option.bind_some]
 unfold wordR
 by_cases hL : isLt c = true
 ·rw [if_pos hL]
  obtain ⟨K, hK⟩ := run2_p s hs p (by omega)
  refine ⟨K, fun k hk => ?_⟩
  have h := hK k hk
  dsimp only at h
  show levyref4_word.f k s (p : Int) = _
  have hle := runP_le isWd s p (by omega)
  have e1 : wrap64 ((p : Int) + ((runP isWd s p : Nat) : Int)) = ((p + runP isWd s p : Nat) : Int) := by rw [wrI (by omega) (by omega)]; omega
  rw [head, if_pos hL, h, Option.bind_some, e1, Int.toNat_natCast, Int.toNat_natCast]
  clear e1 h
  unfold nameR
  by_cases h12 : runP isWd s p ≤ 12
  ·rw [if_neg (by omega), if_pos (by omega), if_pos (by omega), if_pos h12]
   rfl
  ·rw [if_pos (by omega), if_neg h12]
   rfl
 rw [if_neg hL]
 by_cases hD : isDg c = true
 ·rw [if_pos hD]
  have hdp : atP isDg s p = true := by unfold atP; rw [hc]; exact hD
  obtain ⟨K, hK⟩ := dateAt_p s hs p (by omega)
  unfold numberR
  by_cases hdt : datedB s p = true
  ·rw [if_pos hdt]
   obtain ⟨K2, hK2⟩ := dated_p s hs p hdt
   refine ⟨K + K2 + 1, fun k hk => ?_⟩
   obtain ⟨n, rfl⟩ : ∃ n, k = n + 1 := ⟨k - 1, by omega⟩
   have h := hK (n + 1) (by omega)
   have h2 := hK2 n (by omega)
   dsimp only at h h2
   show levyref4_word.f (n + 1) s (p : Int) = _
   rw [head, if_neg hL, if_pos hD, h, Option.bind_some, hdt]
   simp only [levyref4_word.j0]
   rw [if_pos trivial, h2, Option.bind_some]
  ·rw [if_neg hdt]
   obtain ⟨K2, hK2⟩ := number_r4 hs hdp
   refine ⟨K + K2 + 1, fun k hk => ?_⟩
   obtain ⟨n, rfl⟩ : ∃ n, k = n + 1 := ⟨k - 1, by omega⟩
   have h := hK (n + 1) (by omega)
   have h2 := hK2 n (by omega)
   dsimp only at h h2
   have hdf : datedB s p = false := by cases h9 : datedB s p with | true => exact absurd h9 hdt | false => rfl
   show levyref4_word.f (n + 1) s (p : Int) = _
   rw [head, if_neg hL, if_pos hD, h, Option.bind_some, hdf, hj, if_pos hD, h2, Option.bind_some]
 rw [if_neg hD]
 by_cases hQ : (c.toNat : Int) = 34
 ·rw [if_pos hQ]
  obtain ⟨K2, hK2⟩ := text_p s hs p hp
  refine ⟨K2 + 1, fun k hk => ?_⟩
  obtain ⟨n, rfl⟩ : ∃ n, k = n + 1 := ⟨k - 1, by omega⟩
  have h2 := hK2 n (by omega)
  dsimp only at h2
  show levyref4_word.f (n + 1) s (p : Int) = _
  rw [head, if_neg hL, if_neg hD, hj, if_neg hD, if_pos hQ, h2, Option.bind_some]
 ·rw [if_neg hQ]
  obtain ⟨K2, hK2⟩ := signs_p s hs p c hc
  refine ⟨K2 + 1, fun k hk => ?_⟩
  obtain ⟨n, rfl⟩ : ∃ n, k = n + 1 := ⟨k - 1, by omega⟩
  have h2 := hK2 n (by omega)
  dsimp only at h2
  show levyref4_word.f (n + 1) s (p : Int) = _
  rw [head, if_neg hL, if_neg hD, hj, if_neg hD, if_neg hQ, h2]
  unfold sgnR
  split <;> rfl
end
structure Fine (q : Nat) (r : S57 × Bool × Nat × Int × Int) : Prop where
 ok : r.2.1 = true → r.1.f1 = (q : Int) ∧ q < r.2.2.1 ∧ r.2.2.2.1 = 0 ∧ r.2.2.2.2 = 0
 no : r.2.1 = false → r.2.2.2.1 ≠ 0
theorem Fine.yes {q : Nat} {t : S57} {p : Nat} (h1 : t.f1 = (q : Int)) (h2 : q < p) : Fine q (t, true, p, 0, 0) := ⟨fun _ => ⟨h1, h2, rfl, rfl⟩, fun h => by cases h⟩
theorem Fine.bad {q : Nat} {t : S57} {p : Nat} {e a : Int} (h : e ≠ 0) : Fine q (t, false, p, e, a) := ⟨fun h => (by cases h), fun _ => h⟩
theorem Fine.mono {q i : Nat} {r : S57 × Bool × Nat × Int × Int} (h : r.2.1 = true → r.1.f1 = (q : Int) ∧ i < r.2.2.1 ∧ r.2.2.2.1 = 0 ∧ r.2.2.2.2 = 0) (hn : r.2.1 = false → r.2.2.2.1 ≠ 0) (hi : q ≤ i) : Fine q r :=
 ⟨fun ht => ⟨(h ht).1, by have := (h ht).2.1; omega, (h ht).2.2⟩, hn⟩
theorem txt_fine (s : ByteArray) (p : Nat) (d : Nat) : ∀ (i : Nat) (acc : List UInt8), p ≤ i → Fine p (txtR s p 0 0 d i acc) := by
 induction d with
 | zero => intro i acc h; exact Fine.bad (by decide)
 | succ d ih =>
  intro i acc h
  unfold txtR
  split
  ·exact Fine.bad (by decide)
  ·split
   ·exact Fine.bad (by decide)
   ·split
    ·split
     ·exact Fine.yes rfl (by omega)
     ·exact Fine.bad (by decide)
    ·split
     ·split
      ·exact Fine.bad (by decide)
      ·split
       ·exact ih _ _ (by omega)
       ·exact Fine.bad (by decide)
     ·split
      ·exact Fine.bad (by decide)
      ·exact ih _ _ (by omega)
theorem le_mB (s : ByteArray) (q : Nat) : q ≤ mB s q := by
 unfold mB
 split <;> omega
theorem le_m2B (s : ByteArray) (q : Nat) : q ≤ m2B s q := by
 unfold m2B
 split <;> omega
theorem word_fine {s : ByteArray} {q : Nat} {c : UInt8} (hc : (Ls s)[q]? = some c) : Fine q (wordR s q c 0 0) := by
 unfold wordR
 split
 ·next hL =>
  have : runP isWd s q = runP isWd s (q + 1) + 1 := (runP_yes (by unfold atP; rw [hc]; show (isLt c || isDg c || c.toNat == 95) = true; rw [hL]; rfl)).1
  unfold nameR
  split
  ·exact Fine.yes rfl (by omega)
  ·exact Fine.bad (by decide)
 ·split
  ·next hD =>
   have : runP isDg s q = runP isDg s (q + 1) + 1 := (runP_yes (by unfold atP; rw [hc]; exact hD)).1
   unfold numberR
   split
   ·unfold dateR
    split
    ·exact Fine.bad (by decide)
    ·exact Fine.yes rfl (by omega)
   ·have h1 := le_mB s (q + runP isDg s q)
    have h2 := le_m2B s (mB s (q + runP isDg s q))
    unfold numR
    split
    ·exact Fine.yes rfl (by omega)
    ·exact Fine.bad (by decide)
  ·split
   ·exact txt_fine s q _ _ _ (by omega)
   ·split
    ·unfold signR
     split
     ·exact Fine.yes rfl (by omega)
     ·split
      ·exact Fine.bad (by decide)
      ·exact Fine.yes rfl (by omega)
    ·exact Fine.bad (by decide)
section
variable {s : ByteArray} (hs : s.size ≤ 8000)
include hs
theorem upto_j1 {p : Nat} {c : UInt8} (hc : (Ls s)[p]? = some c) (k : Nat) (xs : List S57) (l : Bool) : levyref4_Upto.l0 (k + 1) s xs l (p : Int) = levyref4_Upto.j1 k s xs l (p : Int) (decide ((c.toNat : Int) = 32 ∨ (c.toNat : Int) = 9)) := by
 obtain ⟨hbt, hp⟩ := bt_of s hc
 simp only [levyref4_Upto.l0]
 rw [if_pos (by omega), if_pos (by omega), hbt]
 by_cases h : (c.toNat : Int) = 32
 ·rw [if_pos h, decide_eq_true (Or.inl h)]
 ·rw [if_neg h]
  by_cases h9 : (c.toNat : Int) = 9
  ·rw [decide_eq_true (Or.inr h9), beq_iff_eq.mpr h9]
  ·rw [decide_eq_false (by rintro (h1 | h1); exact h h1; exact h9 h1), beq_eq_false_iff_ne.mpr h9]
theorem upto_other {p : Nat} {c : UInt8} (hc : (Ls s)[p]? = some c) (h : ¬ ((c.toNat : Int) = 32 ∨ (c.toNat : Int) = 9)) (k : Nat) (xs : List S57) (l : Bool) :
  levyref4_Upto.l0 (k + 2) s xs l (p : Int) = (if (c.toNat : Int) = 35 then (levyref4_Upto.l1 k s xs l (p : Int)) else (if (c.toNat : Int) = 10 then (if l = true then (if xs.length < 2932031007402 then (levyref4_Upto.l0 k s (xs ++ [(⟨8, (p : Int), (⟨#[]⟩ : ByteArray), 0, 0⟩ : S57)]) false ((p + 1 : Nat) : Int)) else (none)) else (levyref4_Upto.l0 k s xs false ((p + 1 : Nat) : Int))) else ((levyref4_word.f k s (p : Int)).bind fun bt179 => (if bt179.2.2.2.2.2.2 = 0 then (if xs.length < 2932031007402 then (levyref4_Upto.l0 k s (xs ++ [(⟨bt179.1, (p : Int), bt179.2.2.1, bt179.2.2.2.1, bt179.2.2.2.2.1⟩ : S57)]) true bt179.2.2.2.2.2.1) else (none)) else (some (xs, bt179.2.2.2.2.2.1, bt179.2.2.2.2.2.2)))))) := by
 obtain ⟨hbt, hp⟩ := bt_of s hc
 have e1 : wrap64 ((p : Int) + 1) = ((p + 1 : Nat) : Int) := by rw [wrI (by omega) (by omega)]; omega
 rw [upto_j1 hs hc, decide_eq_false h]
 simp only [levyref4_Upto.j1]
 rw [if_neg (by decide), hbt, e1]
 clear e1
 rw [if_pos (by omega), if_pos (by omega)]
theorem upto_blank {p : Nat} {c : UInt8} (hc : (Ls s)[p]? = some c) (h : (c.toNat : Int) = 32 ∨ (c.toNat : Int) = 9) (k : Nat) (xs : List S57) (l : Bool) : levyref4_Upto.l0 (k + 2) s xs l (p : Int) = levyref4_Upto.l0 k s xs l ((p + 1 : Nat) : Int) := by
 obtain ⟨hbt, hp⟩ := bt_of s hc
 have e1 : wrap64 ((p : Int) + 1) = ((p + 1 : Nat) : Int) := by rw [wrI (by omega) (by omega)]; omega
 rw [upto_j1 hs hc, decide_eq_true h]
 simp only [levyref4_Upto.j1]
 rw [if_pos trivial, e1]
theorem comment (xs : List S57) (l : Bool) {r : List S57 × Int × Int} (d : Nat) : ∀ p, runP (fun b => b.toNat != 10) s p = d → p ≤ s.size → Ev (fun k => levyref4_Upto.l0 k s xs l ((p + d : Nat) : Int)) r → Ev (fun k => levyref4_Upto.l1 k s xs l (p : Int)) r := by
 induction d with
 | zero =>
  intro p hd hp hr
  obtain ⟨K, hK⟩ := hr
  refine ⟨K + 1, fun k hk => ?_⟩
  obtain ⟨q, rfl⟩ : ∃ q, k = q + 1 := ⟨k - 1, by omega⟩
  have hq := hK q (by omega)
  dsimp only at hq
  rw [Nat.add_zero] at hq
  show levyref4_Upto.l1 (q + 1) s xs l (p : Int) = _
  simp only [levyref4_Upto.l1]
  rw [hq]
  by_cases hlt : p < s.size
  ·obtain ⟨c, hc⟩ := byte_some s hlt
   have h10 : c.toNat = 10 := by
    rcases Nat.decEq c.toNat 10 with h | h
    ·have := (runP_yes (p := fun b => b.toNat != 10) (s := s) (i := p) (by unfold atP; rw [hc]; exact bne_iff_ne.mpr h)).1
     omega
    ·exact h
   rw [if_pos (by omega), if_pos (by omega), (bt_of s hc).1, if_pos (by omega)]
  ·rw [if_neg (by omega)]
 | succ d ih =>
  intro p hd hp hr
  have ha : atP (fun b => b.toNat != 10) s p = true := by
   cases h : atP (fun b => b.toNat != 10) s p with
   | true => rfl
   | false => rw [runP_no h] at hd; omega
  obtain ⟨h1, hlt⟩ := runP_yes ha
  obtain ⟨c, hc⟩ := byte_some s hlt
  have h10 : c.toNat ≠ 10 := by unfold atP at ha; rw [hc] at ha; exact bne_iff_ne.mp ha
  obtain ⟨K, hK⟩ := ih (p + 1) (by omega) (by omega) (by rw [show p + 1 + d = p + (d + 1) by omega]; exact hr)
  refine ⟨K + 1, fun k hk => ?_⟩
  obtain ⟨q, rfl⟩ : ∃ q, k = q + 1 := ⟨k - 1, by omega⟩
  have hq := hK q (by omega)
  dsimp only at hq
  show levyref4_Upto.l1 (q + 1) s xs l (p : Int) = _
  simp only [levyref4_Upto.l1]
  have e1 : wrap64 ((p : Int) + 1) = ((p + 1 : Nat) : Int) := by rw [wrI (by omega) (by omega)]; omega
  rw [e1, hq]
  clear e1 hq
  rw [if_pos (by omega), if_pos (by omega), (bt_of s hc).1, if_neg (by omega)]
theorem ev_two {g h : Nat → Option (List S57 × Int × Int)} {r : List S57 × Int × Int} (e : ∀ k, g (k + 2) = h k) (hr : Ev h r) : Ev g r := by
 obtain ⟨K, hK⟩ := hr
 refine ⟨K + 2, fun k hk => ?_⟩
 obtain ⟨q, rfl⟩ : ∃ q, k = q + 2 := ⟨k - 2, by omega⟩
 rw [e q]
 exact hK q (by omega)
theorem skip_go (xs : List S57) (l : Bool) {r : List S57 × Int × Int} (n : Nat) : ∀ p, p ≤ s.size → Ev (fun k => levyref4_Upto.l0 k s xs l ((skipB s l n p : Nat) : Int)) r → Ev (fun k => levyref4_Upto.l0 k s xs l (p : Int)) r := by
 induction n with
 | zero => intro p hp h; exact h
 | succ n ih =>
  intro p hp h
  unfold skipB at h
  split at h
  ·exact h
  ·next c hc =>
   have hlt := (bt_of s hc).2
   split at h
   ·next h1 => exact ev_two hs (fun k => upto_blank hs hc h1 k xs l) (ih (p + 1) (by omega) h)
   ·next h1 =>
    split at h
    ·next h2 =>
     refine ev_two hs (h := fun k => levyref4_Upto.l1 k s xs l (p : Int)) (fun k => by rw [upto_other hs hc h1, if_pos h2]) ?_
     have hle := runP_le (fun b => b.toNat != 10) s p (by omega)
     exact comment hs xs l _ p rfl hp (ih _ hle h)
    ·next h2 =>
     split at h
     ·next h3 =>
      cases l with
      | true => exact h
      | false => exact ev_two hs (h := fun k => levyref4_Upto.l0 k s xs false ((p + 1 : Nat) : Int)) (fun k => by rw [upto_other hs hc h1, if_neg h2, if_pos h3, if_neg (by decide)]) (ih (p + 1) (by omega) h)
     ·exact h
omit hs in
theorem skip_at (l : Bool) (n : Nat) : ∀ p, s.size < p + n → p ≤ s.size → p ≤ skipB s l n p ∧ ∀ c, (Ls s)[skipB s l n p]? = some c → ¬ ((c.toNat : Int) = 32 ∨ (c.toNat : Int) = 9) ∧ ¬ (c.toNat : Int) = 35 ∧ ((c.toNat : Int) = 10 → l = true) := by
 induction n with
 | zero => intro p h1 h2; omega
 | succ n ih =>
  intro p h1 h2
  unfold skipB
  split
  ·next hb =>
   refine ⟨Nat.le_refl _, fun c hc => ?_⟩
   rw [hb] at hc
   cases hc
  ·next c hc =>
   have hlt := (bt_of s hc).2
   split
   ·have := ih (p + 1) (by omega) (by omega)
    exact ⟨by omega, this.2⟩
   ·next a1 =>
    split
    ·next a2 =>
     have hr := (runP_yes (p := fun b => b.toNat != 10) (s := s) (i := p) (by unfold atP; rw [hc]; exact bne_iff_ne.mpr (by omega))).1
     have hle := runP_le (fun b => b.toNat != 10) s p (by omega)
     have := ih (p + runP (fun b => b.toNat != 10) s p) (by omega) hle
     exact ⟨by omega, this.2⟩
    ·next a2 =>
     split
     ·next a3 =>
      cases l with
      | true =>
       refine ⟨Nat.le_refl _, fun c2 hc2 => ?_⟩
       rw [if_pos rfl, hc] at hc2
       cases hc2
       exact ⟨a1, a2, fun _ => rfl⟩
      | false =>
       rw [if_neg (by decide)]
       have := ih (p + 1) (by omega) (by omega)
       exact ⟨by omega, this.2⟩
     ·next a3 =>
      refine ⟨Nat.le_refl _, fun c2 hc2 => ?_⟩
      rw [hc] at hc2
      cases hc2
      exact ⟨a1, a2, fun h => absurd h a3⟩
def endR (xs : List S57) (q : List S57 × (Nat × Bool × Int × Int)) : List S57 × Int × Int := (xs ++ q.1, if q.2.2.2.1 = 0 then 0 else q.2.2.2.2, q.2.2.2.1)
theorem upto_go (m : Nat) : ∀ (p : Nat) (l : Bool) (xs : List S57), 2 * (s.size - p) + (if l = true then 1 else 0) < m → p ≤ s.size → xs.length + m ≤ 100000 →
  ∃ q, runG (NXs s) m p l = some q ∧ Ev (fun k => levyref4_Upto.l0 k s xs l (p : Int)) (endR xs q) := by
 induction m with
 | zero => intro p l xs h; omega
 | succ m ih =>
  intro p l xs hm hp hx
  obtain ⟨hge, hat⟩ := skip_at (s := s) l (s.size + 1) p (by omega) hp
  have hle := skip_le (s := s) l (s.size + 1) p hp
  have hN : NXs s p l = nextAt s (skipB s l (s.size + 1) p) l 0 0 := rfl
  have hskip := fun r => skip_go hs xs l (r := r) (s.size + 1) p hp
  generalize skipB s l (s.size + 1) p = q at *
  unfold nextAt at hN
  cases hb : (Ls s)[q]? with
  | none =>
   rw [hb] at hN
   dsimp only at hN
   have hq : ¬ q < s.size := fun h => by obtain ⟨b, h2⟩ := byte_some s h; rw [h2] at hb; cases hb
   have h0 : ∀ k, levyref4_Upto.l0 (k + 1) s xs l (q : Int) = (if l = true then (if xs.length < 2932031007402 then (some ((xs ++ [(⟨8, (q : Int), (⟨#[]⟩ : ByteArray), 0, 0⟩ : S57)]), 0, 0)) else (none)) else (some (xs, 0, 0))) := fun k => by
    simp only [levyref4_Upto.l0]
    rw [if_neg (by omega)]
   cases l with
   | false =>
    have hN : NXs s p false = (⟨0, 0, ⟨#[]⟩, 0, 0⟩, false, q, false, 0, 0) := hN
    refine ⟨([], (q, false, 0, 0)), ?_, hskip _ ?_⟩
    ·unfold runG
     rw [hN]
     rfl
    ·refine ⟨1, fun k hk => ?_⟩
     obtain ⟨n, rfl⟩ : ∃ n, k = n + 1 := ⟨k - 1, by omega⟩
     show levyref4_Upto.l0 (n + 1) s xs false (q : Int) = _
     rw [h0, if_neg (by decide)]
     unfold endR
     rw [List.append_nil]
     rfl
   | true =>
    have hN : NXs s p true = (⟨8, q, ⟨#[]⟩, 0, 0⟩, true, q, false, 0, 0) := hN
    obtain ⟨m', rfl⟩ : ∃ m', m = m' + 1 := ⟨m - 1, by rw [if_pos rfl] at hm; omega⟩
    have hN2 : NXs s q false = (⟨0, 0, ⟨#[]⟩, 0, 0⟩, false, q, false, 0, 0) := by
     have e : skipB s false (s.size + 1) q = q := by unfold skipB; rw [hb]
     unfold NXs nextR nextAt
     rw [e, hb]
     rfl
    refine ⟨([⟨8, q, ⟨#[]⟩, 0, 0⟩], (q, false, 0, 0)), ?_, hskip _ ?_⟩
    ·unfold runG
     rw [hN]
     dsimp only
     rw [if_pos rfl, if_pos ⟨rfl, rfl⟩]
     unfold runG
     rw [hN2]
     rfl
    ·refine ⟨1, fun k hk => ?_⟩
     obtain ⟨n, rfl⟩ : ∃ n, k = n + 1 := ⟨k - 1, by omega⟩
     show levyref4_Upto.l0 (n + 1) s xs true (q : Int) = _
     rw [h0, if_pos rfl, if_pos (by omega)]
     rfl
  | some c =>
   rw [hb] at hN
   dsimp only at hN
   obtain ⟨a1, a2, a3⟩ := hat c hb
   have hlt := (bt_of s hb).2
   by_cases h10 : (c.toNat : Int) = 10
   ·obtain rfl := a3 h10
    rw [if_pos h10] at hN
    have hN : NXs s p true = (⟨8, q, ⟨#[]⟩, 0, 0⟩, true, q, false, 0, 0) := hN
    obtain ⟨r, hr, hev⟩ := ih q false (xs ++ [⟨8, q, ⟨#[]⟩, 0, 0⟩]) (by rw [if_pos rfl] at hm; rw [if_neg (by decide)]; omega) (by omega) (by rw [List.length_append]; simp; omega)
    refine ⟨(⟨8, q, ⟨#[]⟩, 0, 0⟩ :: r.1, r.2), ?_, hskip _ ?_⟩
    ·unfold runG
     rw [hN]
     dsimp only
     rw [if_pos rfl, if_pos ⟨rfl, rfl⟩, hr]
     rfl
    ·have e : endR xs (⟨8, q, ⟨#[]⟩, 0, 0⟩ :: r.1, r.2) = endR (xs ++ [⟨8, q, ⟨#[]⟩, 0, 0⟩]) r := by unfold endR; simp
     rw [e]
     have hsk : ∀ r', Ev (fun k => levyref4_Upto.l0 k s (xs ++ [⟨8, q, ⟨#[]⟩, 0, 0⟩]) false (q : Int)) r' → Ev (fun k => levyref4_Upto.l0 k s (xs ++ [⟨8, q, ⟨#[]⟩, 0, 0⟩]) false ((q + 1 : Nat) : Int)) r' := fun r' h => by
      obtain ⟨K, hK⟩ := h
      refine ⟨K, fun k hk => ?_⟩
      have := hK (k + 2) (by omega)
      dsimp only at this
      rw [upto_other hs hb a1, if_neg a2, if_pos h10, if_neg (by decide)] at this
      exact this
     exact ev_two hs (h := fun k => levyref4_Upto.l0 k s (xs ++ [⟨8, q, ⟨#[]⟩, 0, 0⟩]) false ((q + 1 : Nat) : Int)) (fun k => by rw [upto_other hs hb a1, if_neg a2, if_pos h10, if_pos rfl, if_pos (by omega)]) (hsk _ hev)
   ·rw [if_neg h10] at hN
    have hF := word_fine hb
    have hW := word_p hs hb
    have hwl := word_le (s := s) (p := q) c 0 0 hlt
    generalize wordR s q c 0 0 = w at *
    obtain ⟨t, ok, p', e3, e4⟩ := w
    obtain ⟨K, hK⟩ := hW
    cases ok with
    | true =>
     obtain ⟨f1, f2, f3, f4⟩ := hF.ok rfl
     have f1 : t.f1 = (q : Int) := f1
     have f2 : q < p' := f2
     obtain rfl : e3 = 0 := f3
     obtain rfl : e4 = 0 := f4
     have hwl : p' ≤ s.size := hwl
     have hN : NXs s p l = (t, true, p', true, 0, 0) := hN
     obtain ⟨r, hr, K2, hK2⟩ := ih p' true (xs ++ [t]) (by rw [if_pos rfl]; omega) hwl (by rw [List.length_append]; simp; omega)
     refine ⟨(t :: r.1, r.2), ?_, hskip _ ?_⟩
     ·unfold runG
      rw [hN]
      dsimp only
      rw [if_pos rfl, if_pos ⟨rfl, rfl⟩, hr]
      rfl
     ·have e : endR xs (t :: r.1, r.2) = endR (xs ++ [t]) r := by unfold endR; simp
      rw [e]
      refine ⟨K + K2 + 2, fun k hk => ?_⟩
      obtain ⟨n, rfl⟩ : ∃ n, k = n + 2 := ⟨k - 2, by omega⟩
      have h1 := hK n (by omega)
      have h2 := hK2 n (by omega)
      dsimp only at h1 h2
      show levyref4_Upto.l0 (n + 2) s xs l (q : Int) = _
      rw [upto_other hs hb a1, if_neg a2, if_neg h10, h1, Option.bind_some]
      show (if (0 : Int) = 0 then (if xs.length < 2932031007402 then (levyref4_Upto.l0 n s (xs ++ [(⟨t.f0, (q : Int), t.f2, t.f3, t.f4⟩ : S57)]) true (p' : Int)) else (none)) else _) = _
      rw [if_pos rfl, if_pos (by omega), ← f1]
      exact h2
    | false =>
     have f3 : e3 ≠ 0 := hF.no rfl
     have hN : NXs s p l = (t, false, p', true, e3, e4) := hN
     refine ⟨([], (p', true, e3, e4)), ?_, hskip _ ?_⟩
     ·unfold runG
      rw [hN]
      rfl
     ·refine ⟨K + 2, fun k hk => ?_⟩
      obtain ⟨n, rfl⟩ : ∃ n, k = n + 2 := ⟨k - 2, by omega⟩
      have h1 := hK n (by omega)
      dsimp only at h1
      show levyref4_Upto.l0 (n + 2) s xs l (q : Int) = _
      rw [upto_other hs hb a1, if_neg a2, if_neg h10, h1, Option.bind_some]
      show (if e3 = 0 then _ else (some (xs, e4, e3))) = _
      rw [if_neg f3]
      unfold endR
      rw [List.append_nil]
      show _ = some (xs, (if e3 = 0 then 0 else e4), e3)
      rw [if_neg f3]
end
end Go.Proofs.YtjlclkenfmbahaaGreatDoor.Pure
end
section
namespace Go.Proofs.YtjlclkenfmbahaaGreatDoor.Pure
open Go.RowKit Go.Proofs.YtjlclkenfmbahaaGreatDoorW.PrintWords Go.Proofs.YtjlclkenfmbahaaGreatDoorW.PrintLast Go.Proofs.YtjlclkenfmbahaaGreatDoor.PA
theorem runG_len {NX : Nat → Bool → Nx} (n : Nat) {p : Nat} {l : Bool} {q : List S57 × (Nat × Bool × Int × Int)} (h : runG NX n p l = some q) : q.1.length < n := (runG_gives n p l q h).2
theorem scan_both (s : ByteArray) : ∃ r, words_Scan.f s = some r ∧ Ev (fun k => levyref4_Scan.f k s) r := by
 by_cases h : 8000 < s.size
 ·refine ⟨([], 0, 40), by unfold words_Scan.f; rw [if_pos h], ⟨0, fun k _ => ?_⟩⟩
  show levyref4_Scan.f k s = _
  unfold levyref4_Scan.f levyref4_Upto.f
  rw [if_pos (by omega), Option.bind_some]
  rfl
 ·obtain ⟨q, h1, K, hK⟩ := upto_go (s := s) (by omega) (2 * s.size + 2) 0 false [] (by rw [if_neg (by decide)]; omega) (by omega) (by simp; omega)
  refine ⟨_, by unfold words_Scan.f; rw [if_neg h, h1, Option.bind_some], ⟨K, fun k hk => ?_⟩⟩
  have h2 := hK k hk
  dsimp only at h2
  show levyref4_Scan.f k s = _
  unfold levyref4_Scan.f levyref4_Upto.f
  have h2 : levyref4_Upto.l0 k s [] false 0 = _ := h2
  rw [if_neg (by omega), h2, Option.bind_some]
  unfold endR
  dsimp only
  rw [List.nil_append]
  by_cases h0 : q.2.2.2.1 = 0
  ·rw [if_pos h0, if_pos h0, if_pos h0, h0]
  ·rw [if_neg h0, if_neg h0, if_neg h0]
end Go.Proofs.YtjlclkenfmbahaaGreatDoor.Pure
end
