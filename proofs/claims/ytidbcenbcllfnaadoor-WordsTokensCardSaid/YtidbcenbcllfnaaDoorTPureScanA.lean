/- The document's small functions on words in plain words: bytes' classes, runs, pieces, wholes, common. Conditions: each law's own. -/
import Derived.Test.YtidbcenbcllfnaaDoorTScScan
import Derived.Test.YtidbcenbcllfnaaDoorTPAx0
import Derived.Test.YtidbcenbcllfnaaDoorTL
namespace Go.Proofs.YtidbcenbcllfnaaDoor.Pure
open Go.RowKit Go.Proofs.YtidbcenbcllfnaaDoorW.PrintWords Go.Proofs.YtidbcenbcllfnaaDoorW.PrintLast Go.Proofs.YtidbcenbcllfnaaDoor.PA
set_option linter.unusedVariables false

theorem letter_r (b : UInt8) : levyref4_isLetter.f (b.toNat : Int) = some (isLt b) := by
  unfold levyref4_isLetter.f isLt
  by_cases h : 97 ≤ b.toNat
  · rw [if_pos (by omega), decide_eq_true h, Bool.true_and]
    congr 1
    by_cases h2 : b.toNat ≤ 122
    · rw [decide_eq_true h2, decide_eq_true (by omega)]
    · rw [decide_eq_false h2, decide_eq_false (by omega)]
  · rw [if_neg (by omega), decide_eq_false h, Bool.false_and]
theorem digit_r (b : UInt8) : levyref4_isDigit.f (b.toNat : Int) = some (isDg b) := by
  unfold levyref4_isDigit.f isDg
  by_cases h : 48 ≤ b.toNat
  · rw [if_pos (by omega), decide_eq_true h, Bool.true_and]
    congr 1
    by_cases h2 : b.toNat ≤ 57
    · rw [decide_eq_true h2, decide_eq_true (by omega)]
    · rw [decide_eq_false h2, decide_eq_false (by omega)]
  · rw [if_neg (by omega), decide_eq_false h, Bool.false_and]
theorem word95_r (b : UInt8) : ((b.toNat : Int) == 95) = (b.toNat == 95) := by
  by_cases h : b.toNat = 95
  · rw [h]; rfl
  · rw [beq_eq_false_iff_ne.mpr h, beq_eq_false_iff_ne.mpr (by omega)]
theorem wordb_r (b : UInt8) : levyref4_isWord.f (b.toNat : Int) = some (isWd b) := by
  unfold levyref4_isWord.f isWd
  rw [letter_r, Option.bind_some, digit_r, Option.bind_some, word95_r]
  cases isLt b <;> cases isDg b <;> rfl

/-- The runs of digits. -/
theorem run1_r (s : ByteArray) (hs : s.size ≤ 8000) (p : Nat) (hp : p ≤ 8001) (d : Nat) : ∀ n, runP isDg s (p + n) = d → n ≤ 8001 → Ev (fun k => levyref4_run.l0 k s (p : Int) 1 (n : Int)) ((n + d : Nat) : Int) := by
  induction d with
  | zero =>
    intro n hn hn2
    refine ⟨1, fun k hk => ?_⟩
    obtain ⟨q, rfl⟩ : ∃ q, k = q + 1 := ⟨k - 1, by omega⟩
    show levyref4_run.l0 (q + 1) s (p : Int) 1 (n : Int) = _
    unfold levyref4_run.l0
    have e1 : wrap64 ((p : Int) + (n : Int)) = ((p + n : Nat) : Int) := by rw [wrI (by omega) (by omega)]; omega
    rw [e1]
    clear e1
    by_cases hlt : p + n < s.size
    · obtain ⟨b, hb⟩ := byte_some s hlt
      have hd : isDg b = false := by
        cases h : isDg b with
        | false => rfl
        | true => have := (runP_yes (p := isDg) (s := s) (i := p + n) (by unfold atP; rw [hb]; exact h)).1; omega
      rw [if_pos (by omega), if_pos rfl, if_pos (by omega), (bt_of s hb).1, digit_r, Option.bind_some, hd, if_neg (by simp), if_neg (by decide)]
      rfl
    · rw [if_neg (by omega)]
      rfl
  | succ d ih =>
    intro n hn hn2
    have hy : atP isDg s (p + n) = true := by
      cases h : atP isDg s (p + n) with
      | true => rfl
      | false => rw [runP_no h] at hn; omega
    obtain ⟨hr, hlt⟩ := runP_yes hy
    obtain ⟨b, hb⟩ := byte_some s hlt
    have hd : isDg b = true := by unfold atP at hy; rw [hb] at hy; exact hy
    obtain ⟨K, hK⟩ := ih (n + 1) (by rw [← Nat.add_assoc]; omega) (by omega)
    refine ⟨K + 1, fun k hk => ?_⟩
    obtain ⟨q, rfl⟩ : ∃ q, k = q + 1 := ⟨k - 1, by omega⟩
    have hq := hK q (by omega)
    dsimp only at hq
    show levyref4_run.l0 (q + 1) s (p : Int) 1 (n : Int) = _
    unfold levyref4_run.l0
    have e1 : wrap64 ((p : Int) + (n : Int)) = ((p + n : Nat) : Int) := by rw [wrI (by omega) (by omega)]; omega
    have e2 : wrap64 ((n : Int) + 1) = ((n + 1 : Nat) : Int) := by rw [wrI (by omega) (by omega)]; omega
    rw [e1, e2, hq]
    clear e1 e2 hq
    rw [if_pos (by omega), if_pos rfl, if_pos (by omega), (bt_of s hb).1, digit_r, Option.bind_some, hd, if_pos rfl]
    congr 2
    omega
theorem run1_p (s : ByteArray) (hs : s.size ≤ 8000) (p : Nat) (hp : p ≤ 8001) : Ev (fun k => levyref4_run.f k s (p : Int) 1) ((runP isDg s p : Nat) : Int) := by
  have h := run1_r s hs p hp (runP isDg s p) 0 rfl (by omega)
  rw [Nat.zero_add] at h
  exact h
/-- The runs of what stands in names. -/
theorem run2_r (s : ByteArray) (hs : s.size ≤ 8000) (p : Nat) (hp : p ≤ 8001) (d : Nat) : ∀ n, runP isWd s (p + n) = d → n ≤ 8001 → Ev (fun k => levyref4_run.l0 k s (p : Int) 2 (n : Int)) ((n + d : Nat) : Int) := by
  induction d with
  | zero =>
    intro n hn hn2
    refine ⟨1, fun k hk => ?_⟩
    obtain ⟨q, rfl⟩ : ∃ q, k = q + 1 := ⟨k - 1, by omega⟩
    show levyref4_run.l0 (q + 1) s (p : Int) 2 (n : Int) = _
    unfold levyref4_run.l0
    have e1 : wrap64 ((p : Int) + (n : Int)) = ((p + n : Nat) : Int) := by rw [wrI (by omega) (by omega)]; omega
    rw [e1]
    clear e1
    by_cases hlt : p + n < s.size
    · obtain ⟨b, hb⟩ := byte_some s hlt
      have hd : isWd b = false := by
        cases h : isWd b with
        | false => rfl
        | true => have := (runP_yes (p := isWd) (s := s) (i := p + n) (by unfold atP; rw [hb]; exact h)).1; omega
      rw [if_pos (by omega), if_neg (by decide), if_pos rfl, if_pos (by omega), (bt_of s hb).1, wordb_r, Option.bind_some, hd, if_neg (by simp)]
      rfl
    · rw [if_neg (by omega)]
      rfl
  | succ d ih =>
    intro n hn hn2
    have hy : atP isWd s (p + n) = true := by
      cases h : atP isWd s (p + n) with
      | true => rfl
      | false => rw [runP_no h] at hn; omega
    obtain ⟨hr, hlt⟩ := runP_yes hy
    obtain ⟨b, hb⟩ := byte_some s hlt
    have hd : isWd b = true := by unfold atP at hy; rw [hb] at hy; exact hy
    obtain ⟨K, hK⟩ := ih (n + 1) (by rw [← Nat.add_assoc]; omega) (by omega)
    refine ⟨K + 1, fun k hk => ?_⟩
    obtain ⟨q, rfl⟩ : ∃ q, k = q + 1 := ⟨k - 1, by omega⟩
    have hq := hK q (by omega)
    dsimp only at hq
    show levyref4_run.l0 (q + 1) s (p : Int) 2 (n : Int) = _
    unfold levyref4_run.l0
    have e1 : wrap64 ((p : Int) + (n : Int)) = ((p + n : Nat) : Int) := by rw [wrI (by omega) (by omega)]; omega
    have e2 : wrap64 ((n : Int) + 1) = ((n + 1 : Nat) : Int) := by rw [wrI (by omega) (by omega)]; omega
    rw [e1, e2, hq]
    clear e1 e2 hq
    rw [if_pos (by omega), if_neg (by decide), if_pos rfl, if_pos (by omega), (bt_of s hb).1, wordb_r, Option.bind_some, hd, if_pos rfl]
    congr 2
    omega
theorem run2_p (s : ByteArray) (hs : s.size ≤ 8000) (p : Nat) (hp : p ≤ 8001) : Ev (fun k => levyref4_run.f k s (p : Int) 2) ((runP isWd s p : Nat) : Int) := by
  have h := run2_r s hs p hp (runP isWd s p) 0 rfl (by omega)
  rw [Nat.zero_add] at h
  exact h

/-- The piece between two places, as bytes. -/
theorem ext_bytes (s : ByteArray) (i j : Nat) : (s.extract i j).toList = ((Ls s).drop i).take (j - i) := by
  rw [Go.Lib.toList_data, ByteArray.data_extract, Array.toList_extract, List.extract_eq_take_drop]
theorem is1_r (s : ByteArray) (hs : s.size ≤ 8000) (i : Nat) (hi : i ≤ 8001) (x : UInt8) : levyref4_is.f s (i : Int) ⟨#[x]⟩ = some (atP (fun b => b == x) s i) := by
  unfold levyref4_is.f
  have e1 : wrap64 ((i : Int) + ((⟨#[x]⟩ : ByteArray).size : Int)) = ((i + 1 : Nat) : Int) := by rw [show ((⟨#[x]⟩ : ByteArray).size : Int) = 1 from rfl, wrI (by omega) (by omega)]; omega
  rw [e1]
  clear e1
  unfold atP
  by_cases hlt : i < s.size
  · obtain ⟨b, hb⟩ := byte_some s hlt
    rw [if_pos (by omega), if_pos (by omega), if_pos (by omega), Int.toNat_natCast, Int.toNat_natCast, ext_bytes, Nat.add_sub_cancel_left, hb]
    obtain ⟨hl, e⟩ := List.getElem?_eq_some_iff.1 hb
    rw [List.drop_eq_getElem_cons hl, e, show (⟨#[x]⟩ : ByteArray).toList = [x] by rw [Go.Lib.toList_data]]
    simp
  · rw [if_neg (by omega), byte_none s hlt]
end Go.Proofs.YtidbcenbcllfnaaDoor.Pure
