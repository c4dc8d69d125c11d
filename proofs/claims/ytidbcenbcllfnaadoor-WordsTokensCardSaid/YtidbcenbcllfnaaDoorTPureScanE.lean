/- The document's look at a number and at a word comes to what the scanner says. Conditions: each law's own. -/
import Derived.Test.YtidbcenbcllfnaaDoorTPureScanD
import Derived.Test.YtidbcenbcllfnaaDoorTPAx0
import Derived.Test.YtidbcenbcllfnaaDoorTL
import Derived.Test.YtidbcenbcllfnaaDoorTM
namespace Go.Proofs.YtidbcenbcllfnaaDoor.Pure
open Go.RowKit Go.Proofs.YtidbcenbcllfnaaDoorW.PrintWords Go.Proofs.YtidbcenbcllfnaaDoorW.PrintLast Go.Proofs.YtidbcenbcllfnaaDoor.PA Go.Proofs.YtidbcenbcllfnaaDoor.Days
set_option linter.unusedVariables false

theorem at_nat (s : ByteArray) (i : Nat) (x : UInt8) : atP (fun b => b == x) s i = atP (fun b => b.toNat == x.toNat) s i := by
  unfold atP
  cases (Ls s)[i]? with
  | none => rfl
  | some b =>
    show (b == x) = (b.toNat == x.toNat)
    by_cases h : b = x
    · subst h; simp
    · rw [beq_eq_false_iff_ne.mpr h, beq_eq_false_iff_ne.mpr (fun e => h (UInt8.toNat_inj.mp e))]
theorem run_pos (p : UInt8 → Bool) (s : ByteArray) (i : Nat) : decide (((runP p s i : Nat) : Int) > 0) = atP p s i := by
  cases h : atP p s i with
  | true => exact decide_eq_true (by have := (runP_yes h).1; omega)
  | false => exact decide_eq_false (by have := runP_no h; omega)
theorem ext_size {s : ByteArray} {i n : Nat} (h : i + n ≤ s.size) : (s.extract i (i + n)).size = n := by
  rw [ByteArray.size_extract]; omega
theorem ext_first {s : ByteArray} {i n : Nat} (h : i < s.size) (hn : 0 < n) : bt (s.extract i (i + n)) 0 = bt s (i : Int) := by
  obtain ⟨b, hb⟩ := byte_some s h
  have h2 : (Ls (s.extract i (i + n)))[0]? = some b := by
    show (s.extract i (i + n)).data.toList[0]? = _
    rw [ByteArray.data_extract, Array.toList_extract, List.extract_eq_take_drop, Nat.add_sub_cancel_left]
    obtain ⟨hl, e⟩ := List.getElem?_eq_some_iff.1 hb
    rw [List.drop_eq_getElem_cons hl, e]
    obtain ⟨m, rfl⟩ : ∃ m, n = m + 1 := ⟨n - 1, by omega⟩
    rfl
  have h3 := (bt_of _ h2).1
  rw [(bt_of s hb).1]
  exact h3
section
variable {s : ByteArray} {p : Nat} (hs : s.size ≤ 8000)
include hs
theorem num_a (hp : p ≤ s.size) : ∃ K, ∀ k, K ≤ k → levyref4_number.f k s (p : Int) = levyref4_number.j0 k s (p : Int) (s.extract p (p + runP isDg s p)) ((p + runP isDg s p : Nat) : Int) (ptB s (p + runP isDg s p)) := by
  have hle := runP_le isDg s p hp
  obtain ⟨K, hK⟩ := run1_p s hs p (by omega)
  generalize hq : p + runP isDg s p = q at *
  obtain ⟨K2, hK2⟩ := run1_p s hs (q + 1) (by omega)
  refine ⟨K + K2, fun k hk => ?_⟩
  have h1 := hK k (by omega)
  have h2 := hK2 k (by omega)
  dsimp only at h1 h2
  unfold levyref4_number.f
  have e1 : wrap64 ((p : Int) + ((runP isDg s p : Nat) : Int)) = (q : Int) := by rw [wrI (by omega) (by omega)]; omega
  have e2 : wrap64 ((q : Int) + 1) = ((q + 1 : Nat) : Int) := by rw [wrI (by omega) (by omega)]; omega
  rw [h1, Option.bind_some, e1, e2, h2, Option.bind_some, is1_r s hs q (by omega), Option.bind_some, run_pos, Int.toNat_natCast, Int.toNat_natCast, at_nat]
  clear e1 e2 h1 h2
  rw [if_pos (by omega), if_pos (by omega), if_pos (by omega)]
  unfold ptB
  have e46 : (46 : UInt8).toNat = 46 := rfl
  rw [e46]
  cases atP (fun b => b.toNat == 46) s q with
  | true => rw [if_pos rfl, Bool.true_and]
  | false => rw [if_neg (by decide), Bool.false_and]
theorem num_b {q : Nat} (hq : q ≤ s.size) (a : ByteArray) : ∃ K, ∀ k, K ≤ k → levyref4_number.j0 (k + 1) s (p : Int) a (q : Int) (ptB s q) = levyref4_number.j1 k s (p : Int) a ((mB s q : Nat) : Int) (ptB s q) (partB s q) := by
  obtain ⟨K2, hK2⟩ := run1_p s hs (q + 1) (by omega)
  refine ⟨K2, fun k hk => ?_⟩
  have h2 := hK2 k (by omega)
  dsimp only at h2
  simp only [levyref4_number.j0]
  unfold mB partB
  cases hpt : ptB s q with
  | true =>
    have hd : atP isDg s (q + 1) = true := by unfold ptB at hpt; exact ((Bool.and_eq_true _ _).mp hpt).2
    have hlt := (runP_yes hd).2
    have hle := runP_le isDg s (q + 1) (by omega)
    have e2 : wrap64 ((q : Int) + 1) = ((q + 1 : Nat) : Int) := by rw [wrI (by omega) (by omega)]; omega
    have e3 : wrap64 (((q + 1 : Nat) : Int) + ((runP isDg s (q + 1) : Nat) : Int)) = ((q + 1 + runP isDg s (q + 1) : Nat) : Int) := by rw [wrI (by omega) (by omega)]; omega
    rw [if_pos rfl, e2, h2, Option.bind_some, e3, Int.toNat_natCast, Int.toNat_natCast, if_pos rfl, if_pos rfl]
    clear e2 e3 h2
    rw [if_pos (by omega), if_pos (by omega), if_pos (by omega)]
  | false => rw [if_neg (by decide), if_neg (by decide), if_neg (by decide)]
theorem num_c {m : Nat} (hm : m ≤ s.size) (a b : ByteArray) (pt : Bool) (k : Nat) : levyref4_number.j1 (k + 1) s (p : Int) a (m : Int) pt b = levyref4_number.j2 k s (p : Int) a ((m2B s m : Nat) : Int) pt b (pcB s m) := by
  simp only [levyref4_number.j1]
  rw [is1_r s hs m (by omega), Option.bind_some, at_nat]
  unfold m2B pcB
  have e37 : (37 : UInt8).toNat = 37 := rfl
  rw [e37]
  have e2 : wrap64 ((m : Int) + 1) = ((m + 1 : Nat) : Int) := by rw [wrI (by omega) (by omega)]; omega
  rw [e2]
  clear e2
  cases atP (fun b => b.toNat == 37) s m with
  | true => rw [if_pos rfl, if_pos rfl]
  | false => rw [if_neg (by decide), if_neg (by decide)]
omit hs in
theorem num_d (m : Nat) (a b : ByteArray) (pt pc : Bool) (k : Nat) : levyref4_number.j2 (k + 1) s (p : Int) a (m : Int) pt b pc = levyref4_number.j3 k (p : Int) a (m : Int) pt b pc (atP isLu s m) := by
  simp only [levyref4_number.j2]
  by_cases h : m < s.size
  · obtain ⟨c, hc⟩ := byte_some s h
    have ea : atP isLu s m = (isLt c || c.toNat == 95) := by unfold atP isLu; rw [hc]
    rw [if_pos (by omega), if_pos (by omega), (bt_of s hc).1, letter_r, Option.bind_some, ea, word95_r]
    cases isLt c with
    | true => rw [if_pos rfl, Bool.true_or]
    | false => rw [if_neg (by decide), Bool.false_or]
  · rw [if_neg (by omega)]
    have ea : atP isLu s m = false := by unfold atP; rw [byte_none s h]
    rw [ea]
theorem number_r4 (hd : atP isDg s p = true) : Ev (fun k => levyref4_number.f k s (p : Int)) (rfOf (numR s p 0 0)) := by
  obtain ⟨hrun, hp⟩ := runP_yes hd
  have hle := runP_le isDg s p (by omega)
  have hm := mB_le hle
  have hdig := run_digits s p (by omega)
  have hsz := ext_size hle
  have hf := ext_first (s := s) (i := p) (n := runP isDg s p) hp (by omega)
  obtain ⟨K1, h1⟩ := num_a hs (p := p) (by omega)
  generalize hq : p + runP isDg s p = q at *
  obtain ⟨K2, h2⟩ := num_b (p := p) hs hle (s.extract p q)
  have hpart : (∀ x ∈ Ls (partB s q), isDg x = true) ∧ ptB s q = decide (0 < (Ls (partB s q)).length) ∧ (partB s q).size + q ≤ s.size := by
    unfold partB
    cases hpt : ptB s q with
    | true =>
      have hd : atP isDg s (q + 1) = true := by unfold ptB at hpt; exact ((Bool.and_eq_true _ _).mp hpt).2
      have hy := runP_yes hd
      have hle2 := runP_le isDg s (q + 1) (by omega)
      have hx := ext_size hle2
      rw [if_pos rfl]
      refine ⟨run_digits s (q + 1) (by omega), (decide_eq_true ?_).symm, by omega⟩
      rw [Ls_len, hx]
      omega
    | false =>
      rw [if_neg (by decide)]
      refine ⟨?_, rfl, ?_⟩
      · intro x hx
        exact absurd hx (List.not_mem_nil (a := x))
      · show 0 + q ≤ _
        omega
  obtain ⟨r, ⟨K3, h3⟩, hS⟩ := numbered_p (Ls (s.extract p q)) (Ls (partB s q)) (ptB s q) (pcB s (mB s q)) hdig (by rw [Ls_len]; omega) hpart.1 hpart.2.1 (by rw [Ls_len, Ls_len]; have := hpart.2.2; omega)
  rw [bA_Ls, bA_Ls] at h3
  rw [bA_Ls, Ls_len, hsz, hf] at hS
  refine ⟨K1 + K2 + K3 + 5, fun k hk => ?_⟩
  obtain ⟨n, rfl⟩ : ∃ n, k = n + 4 := ⟨k - 4, by omega⟩
  have h3 := h3 n (by omega)
  dsimp only at h3
  show levyref4_number.f (n + 4) s (p : Int) = _
  rw [h1 (n + 4) (by omega), h2 (n + 3) (by omega), num_c hs hm, num_d]
  simp only [levyref4_number.j3]
  unfold numR resR
  dsimp only
  rw [hq]
  by_cases hlu : atP isLu s (m2B s (mB s q)) = true
  · rw [if_pos hlu, if_pos hlu]
    rfl
  · rw [if_neg hlu, if_neg hlu, h3, Option.bind_some]
    unfold piecesR at hS
    generalize (if 1 < runP isDg s p ∧ bt s (p : Int) = 48 then ((⟨0, 0, ⟨#[]⟩, 0, 0⟩ : S33), false) else if pcB s (mB s q) = true then ratioR (Ls (s.extract p q)) (Ls (partB s q)) else if ptB s q = true then amountR (Ls (s.extract p q)) (Ls (partB s q)) else countR (Ls (s.extract p q))) = R at hS ⊢
    obtain ⟨s1, s2⟩ := hS
    cases hR : R.2 with
    | true =>
      rw [s2 hR]
      rfl
    | false =>
      rw [s1, hR]
      rfl
/-- The word at a place: the document's look and the scanner's say the same. -/
theorem word_p {c : UInt8} (hc : (Ls s)[p]? = some c) : Ev (fun k => levyref4_word.f k s (p : Int)) (rfOf (wordR s p c 0 0)) := by
  obtain ⟨hbt, hp⟩ := bt_of s hc
  have head : ∀ k, levyref4_word.f k s (p : Int) = if isLt c = true then ((levyref4_run.f k s (p : Int) 2).bind fun t147 => (if t147 > 12 then (some (0, 0, (⟨#[]⟩ : ByteArray), 0, 0, (p : Int), 40)) else (if (p : Int) ≤ (wrap64 ((p : Int) + t147)) then (if (wrap64 ((p : Int) + t147)) ≤ (s.size : Int) then (some (1, 0, s.extract (p : Int).toNat ((wrap64 ((p : Int) + t147)) : Int).toNat, 0, 0, wrap64 ((p : Int) + t147), 0)) else (none)) else (none)))) else (if isDg c = true then ((levyref4_dateAt.f k s (p : Int)).bind fun t149 => (levyref4_word.j0 k s (p : Int) t149)) else (levyref4_word.j0 k s (p : Int) false)) := fun k => by
    unfold levyref4_word.f
    rw [if_pos (by omega), if_pos (by omega), hbt, letter_r, Option.bind_some, digit_r, Option.bind_some]
  have hj : ∀ k, levyref4_word.j0 (k + 1) s (p : Int) false = if isDg c = true then (levyref4_number.f k s (p : Int)).bind some else if (c.toNat : Int) = 34 then (levyref4_text.f k s (p : Int)).bind some else levyref4_word.l0 k s (p : Int) 0 := fun k => by
    simp only [levyref4_word.j0]
    rw [if_neg (by decide), if_pos (by omega), if_pos (by omega), hbt, digit_r, Option.bind_some]
  unfold wordR
  by_cases hL : isLt c = true
  · rw [if_pos hL]
    obtain ⟨K, hK⟩ := run2_p s hs p (by omega)
    refine ⟨K, fun k hk => ?_⟩
    have h := hK k hk
    dsimp only at h
    show levyref4_word.f k s (p : Int) = _
    have hle := runP_le isWd s p (by omega)
    have e1 : wrap64 ((p : Int) + ((runP isWd s p : Nat) : Int)) = ((p + runP isWd s p : Nat) : Int) := by rw [wrI (by omega) (by omega)]; omega
    rw [head, if_pos hL, h, Option.bind_some, e1, Int.toNat_natCast, Int.toNat_natCast]
    clear e1 h
    unfold nameR
    by_cases h12 : runP isWd s p ≤ 12
    · rw [if_neg (by omega), if_pos (by omega), if_pos (by omega), if_pos h12]
      rfl
    · rw [if_pos (by omega), if_neg h12]
      rfl
  rw [if_neg hL]
  by_cases hD : isDg c = true
  · rw [if_pos hD]
    have hdp : atP isDg s p = true := by unfold atP; rw [hc]; exact hD
    obtain ⟨K, hK⟩ := dateAt_p s hs p (by omega)
    unfold numberR
    by_cases hdt : datedB s p = true
    · rw [if_pos hdt]
      obtain ⟨K2, hK2⟩ := dated_p s hs p hdt
      refine ⟨K + K2 + 1, fun k hk => ?_⟩
      obtain ⟨n, rfl⟩ : ∃ n, k = n + 1 := ⟨k - 1, by omega⟩
      have h := hK (n + 1) (by omega)
      have h2 := hK2 n (by omega)
      dsimp only at h h2
      show levyref4_word.f (n + 1) s (p : Int) = _
      rw [head, if_neg hL, if_pos hD, h, Option.bind_some, hdt]
      simp only [levyref4_word.j0]
      rw [if_pos trivial, h2, Option.bind_some]
    · rw [if_neg hdt]
      obtain ⟨K2, hK2⟩ := number_r4 hs hdp
      refine ⟨K + K2 + 1, fun k hk => ?_⟩
      obtain ⟨n, rfl⟩ : ∃ n, k = n + 1 := ⟨k - 1, by omega⟩
      have h := hK (n + 1) (by omega)
      have h2 := hK2 n (by omega)
      dsimp only at h h2
      have hdf : datedB s p = false := by cases h9 : datedB s p with | true => exact absurd h9 hdt | false => rfl
      show levyref4_word.f (n + 1) s (p : Int) = _
      rw [head, if_neg hL, if_pos hD, h, Option.bind_some, hdf, hj, if_pos hD, h2, Option.bind_some]
  rw [if_neg hD]
  by_cases hQ : (c.toNat : Int) = 34
  · rw [if_pos hQ]
    obtain ⟨K2, hK2⟩ := text_p s hs p hp
    refine ⟨K2 + 1, fun k hk => ?_⟩
    obtain ⟨n, rfl⟩ : ∃ n, k = n + 1 := ⟨k - 1, by omega⟩
    have h2 := hK2 n (by omega)
    dsimp only at h2
    show levyref4_word.f (n + 1) s (p : Int) = _
    rw [head, if_neg hL, if_neg hD, hj, if_neg hD, if_pos hQ, h2, Option.bind_some]
  · rw [if_neg hQ]
    obtain ⟨K2, hK2⟩ := signs_p s hs p c hc
    refine ⟨K2 + 1, fun k hk => ?_⟩
    obtain ⟨n, rfl⟩ : ∃ n, k = n + 1 := ⟨k - 1, by omega⟩
    have h2 := hK2 n (by omega)
    dsimp only at h2
    show levyref4_word.f (n + 1) s (p : Int) = _
    rw [head, if_neg hL, if_neg hD, hj, if_neg hD, if_neg hQ, h2]
    unfold sgnR
    split <;> rfl
end
end Go.Proofs.YtidbcenbcllfnaaDoor.Pure
