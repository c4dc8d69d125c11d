/- What 'named', 'signed', 'Quote' say, in plain words. No condition. -/
import Derived.Test.YtgcgpeeokdnplaaDoorBScBase
import Derived.Test.YtgcgpeeokdnplaaDoorBWQuoteP
import Derived.Test.YtgcgpeeokdnplaaDoorBPAx0
import Derived.Test.YtgcgpeeokdnplaaDoorBL
namespace Go.Proofs.YtgcgpeeokdnplaaDoor.PA
open Go.RowKit Go.Lib Go.Proofs.YtgcgpeeokdnplaaDoorW.PrintWords Go.Proofs.YtgcgpeeokdnplaaDoorW.PrintLast Go.Proofs.YtgcgpeeokdnplaaDoorW.PrintMore Go.Proofs.YtgcgpeeokdnplaaDoor.Dig
open Go.Proofs.YtgcgpeeokdnplaaDoor.Pure (numsB qs wquote_loop)
set_option linter.unusedVariables false
theorem toList_loop (s : ByteArray) (d : Nat) : ∀ (i : Nat) (r : List UInt8), s.size = i + d → ByteArray.toList.loop s i r = r.reverse ++ (Ls s).drop i := by
  induction d with
  | zero =>
    intro i r h
    unfold ByteArray.toList.loop
    rw [if_neg (by omega), List.drop_of_length_le (by rw [Ls_len]; omega), List.append_nil]
  | succ d ih =>
    intro i r h
    unfold ByteArray.toList.loop
    obtain ⟨b, hb⟩ := byte_some s (i := i) (by omega)
    obtain ⟨hl, e⟩ := List.getElem?_eq_some_iff.1 hb
    have hg : s.get! i = b := by
      have : s.data[i]! = b := by
        rw [getElem!_pos s.data i (by rw [← Array.length_toList]; exact hl)]
        simpa using e
      exact this
    rw [if_pos (by omega), ih (i + 1) _ (by omega), hg, List.reverse_cons, List.append_assoc, List.drop_eq_getElem_cons hl, e]
    rfl
theorem toList_Ls (s : ByteArray) : s.toList = Ls s := by
  show ByteArray.toList.loop s 0 [] = _
  rw [toList_loop s s.size 0 [] (by omega)]
  rfl
theorem Ls_inj {a b : ByteArray} (h : Ls a = Ls b) : a = b := ByteArray.ext (Array.toList_inj.mp h)
theorem toList_isEmpty (a : ByteArray) : a.toList.isEmpty = decide (a = ⟨#[]⟩) := by
  rw [toList_Ls]
  by_cases h : a = ⟨#[]⟩
  · subst h; simp [Ls]
  · rw [decide_eq_false h]
    cases e : Ls a with
    | nil => exact absurd (Ls_inj (e.trans rfl)) h
    | cons x l => rfl
theorem wrN {x : Int} (h1 : -9223372036854775808 ≤ x) (h2 : x ≤ 9223372036854775807) : wrap64 x = x := by unfold wrap64; omega
def namedB (s : ByteArray) : Bool := (Ls s).all isWd && (decide (1 ≤ s.size) && (decide (s.size ≤ 12) && atP isLt s 0))
theorem bits7 (b : UInt8) : (Go.bits .and .u8 (ofN b.toNat) 7 = 0) ↔ isWd b = false := by
  rw [← cls_7]
  unfold clsN
  exact (bne_eq_false_iff_eq).symm
theorem named_loop (s : ByteArray) (hs : s.size ≤ 9223372036854775807) (d : Nat) : ∀ i, s.size = i + d → ((Ls s).take i).all isWd = true → Ev (fun k => words_named.l0 k s (s.size : Int) (i : Int)) (namedB s) := by
  induction d with
  | zero =>
    intro i hi ha
    refine ⟨1, fun k hk => ?_⟩
    obtain ⟨n, rfl⟩ : ∃ n, k = n + 1 := ⟨k - 1, by omega⟩
    show words_named.l0 (n + 1) s (s.size : Int) (i : Int) = _
    simp only [words_named.l0]
    rw [if_neg (by omega)]
    rw [List.take_of_length_le (by rw [Ls_len]; omega)] at ha
    unfold namedB
    rw [ha, Bool.true_and]
    by_cases h1 : 1 ≤ s.size
    · rw [if_pos (by omega), decide_eq_true h1, Bool.true_and]
      by_cases h12 : s.size ≤ 12
      · obtain ⟨b, hb⟩ := byte_some s (i := 0) (by omega)
        have e0 : bt s 0 = (b.toNat : Int) := (bt_of s hb).1
        rw [if_pos (by omega), decide_eq_true h12, Bool.true_and, if_pos (by omega), e0, of_eval b.toNat_lt, Option.bind_some]
        unfold atP
        rw [hb]
        show some (clsN 1 b.toNat) = _
        rw [cls_1]
      · rw [if_neg (by omega), decide_eq_false h12, Bool.false_and]
    · rw [if_neg (by omega), decide_eq_false h1, Bool.false_and]
  | succ d ih =>
    intro i hi ha
    obtain ⟨b, hb⟩ := byte_some s (i := i) (by omega)
    have e0 : bt s (i : Int) = (b.toNat : Int) := (bt_of s hb).1
    have e1 : wrap64 ((i : Int) + 1) = ((i + 1 : Nat) : Int) := by rw [wrN (by omega) (by omega)]; omega
    have htk : (Ls s).take (i + 1) = (Ls s).take i ++ [b] := by rw [List.take_add_one, hb]; rfl
    cases hw : isWd b with
    | true =>
      obtain ⟨K, hK⟩ := ih (i + 1) (by omega) (by rw [htk, List.all_append, ha]; simp [hw])
      refine ⟨K + 1, fun k hk => ?_⟩
      obtain ⟨n, rfl⟩ : ∃ n, k = n + 1 := ⟨k - 1, by omega⟩
      have h := hK n (by omega)
      dsimp only at h
      show words_named.l0 (n + 1) s (s.size : Int) (i : Int) = _
      simp only [words_named.l0]
      rw [e1, h]
      clear e1
      rw [if_pos (by omega), if_pos (by omega), if_pos (by omega), e0, of_eval b.toNat_lt, Option.bind_some, if_neg (fun h7 => by rw [(bits7 b).1 h7] at hw; cases hw)]
    | false =>
      refine ⟨1, fun k hk => ?_⟩
      obtain ⟨n, rfl⟩ : ∃ n, k = n + 1 := ⟨k - 1, by omega⟩
      show words_named.l0 (n + 1) s (s.size : Int) (i : Int) = _
      simp only [words_named.l0]
      clear e1
      rw [if_pos (by omega), if_pos (by omega), if_pos (by omega), e0, of_eval b.toNat_lt, Option.bind_some, if_pos ((bits7 b).2 hw)]
      unfold namedB
      have : (Ls s).all isWd = false := by
        rw [Bool.eq_false_iff]
        intro h
        rw [List.all_eq_true.1 h b (List.mem_of_getElem? hb)] at hw
        cases hw
      rw [this, Bool.false_and]
theorem named_p (s : ByteArray) (hs : s.size ≤ 9223372036854775807) : Ev (fun k => words_named.f k s) (namedB s) := named_loop s hs s.size 0 (by omega) (by rw [List.take_zero]; rfl)
def signedB (s : ByteArray) : Bool := decide (s.toList = [33, 61]) || (decide (s.toList = [60, 61]) || (decide (s.toList = [62, 61]) || (decide (s.size = 1) && (!decide (s.toList = [33]) && atP isSg s 0))))
theorem signed_p (s : ByteArray) : words_signed.f s = some (signedB s) := by
  unfold words_signed.f signedB
  by_cases h1 : s.toList = [33, 61]
  · rw [if_pos h1, decide_eq_true h1, Bool.true_or]
  rw [if_neg h1, decide_eq_false h1, Bool.false_or]
  by_cases h2 : s.toList = [60, 61]
  · rw [if_pos h2, decide_eq_true h2, Bool.true_or]
  rw [if_neg h2, decide_eq_false h2, Bool.false_or]
  by_cases h3 : s.toList = [62, 61]
  · rw [if_pos h3, decide_eq_true h3, Bool.true_or]
  rw [if_neg h3, decide_eq_false h3, Bool.false_or]
  by_cases h4 : s.size = 1
  · rw [if_pos (by omega), decide_eq_true h4, Bool.true_and]
    by_cases h5 : s.toList = [33]
    · rw [if_pos h5, decide_eq_true h5]
      rfl
    · obtain ⟨b, hb⟩ := byte_some s (i := 0) (by omega)
      have e0 : bt s 0 = (b.toNat : Int) := (bt_of s hb).1
      rw [if_neg h5, decide_eq_false h5, if_pos (by omega), e0, of_eval b.toNat_lt, Option.bind_some]
      unfold atP
      rw [hb]
      show some (clsN 8 b.toNat) = _
      rw [cls_8]
      rfl
  · rw [if_neg (by omega), decide_eq_false h4, Bool.false_and]
def quoteT (s : ByteArray) : ByteArray × Bool := if 40 < s.size then ((⟨#[]⟩ : ByteArray), false) else qs (Ls s) [34]
theorem quote_p (s : ByteArray) : Ev (fun k => words_Quote.f k s) (quoteT s) := by
  unfold quoteT
  by_cases h : 40 < s.size
  · rw [if_pos h]
    exact ⟨0, fun k _ => by show words_Quote.f k s = _; unfold words_Quote.f; rw [if_pos (by omega)]⟩
  · rw [if_neg h]
    have h2 := wquote_loop s (by omega) s.size 0 [34] (by rw [Array.length_toList]; show s.size = _; omega) (by simp; omega)
    refine Ev.congr (fun k => ?_) h2
    show words_Quote.f k s = _
    unfold words_Quote.f
    rw [if_neg (by omega)]
    rfl
end Go.Proofs.YtgcgpeeokdnplaaDoor.PA
