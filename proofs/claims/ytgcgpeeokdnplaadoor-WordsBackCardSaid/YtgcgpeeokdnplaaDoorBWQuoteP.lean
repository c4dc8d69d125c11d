/- Quote: the program's and the document's quoted texts are the same. Conditions: each law's own. -/
import Derived.Test.YtgcgpeeokdnplaaDoorBWEvalP
import Derived.Test.YtgcgpeeokdnplaaDoorBPAx0
import Derived.Test.YtgcgpeeokdnplaaDoorBL
namespace Go.Proofs.YtgcgpeeokdnplaaDoor.Pure
open Go.RowKit Go.Lib Go.Proofs.YtgcgpeeokdnplaaDoorW.PrintWords Go.Proofs.YtgcgpeeokdnplaaDoorW.PrintLast Go.Proofs.YtgcgpeeokdnplaaDoor.PA Go.Proofs.YtgcgpeeokdnplaaDoor.Dig
set_option linter.unusedVariables false

/-- A byte as it stands between the quotes. -/
def esc (b : UInt8) : List UInt8 := if b.toNat = 34 ∨ b.toNat = 92 then [92, b] else [b]
/-- What is quoted of the rest, behind what stands. -/
def qs : List UInt8 → List UInt8 → ByteArray × Bool
  | [], acc => (B (acc ++ [34]), true)
  | b :: r, acc => if b.toNat < 32 ∨ 126 < b.toNat then ((⟨#[]⟩ : ByteArray), false) else qs r (acc ++ esc b)

theorem bt_eq (s : ByteArray) {i : Nat} {b : UInt8} (h : s.data.toList[i]? = some b) : bt s (i : Int) = (b.toNat : Int) ∧ i < s.size := by
  have hi : i < s.data.toList.length := (List.getElem?_eq_some_iff.1 h).1
  have hs : i < s.size := by rw [Array.length_toList] at hi; exact hi
  refine ⟨?_, hs⟩
  unfold bt
  rw [Int.toNat_natCast, dif_pos hs]
  obtain ⟨_, hb⟩ := List.getElem?_eq_some_iff.1 h
  have : s[i]'hs = b := by rw [← hb]; simp [ByteArray.getElem_eq_getElem_data]
  rw [this]

theorem numsB_append (a b : List UInt8) : numsB (a ++ b) = numsB a ++ numsB b := by simp [numsB]
theorem numsB_len (a : List UInt8) : (numsB a).length = a.length := by simp [numsB]

theorem wquote_loop (s : ByteArray) (hs : s.size ≤ 40) (d : Nat) : ∀ (i : Nat) (acc : List UInt8), s.data.toList.length = i + d → acc.length + 2 * d ≤ 100 →
    Ev (fun k => words_Quote.l0 k s (numsB acc) (s.size : Int) (i : Int)) (qs (s.data.toList.drop i) acc) := by
  have hsl : s.data.toList.length = s.size := by rw [Array.length_toList]; rfl
  induction d with
  | zero =>
    intro i acc hi ha
    refine ⟨1, fun k hk => ?_⟩
    obtain ⟨q, rfl⟩ : ∃ q, k = q + 1 := ⟨k - 1, by omega⟩
    show words_Quote.l0 (q + 1) s (numsB acc) (s.size : Int) (i : Int) = _
    unfold words_Quote.l0
    rw [if_neg (by omega), if_pos (by rw [numsB_len]; omega), List.drop_of_length_le (by omega)]
    show some (strOfNums (numsB acc ++ numsB [34]), true) = _
    rw [← numsB_append, strOf_numsB]
    rfl
  | succ d ih =>
    intro i acc hi ha
    have hlt : i < s.data.toList.length := by omega
    obtain ⟨b, hb⟩ : ∃ b, s.data.toList[i]? = some b := ⟨_, List.getElem?_eq_getElem hlt⟩
    obtain ⟨hbt, hi2⟩ := bt_eq s hb
    have hdrop : s.data.toList.drop i = b :: s.data.toList.drop (i + 1) := by
      rw [List.drop_eq_getElem_cons hlt]
      congr 1
      exact (List.getElem?_eq_some_iff.1 hb).2
    have hw : wrap64 ((i : Int) + 1) = ((i + 1 : Nat) : Int) := by rw [wr (by omega) (by omega)]; omega
    have hel : (esc b).length ≤ 2 := by unfold esc; split <;> simp
    obtain ⟨K, hK⟩ := ih (i + 1) (acc ++ esc b) (by omega) (by rw [List.length_append]; omega)
    dsimp only at hK
    have hb255 : b.toNat < 256 := b.toNat_lt
    refine ⟨K + 2, fun k hk => ?_⟩
    obtain ⟨q, rfl⟩ : ∃ q, k = q + 1 + 1 := ⟨k - 2, by omega⟩
    have hk2 := hK q (by omega)
    rw [numsB_append] at hk2
    show words_Quote.l0 (q + 1 + 1) s (numsB acc) (s.size : Int) (i : Int) = _
    conv => lhs; unfold words_Quote.l0
    rw [if_pos (by omega), if_pos (by omega), if_pos (by omega), hbt, hdrop]
    by_cases h32 : b.toNat < 32
    · rw [if_pos (by omega)]
      simp only [words_Quote.j1, if_true]
      unfold qs
      rw [if_pos (Or.inl h32)]
    · rw [if_neg (by omega)]
      by_cases h126 : 126 < b.toNat
      · rw [decide_eq_true (by omega)]
        simp only [words_Quote.j1, if_true]
        unfold qs
        rw [if_pos (Or.inr h126)]
      · rw [decide_eq_false (by omega)]
        have hq : qs (b :: s.data.toList.drop (i + 1)) acc = qs (s.data.toList.drop (i + 1)) (acc ++ esc b) := by
          conv => lhs; unfold qs
          rw [if_neg (by omega)]
        rw [hq, ← hk2]
        unfold words_Quote.j1
        rw [if_neg (by decide)]
        by_cases h34 : b.toNat = 34
        · have he : numsB (esc b) = [92, (b.toNat : Int)] := by unfold esc; rw [if_pos (Or.inl h34)]; rfl
          rw [if_pos (by omega), if_pos (by rw [numsB_len]; omega), Option.bind_some, if_pos (by omega), if_pos (by omega), if_pos (by rw [List.length_append, numsB_len]; simp; omega), hbt, hw, he, List.append_assoc]
          rfl
        · rw [if_neg (by omega)]
          by_cases h92 : b.toNat = 92
          · have he : numsB (esc b) = [92, (b.toNat : Int)] := by unfold esc; rw [if_pos (Or.inr h92)]; rfl
            rw [if_pos (by omega), if_pos (by rw [numsB_len]; omega), Option.bind_some, if_pos (by omega), if_pos (by omega), if_pos (by rw [List.length_append, numsB_len]; simp; omega), hbt, hw, he, List.append_assoc]
            rfl
          · have he : numsB (esc b) = [(b.toNat : Int)] := by unfold esc; rw [if_neg (by omega)]; rfl
            rw [if_neg (by omega), if_pos (by omega), if_pos (by omega), if_pos (by rw [numsB_len]; omega), hbt, hw, he]

end Go.Proofs.YtgcgpeeokdnplaaDoor.Pure
