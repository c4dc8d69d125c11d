/- The classes of bytes, runs of bytes, and the scanner's small methods: plain words for the walks of the scanner. No condition. -/
import Derived.Test.YtjlclkenfmbahaaGreatDoorVPAx0
import Derived.Test.YtjlclkenfmbahaaGreatDoorVL
namespace Go.Proofs.YtjlclkenfmbahaaGreatDoor.PA
open Go.RowKit Go.Proofs.YtjlclkenfmbahaaGreatDoorW.PrintWords Go.Proofs.YtjlclkenfmbahaaGreatDoorW.PrintLast Go.Proofs.YtjlclkenfmbahaaGreatDoorW.PrintMore
set_option linter.unusedVariables false
set_option linter.unusedSimpArgs false
def isLt (b : UInt8) : Bool := decide (97 ≤ b.toNat) && decide (b.toNat ≤ 122)
def isDg (b : UInt8) : Bool := decide (48 ≤ b.toNat) && decide (b.toNat ≤ 57)
def isWd (b : UInt8) : Bool := isLt b || isDg b || b.toNat == 95
def isSg (b : UInt8) : Bool := [40, 41, 44, 58, 46, 61, 33, 60, 62, 43, 45, 42, 47].contains b.toNat
def isLu (b : UInt8) : Bool := isLt b || b.toNat == 95
def ofN (n : Nat) : Int := if n < 128 then rd tab1 (n : Int) else 0
def clsN (m : Int) (n : Nat) : Bool := Go.bits .and .u8 (ofN n) m != 0
theorem cls_7 (b : UInt8) : clsN 7 b.toNat = isWd b := by
 have h : ∀ n, n < 256 → clsN 7 n = ((decide (97 ≤ n) && decide (n ≤ 122)) || (decide (48 ≤ n) && decide (n ≤ 57)) || n == 95) := by decide +kernel
 exact h b.toNat b.toNat_lt
theorem cls_2 (b : UInt8) : clsN 2 b.toNat = isDg b := by
 have h : ∀ n, n < 256 → clsN 2 n = (decide (48 ≤ n) && decide (n ≤ 57)) := by decide +kernel
 exact h b.toNat b.toNat_lt
theorem cls_1 (b : UInt8) : clsN 1 b.toNat = isLt b := by
 have h : ∀ n, n < 256 → clsN 1 n = (decide (97 ≤ n) && decide (n ≤ 122)) := by decide +kernel
 exact h b.toNat b.toNat_lt
theorem cls_5 (b : UInt8) : clsN 5 b.toNat = isLu b := by
 have h : ∀ n, n < 256 → clsN 5 n = ((decide (97 ≤ n) && decide (n ≤ 122)) || n == 95) := by decide +kernel
 exact h b.toNat b.toNat_lt
theorem cls_8 (b : UInt8) : clsN 8 b.toNat = isSg b := by
 have h : ∀ n, n < 256 → clsN 8 n = [40, 41, 44, 58, 46, 61, 33, 60, 62, 43, 45, 42, 47].contains n := by decide +kernel
 exact h b.toNat b.toNat_lt
abbrev Ls (s : ByteArray) : List UInt8 := s.data.toList
theorem Ls_len (s : ByteArray) : (Ls s).length = s.size := by rw [Array.length_toList]; rfl
def atP (p : UInt8 → Bool) (s : ByteArray) (i : Nat) : Bool := match (Ls s)[i]? with | some b => p b | none => false
def runP (p : UInt8 → Bool) (s : ByteArray) (i : Nat) : Nat := (((Ls s).drop i).takeWhile p).length
theorem bt_of (s : ByteArray) {i : Nat} {b : UInt8} (h : (Ls s)[i]? = some b) : bt s (i : Int) = (b.toNat : Int) ∧ i < s.size := by
 have hi : i < (Ls s).length := (List.getElem?_eq_some_iff.1 h).1
 have hs : i < s.size := by rw [Ls_len] at hi; exact hi
 refine ⟨?_, hs⟩
 unfold bt
 rw [Int.toNat_natCast, dif_pos hs]
 obtain ⟨_, hb⟩ := List.getElem?_eq_some_iff.1 h
 have : s[i]'hs = b := by rw [← hb]; simp [ByteArray.getElem_eq_getElem_data]
 rw [this]
theorem byte_some (s : ByteArray) {i : Nat} (h : i < s.size) : ∃ b, (Ls s)[i]? = some b := ⟨_, List.getElem?_eq_getElem (by rw [Ls_len]; exact h)⟩
theorem byte_none (s : ByteArray) {i : Nat} (h : ¬ i < s.size) : (Ls s)[i]? = none := List.getElem?_eq_none (by rw [Ls_len]; omega)
theorem runP_yes {p : UInt8 → Bool} {s : ByteArray} {i : Nat} (h : atP p s i = true) : runP p s i = runP p s (i + 1) + 1 ∧ i < s.size := by
 unfold atP at h
 cases hb : (Ls s)[i]? with
 | none => rw [hb] at h; cases h
 | some b =>
  rw [hb] at h
  obtain ⟨hi, e⟩ := List.getElem?_eq_some_iff.1 hb
  refine ⟨?_, (bt_of s hb).2⟩
  unfold runP
  rw [List.drop_eq_getElem_cons hi, e, List.takeWhile_cons, if_pos h, List.length_cons]
theorem runP_no {p : UInt8 → Bool} {s : ByteArray} {i : Nat} (h : atP p s i = false) : runP p s i = 0 := by
 unfold atP at h
 unfold runP
 cases hb : (Ls s)[i]? with
 | none => rw [List.drop_of_length_le (List.getElem?_eq_none_iff.1 hb)]; rfl
 | some b =>
  rw [hb] at h
  obtain ⟨hi, e⟩ := List.getElem?_eq_some_iff.1 hb
  rw [List.drop_eq_getElem_cons hi, e, List.takeWhile_cons, if_neg (by simp [h])]
  rfl
theorem runP_le (p : UInt8 → Bool) (s : ByteArray) (i : Nat) (h : i ≤ s.size) : i + runP p s i ≤ s.size := by
 have h1 : runP p s i ≤ ((Ls s).drop i).length := (List.takeWhile_prefix p).length_le
 rw [List.length_drop, Ls_len] at h1
 omega
theorem of_eval {n : Nat} (h : n < 256) : words_of.f (n : Int) = some (ofN n) := by
 unfold words_of.f ofN
 have hw : wrap64 (n : Int) = n := by unfold wrap64; omega
 rw [hw]
 by_cases h1 : n < 128
 ·rw [if_pos (by omega), if_pos (by omega), if_pos (by omega), if_pos h1]
 ·rw [if_neg (by omega), if_neg h1]
def isC (m : Int) (s : ByteArray) (i : Nat) : Bool := atP (fun b => clsN m b.toNat) s i
theorem isC_7 (s : ByteArray) (i : Nat) : isC 7 s i = atP isWd s i := by unfold isC; congr 1; funext b; exact cls_7 b
theorem isC_2 (s : ByteArray) (i : Nat) : isC 2 s i = atP isDg s i := by unfold isC; congr 1; funext b; exact cls_2 b
theorem isC_5 (s : ByteArray) (i : Nat) : isC 5 s i = atP isLu s i := by unfold isC; congr 1; funext b; exact cls_5 b
theorem is_eval (s : ByteArray) (a : Int) (l : Bool) (e b : Int) (i : Nat) (m : Int) : words_scanner_is.f s a l e b (i : Int) m = some (isC m s i, s, a, l, e, b) := by
 unfold words_scanner_is.f isC atP
 by_cases h : i < s.size
 ·obtain ⟨x, hx⟩ := byte_some s h
  rw [if_pos (by omega), if_pos (by omega), (bt_of s hx).1, of_eval x.toNat_lt, Option.bind_some, hx]
  rfl
 ·rw [if_neg (by omega), byte_none s h]
theorem is_at (g : Nat) (s : ByteArray) (a : Int) (l : Bool) (e3 e4 : Int) (i : Nat) (m : Int) (w0 w : World) (hT : Tabs w0) (hI : IsS88 w0 w g s a l e3 e4) (hB : Below w0.heap.size w0 w) :
  Calls Tryz.prog 201 #[.pointer (some ⟨g, 0, none⟩), .int .i64 (i : Int), .int .u8 m] w fun e w' => e = .returned (.bool (isC m s i)) ∧ IsS88 w0 w' g s a l e3 e4 ∧ Below w0.heap.size w0 w' ∧ KeepBut w w' g none :=
 words_scanner_is.calls g s a l e3 e4 (i : Int) m _ _ _ _ _ _ w0 w hT hI hB (is_eval s a l e3 e4 i m)
end Go.Proofs.YtjlclkenfmbahaaGreatDoor.PA
