/- Several texts of this claim in one, each in a section of its own; what nothing reaches is left out. Conditions: each law's own. -/
import Derived.Test.YtjlclkenfmbahaaGreatDoorMC
import Derived.Test.YtjlclkenfmbahaaGreatDoorMPAx0
import Derived.Test.YtjlclkenfmbahaaGreatDoorML
import Derived.Test.YtjlclkenfmbahaaGreatDoorMPAx39
import Derived.Test.YtjlclkenfmbahaaGreatDoorMPAx47
import Derived.Lib.FrozenHead2
import Derived.Lib.OthersKept
import Derived.WalkKit
set_option linter.unusedVariables false
set_option linter.unusedSimpArgs false
set_option linter.unusedSectionVars false
section
namespace Go.Proofs.YtjlclkenfmbahaaGreatDoor.Pure
open Go.RowKit Go.Lib Go.Proofs.YtjlclkenfmbahaaGreatDoorW.PrintWords Go.Proofs.YtjlclkenfmbahaaGreatDoorW.PrintLast Go.Proofs.YtjlclkenfmbahaaGreatDoor.PA Go.Proofs.YtjlclkenfmbahaaGreatDoor.Dig
def esc (b : UInt8) : List UInt8 := if b.toNat = 34 ∨ b.toNat = 92 then [92, b] else [b]
def qs : List UInt8 → List UInt8 → ByteArray × Bool
 | [], acc => (B (acc ++ [34]), true)
 | b :: r, acc => if b.toNat < 32 ∨ 126 < b.toNat then ((⟨#[]⟩ : ByteArray), false) else qs r (acc ++ esc b)
theorem bt_eq (s : ByteArray) {i : Nat} {b : UInt8} (h : s.data.toList[i]? = some b) : bt s (i : Int) = (b.toNat : Int) ∧ i < s.size := by
 have hi : i < s.data.toList.length := (List.getElem?_eq_some_iff.1 h).1
 have hs : i < s.size := by rw [Array.length_toList] at hi; exact hi
 refine ⟨?_, hs⟩
 unfold bt
 rw [Int.toNat_natCast, dif_pos hs]
 obtain ⟨_, hb⟩ := List.getElem?_eq_some_iff.1 h
 have : s[i]'hs = b := by rw [← hb]; simp [ByteArray.getElem_eq_getElem_data]
 rw [this]
theorem numsB_append (a b : List UInt8) : numsB (a ++ b) = numsB a ++ numsB b := by simp [numsB]
theorem numsB_len (a : List UInt8) : (numsB a).length = a.length := by simp [numsB]
theorem wquote_loop (s : ByteArray) (hs : s.size ≤ 40) (d : Nat) : ∀ (i : Nat) (acc : List UInt8), s.data.toList.length = i + d → acc.length + 2 * d ≤ 100 →
  Ev (fun k => words_Quote.l0 k s (numsB acc) (s.size : Int) (i : Int)) (qs (s.data.toList.drop i) acc) := by
 have hsl : s.data.toList.length = s.size := by rw [Array.length_toList]; rfl
 induction d with
 | zero =>
  intro i acc hi ha
  refine ⟨1, fun k hk => ?_⟩
  obtain ⟨q, rfl⟩ : ∃ q, k = q + 1 := ⟨k - 1, by omega⟩
  show words_Quote.l0 (q + 1) s (numsB acc) (s.size : Int) (i : Int) = _
  unfold words_Quote.l0
  rw [if_neg (by omega), if_pos (by rw [numsB_len]; omega), List.drop_of_length_le (by omega)]
  show some (strOfNums (numsB acc ++ numsB [34]), true) = _
  rw [← numsB_append, strOf_numsB]
  rfl
 | succ d ih =>
  intro i acc hi ha
  have hlt : i < s.data.toList.length := by omega
  obtain ⟨b, hb⟩ : ∃ b, s.data.toList[i]? = some b := ⟨_, List.getElem?_eq_getElem hlt⟩
  obtain ⟨hbt, hi2⟩ := bt_eq s hb
  have hdrop : s.data.toList.drop i = b :: s.data.toList.drop (i + 1) := by
   rw [List.drop_eq_getElem_cons hlt]
   congr 1
   exact (List.getElem?_eq_some_iff.1 hb).2
  have hw : wrap64 ((i : Int) + 1) = ((i + 1 : Nat) : Int) := by rw [wr (by omega) (by omega)]; omega
  have hel : (esc b).length ≤ 2 := by unfold esc; split <;> simp
  obtain ⟨K, hK⟩ := ih (i + 1) (acc ++ esc b) (by omega) (by rw [List.length_append]; omega)
  dsimp only at hK
  have hb255 : b.toNat < 256 := b.toNat_lt
  refine ⟨K + 2, fun k hk => ?_⟩
  obtain ⟨q, rfl⟩ : ∃ q, k = q + 1 + 1 := ⟨k - 2, by omega⟩
  have hk2 := hK q (by omega)
  rw [numsB_append] at hk2
  show words_Quote.l0 (q + 1 + 1) s (numsB acc) (s.size : Int) (i : Int) = _
  conv => lhs; unfold words_Quote.l0
  rw [if_pos (by omega), if_pos (by omega), if_pos (by omega), hbt, hdrop]
  by_cases h32 : b.toNat < 32
  ·rw [if_pos (by omega)]
   simp only [words_Quote.j1, if_true]
   unfold qs
   rw [if_pos (Or.inl h32)]
  ·rw [if_neg (by omega)]
   by_cases h126 : 126 < b.toNat
   ·rw [decide_eq_true (by omega)]
    simp only [words_Quote.j1, if_true]
    unfold qs
    rw [if_pos (Or.inr h126)]
   ·rw [decide_eq_false (by omega)]
    have hq : qs (b :: s.data.toList.drop (i + 1)) acc = qs (s.data.toList.drop (i + 1)) (acc ++ esc b) := by
     conv => lhs; unfold qs
     rw [if_neg (by omega)]
    rw [hq, ← hk2]
    unfold words_Quote.j1
    rw [if_neg (by decide)]
    by_cases h34 : b.toNat = 34
    ·have he : numsB (esc b) = [92, (b.toNat : Int)] := by unfold esc; rw [if_pos (Or.inl h34)]; rfl
     rw [if_pos (by omega), if_pos (by rw [numsB_len]; omega), Option.bind_some, if_pos (by omega), if_pos (by omega), if_pos (by rw [List.length_append, numsB_len]; simp; omega), hbt, hw, he, List.append_assoc]
     rfl
    ·rw [if_neg (by omega)]
     by_cases h92 : b.toNat = 92
     ·have he : numsB (esc b) = [92, (b.toNat : Int)] := by unfold esc; rw [if_pos (Or.inr h92)]; rfl
      rw [if_pos (by omega), if_pos (by rw [numsB_len]; omega), Option.bind_some, if_pos (by omega), if_pos (by omega), if_pos (by rw [List.length_append, numsB_len]; simp; omega), hbt, hw, he, List.append_assoc]
      rfl
     ·have he : numsB (esc b) = [(b.toNat : Int)] := by unfold esc; rw [if_neg (by omega)]; rfl
      rw [if_neg (by omega), if_pos (by omega), if_pos (by omega), if_pos (by rw [numsB_len]; omega), hbt, hw, he]
theorem extract_one (s : ByteArray) {i : Nat} {b : UInt8} (h : s.data.toList[i]? = some b) : s.extract i (i + 1) = B [b] := by
 have hi : i < s.data.toList.length := (List.getElem?_eq_some_iff.1 h).1
 obtain ⟨_, hb⟩ := List.getElem?_eq_some_iff.1 h
 apply ByteArray.ext
 apply Array.ext'
 rw [ByteArray.data_extract, Array.toList_extract]
 show (s.data.toList.extract i (i + 1)) = [b]
 rw [List.extract_eq_take_drop, Nat.add_sub_cancel_left, List.drop_eq_getElem_cons hi]
 simp [hb]
end Go.Proofs.YtjlclkenfmbahaaGreatDoor.Pure
end
section
namespace Go.Proofs.YtjlclkenfmbahaaGreatDoor.PA
open Go.RowKit Go.Lib Go.Proofs.YtjlclkenfmbahaaGreatDoorW.PrintWords Go.Proofs.YtjlclkenfmbahaaGreatDoorW.PrintLast Go.Proofs.YtjlclkenfmbahaaGreatDoorW.PrintMore Go.Proofs.YtjlclkenfmbahaaGreatDoor.Dig
open Go.Proofs.YtjlclkenfmbahaaGreatDoor.Pure (numsB qs wquote_loop)
theorem toList_loop (s : ByteArray) (d : Nat) : ∀ (i : Nat) (r : List UInt8), s.size = i + d → ByteArray.toList.loop s i r = r.reverse ++ (Ls s).drop i := by
 induction d with
 | zero =>
  intro i r h
  unfold ByteArray.toList.loop
  rw [if_neg (by omega), List.drop_of_length_le (by rw [Ls_len]; omega), List.append_nil]
 | succ d ih =>
  intro i r h
  unfold ByteArray.toList.loop
  obtain ⟨b, hb⟩ := byte_some s (i := i) (by omega)
  obtain ⟨hl, e⟩ := List.getElem?_eq_some_iff.1 hb
  have hg : s.get! i = b := by
   have : s.data[i]! = b := by
    rw [getElem!_pos s.data i (by rw [← Array.length_toList]; exact hl)]
    simpa using e
   exact this
  rw [if_pos (by omega), ih (i + 1) _ (by omega), hg, List.reverse_cons, List.append_assoc, List.drop_eq_getElem_cons hl, e]
  rfl
theorem toList_Ls (s : ByteArray) : s.toList = Ls s := by
 show ByteArray.toList.loop s 0 [] = _
 rw [toList_loop s s.size 0 [] (by omega)]
 rfl
theorem Ls_inj {a b : ByteArray} (h : Ls a = Ls b) : a = b := ByteArray.ext (Array.toList_inj.mp h)
theorem toList_isEmpty (a : ByteArray) : a.toList.isEmpty = decide (a = ⟨#[]⟩) := by
 rw [toList_Ls]
 by_cases h : a = ⟨#[]⟩
 ·subst h; simp [Ls]
 ·rw [decide_eq_false h]
  cases e : Ls a with
  | nil => exact absurd (Ls_inj (e.trans rfl)) h
  | cons x l => rfl
theorem wrN {x : Int} (h1 : -9223372036854775808 ≤ x) (h2 : x ≤ 9223372036854775807) : wrap64 x = x := by unfold wrap64; omega
def namedB (s : ByteArray) : Bool := (Ls s).all isWd && (decide (1 ≤ s.size) && (decide (s.size ≤ 12) && atP isLt s 0))
theorem bits7 (b : UInt8) : (Go.bits .and .u8 (ofN b.toNat) 7 = 0) ↔ isWd b = false := by
 rw [← cls_7]
 unfold clsN
 exact (bne_eq_false_iff_eq).symm
theorem named_loop (s : ByteArray) (hs : s.size ≤ 9223372036854775807) (d : Nat) : ∀ i, s.size = i + d → ((Ls s).take i).all isWd = true → Ev (fun k => words_named.l0 k s (s.size : Int) (i : Int)) (namedB s) := by
 induction d with
 | zero =>
  intro i hi ha
  refine ⟨1, fun k hk => ?_⟩
  obtain ⟨n, rfl⟩ : ∃ n, k = n + 1 := ⟨k - 1, by omega⟩
  show words_named.l0 (n + 1) s (s.size : Int) (i : Int) = _
  simp only [words_named.l0]
  rw [if_neg (by omega)]
  rw [List.take_of_length_le (by rw [Ls_len]; omega)] at ha
  unfold namedB
  rw [ha, Bool.true_and]
  by_cases h1 : 1 ≤ s.size
  ·rw [if_pos (by omega), decide_eq_true h1, Bool.true_and]
   by_cases h12 : s.size ≤ 12
   ·obtain ⟨b, hb⟩ := byte_some s (i := 0) (by omega)
    have e0 : bt s 0 = (b.toNat : Int) := (bt_of s hb).1
    rw [if_pos (by omega), decide_eq_true h12, Bool.true_and, if_pos (by omega), e0, of_eval b.toNat_lt, Option.bind_some]
    unfold atP
    rw [hb]
    show some (clsN 1 b.toNat) = _
    rw [cls_1]
   ·rw [if_neg (by omega), decide_eq_false h12, Bool.false_and]
  ·rw [if_neg (by omega), decide_eq_false h1, Bool.false_and]
 | succ d ih =>
  intro i hi ha
  obtain ⟨b, hb⟩ := byte_some s (i := i) (by omega)
  have e0 : bt s (i : Int) = (b.toNat : Int) := (bt_of s hb).1
  have e1 : wrap64 ((i : Int) + 1) = ((i + 1 : Nat) : Int) := by rw [wrN (by omega) (by omega)]; omega
  have htk : (Ls s).take (i + 1) = (Ls s).take i ++ [b] := by rw [List.take_add_one, hb]; rfl
  cases hw : isWd b with
  | true =>
   obtain ⟨K, hK⟩ := ih (i + 1) (by omega) (by rw [htk, List.all_append, ha]; simp [hw])
   refine ⟨K + 1, fun k hk => ?_⟩
   obtain ⟨n, rfl⟩ : ∃ n, k = n + 1 := ⟨k - 1, by omega⟩
   have h := hK n (by omega)
   dsimp only at h
   show words_named.l0 (n + 1) s (s.size : Int) (i : Int) = _
   simp only [words_named.l0]
   rw [e1, h]
   clear e1
   rw [if_pos (by omega), if_pos (by omega), if_pos (by omega), e0, of_eval b.toNat_lt, Option.bind_some, if_neg (fun h7 => by rw [(bits7 b).1 h7] at hw; cases hw)]
  | false =>
   refine ⟨1, fun k hk => ?_⟩
   obtain ⟨n, rfl⟩ : ∃ n, k = n + 1 := ⟨k - 1, by omega⟩
   show words_named.l0 (n + 1) s (s.size : Int) (i : Int) = _
   simp only [words_named.l0]
   clear e1
   rw [if_pos (by omega), if_pos (by omega), if_pos (by omega), e0, of_eval b.toNat_lt, Option.bind_some, if_pos ((bits7 b).2 hw)]
   unfold namedB
   have : (Ls s).all isWd = false := by
    rw [Bool.eq_false_iff]
    intro h
    rw [List.all_eq_true.1 h b (List.mem_of_getElem? hb)] at hw
    cases hw
   rw [this, Bool.false_and]
theorem named_p (s : ByteArray) (hs : s.size ≤ 9223372036854775807) : Ev (fun k => words_named.f k s) (namedB s) := named_loop s hs s.size 0 (by omega) (by rw [List.take_zero]; rfl)
def signedB (s : ByteArray) : Bool := decide (s.toList = [33, 61]) || (decide (s.toList = [60, 61]) || (decide (s.toList = [62, 61]) || (decide (s.size = 1) && (!decide (s.toList = [33]) && atP isSg s 0))))
theorem signed_p (s : ByteArray) : words_signed.f s = some (signedB s) := by
 unfold words_signed.f signedB
 by_cases h1 : s.toList = [33, 61]
 ·rw [if_pos h1, decide_eq_true h1, Bool.true_or]
 rw [if_neg h1, decide_eq_false h1, Bool.false_or]
 by_cases h2 : s.toList = [60, 61]
 ·rw [if_pos h2, decide_eq_true h2, Bool.true_or]
 rw [if_neg h2, decide_eq_false h2, Bool.false_or]
 by_cases h3 : s.toList = [62, 61]
 ·rw [if_pos h3, decide_eq_true h3, Bool.true_or]
 rw [if_neg h3, decide_eq_false h3, Bool.false_or]
 by_cases h4 : s.size = 1
 ·rw [if_pos (by omega), decide_eq_true h4, Bool.true_and]
  by_cases h5 : s.toList = [33]
  ·rw [if_pos h5, decide_eq_true h5]
   rfl
  ·obtain ⟨b, hb⟩ := byte_some s (i := 0) (by omega)
   have e0 : bt s 0 = (b.toNat : Int) := (bt_of s hb).1
   rw [if_neg h5, decide_eq_false h5, if_pos (by omega), e0, of_eval b.toNat_lt, Option.bind_some]
   unfold atP
   rw [hb]
   show some (clsN 8 b.toNat) = _
   rw [cls_8]
   rfl
 ·rw [if_neg (by omega), decide_eq_false h4, Bool.false_and]
def quoteT (s : ByteArray) : ByteArray × Bool := if 40 < s.size then ((⟨#[]⟩ : ByteArray), false) else qs (Ls s) [34]
theorem quote_p (s : ByteArray) : Ev (fun k => words_Quote.f k s) (quoteT s) := by
 unfold quoteT
 by_cases h : 40 < s.size
 ·rw [if_pos h]
  exact ⟨0, fun k _ => by show words_Quote.f k s = _; unfold words_Quote.f; rw [if_pos (by omega)]⟩
 ·rw [if_neg h]
  have h2 := wquote_loop s (by omega) s.size 0 [34] (by rw [Array.length_toList]; show s.size = _; omega) (by simp; omega)
  refine Ev.congr (fun k => ?_) h2
  show words_Quote.f k s = _
  unfold words_Quote.f
  rw [if_neg (by omega)]
  rfl
end Go.Proofs.YtjlclkenfmbahaaGreatDoor.PA
end
section
namespace Go.Proofs.YtjlclkenfmbahaaGreatDoor.Pure
open Go.RowKit Go.Lib Go.Proofs.YtjlclkenfmbahaaGreatDoorW.PrintWords Go.Proofs.YtjlclkenfmbahaaGreatDoorW.PrintLast Go.Proofs.YtjlclkenfmbahaaGreatDoor.PA Go.Proofs.YtjlclkenfmbahaaGreatDoor.Dig
def amountL (neg : Bool) (u : Nat) : List UInt8 := (if neg then [45] else []) ++ decDigits (u / 100) ++ [46, dig (u / 10 % 10), dig (u % 10)]
theorem step_digit {x : Int} {u : Nat} (hu : u < 9223372036854775809) (hx : x = (u : Int) ∨ x = -(u : Int)) :
  (Int.tmod x 10 < 0 → wrap64 (48 + wrap64 (-(Int.tmod x 10))) % 256 = ((dig (u % 10)).toNat : Int)) ∧ (¬ Int.tmod x 10 < 0 → wrap64 (48 + Int.tmod x 10) % 256 = ((dig (u % 10)).toNat : Int)) ∧ (wrap64 (Int.tdiv x 10) = ((u / 10 : Nat) : Int) ∨ wrap64 (Int.tdiv x 10) = -((u / 10 : Nat) : Int)) := by
 have hm : Int.tmod (u : Int) 10 = ((u % 10 : Nat) : Int) := by rw [Int.tmod_eq_emod_of_nonneg (by omega)]; omega
 have hd : Int.tdiv (u : Int) 10 = ((u / 10 : Nat) : Int) := by rw [Int.tdiv_eq_ediv_of_nonneg (by omega)]; omega
 have h10 := Nat.mod_lt u (show 0 < 10 by decide)
 rcases hx with rfl | rfl
 ·rw [hm, hd]
  exact ⟨fun h => absurd h (by omega), fun _ => digI h10, .inl (wr (by omega) (by omega))⟩
 ·rw [Int.neg_tmod, Int.neg_tdiv, hm, hd]
  refine ⟨fun h => ?_, fun h => ?_, .inr (wr (by omega) (by omega))⟩
  ·rw [Int.neg_neg, wr (x := ((u % 10 : Nat) : Int)) (by omega) (by omega)]
   exact digI h10
  ·have h0 : u % 10 = 0 := by omega
   rw [h0]
   simpa using digI (d := 0) (by decide)
def finL (x0 : Int) (l : List Int) : List Int := if x0 < 0 then l ++ [45] else l
theorem fmtU (u : Nat) (h : u < 18446744073709551616) : strconv_FormatUint_116.f (u : Int) 10 = some (B (decDigits u)) := by
 unfold strconv_FormatUint_116.f
 rw [if_pos ⟨rfl, by omega, by omega⟩, Int.toNat_natCast]
 rfl
theorem two_digits (u : Nat) : (if u % 100 < 10 then [48] ++ decDigits (u % 100) else decDigits (u % 100)) = [dig (u / 10 % 10), dig (u % 10)] := by
 have e1 : u / 10 % 10 = u % 100 / 10 := by omega
 have e2 : u % 10 = u % 100 % 10 := by omega
 by_cases h : u % 100 < 10
 ·rw [if_pos h, dec_small h, e1, e2, Nat.div_eq_of_lt h, Nat.mod_eq_of_lt h]; rfl
 ·rw [if_neg h, dec_big h, dec_small (by omega), e1, e2]; rfl
theorem wamount_j (pre : List UInt8) (hp : pre.length ≤ 1) (u : Nat) (hb : u < 9223372036854775809) : Ev (fun k => words_Amount.j0 k (B pre) (u : Int)) (B (pre ++ decDigits (u / 100) ++ [46, dig (u / 10 % 10), dig (u % 10)])) := by
 refine ⟨1, fun k hk => ?_⟩
 obtain ⟨q, rfl⟩ : ∃ q, k = q + 1 := ⟨k - 1, by omega⟩
 have e1 : Int.tmod (u : Int) 100 = ((u % 100 : Nat) : Int) := by rw [Int.tmod_eq_emod_of_nonneg (by omega)]; omega
 have e2 : IntKind.u64.wrap (Int.tdiv (u : Int) 100) = ((u / 100 : Nat) : Int) := by rw [Int.tdiv_eq_ediv_of_nonneg (by omega), IntKind.wrap_u64]; omega
 have l1 := dec_len (u % 100) (by omega)
 have l2 := dec_len (u / 100) (by omega)
 have e46 : (⟨#[46]⟩ : ByteArray) = B [46] := rfl
 have e48 : (⟨#[48]⟩ : ByteArray) = B [48] := rfl
 show words_Amount.j0 (q + 1) (B pre) (u : Int) = _
 simp only [words_Amount.j0]
 rw [e1, e2, fmtU _ (by omega), fmtU _ (by omega)]
 simp only [Option.bind_some]
 rw [e46, e48, ← two_digits u]
 simp only [B_append, B_size, List.length_append, List.length_cons, List.length_nil]
 by_cases h : u % 100 < 10
 ·rw [if_pos (by omega), if_pos (by omega), if_pos (by omega), if_pos (by omega), if_pos (by omega), if_pos h]
  simp
 ·rw [if_neg (by omega), if_pos (by omega), if_pos (by omega), if_pos (by omega), if_neg h]
  simp
theorem wamount_p (c : Int) (h1 : -9223372036854775808 ≤ c) (h2 : c ≤ 9223372036854775807) : Ev (fun k => words_Amount.f k c) (B (amountL (decide (c < 0)) c.natAbs)) := by
 obtain ⟨u, hu⟩ : ∃ u, u = c.natAbs := ⟨_, rfl⟩
 rw [← hu]
 unfold amountL
 by_cases hc : c < 0
 ·have e : IntKind.u64.wrap (-(IntKind.u64.wrap c)) = (u : Int) := by rw [IntKind.wrap_u64, IntKind.wrap_u64]; omega
  refine Ev.congr (f := fun k => words_Amount.j0 k (B [45]) (u : Int)) (fun k => by show words_Amount.f k c = _; unfold words_Amount.f; rw [if_pos hc, e]; rfl) ?_
  rw [decide_eq_true hc, if_pos rfl]
  exact wamount_j [45] (by decide) u (by omega)
 ·have e : IntKind.u64.wrap c = (u : Int) := by rw [IntKind.wrap_u64]; omega
  refine Ev.congr (f := fun k => words_Amount.j0 k (B []) (u : Int)) (fun k => by show words_Amount.f k c = _; unfold words_Amount.f; rw [if_neg hc, e]; rfl) ?_
  rw [decide_eq_false hc, if_neg (by decide)]
  exact wamount_j [] (by decide) u (by omega)
def tailS (acc : List UInt8) : Option (List UInt8) → ByteArray × Bool
 | none => ((⟨#[]⟩ : ByteArray), false)
 | some l => (B (acc ++ l ++ [37]), true)
def perS (acc : List UInt8) : Option (List UInt8) → ByteArray × Bool
 | none => ((⟨#[]⟩ : ByteArray), false)
 | some [] => (B (acc ++ [37]), true)
 | some (x :: l) => (B (acc ++ 46 :: x :: l ++ [37]), true)
theorem natdiv (a d : Nat) : Int.tdiv (a : Int) (d : Int) = ((a / d : Nat) : Int) := by rw [Int.tdiv_eq_ediv_of_nonneg (by omega)]; exact (Int.natCast_ediv a d).symm
theorem natmod (a d : Nat) : Int.tmod (a : Int) (d : Int) = ((a % d : Nat) : Int) := by rw [Int.tmod_eq_emod_of_nonneg (by omega)]; exact (Int.natCast_emod a d).symm
theorem longdiv_succ (d j r : Nat) (hr : r ≠ 0) : longdiv d (j + 1) r = (longdiv d j (10 * r % d)).map (dig (10 * r / d) :: ·) := by
 show (if r = 0 then some [] else (longdiv d j (10 * r % d)).map (dig (10 * r / d) :: ·)) = _
 rw [if_neg hr]
theorem fmtI (u : Nat) (h : u < 9223372036854775808) : strconv_FormatInt_77.f (u : Int) 10 = some (B (decDigits u)) := by
 unfold strconv_FormatInt_77.f
 rw [if_pos ⟨rfl, by omega, by omega⟩]
 unfold itoa
 rw [if_neg (by omega), Int.toNat_natCast]
 rfl
theorem trimR_snoc (l : List UInt8) (x : UInt8) : trimRightB (l ++ [x]) 48 = if x = 48 then trimRightB l 48 else l ++ [x] := by
 unfold trimRightB
 rw [List.reverse_append]
 show (List.dropWhile (· == 48) (x :: l.reverse)).reverse = _
 by_cases hx : x = 48
 ·subst hx; simp [List.dropWhile]
 ·have : (x == 48) = false := by simpa using hx
  rw [if_neg hx]
  simp [List.dropWhile, this]
theorem trim_ne : ∀ (j p : Nat), p < 10 ^ j → trimRightB (pad j p) 48 = [] → p = 0
 | 0, p, hp, _ => by simpa using hp
 | j + 1, p, hp, h => by
  have h10 := Nat.mod_lt p (show 0 < 10 by decide)
  rw [show pad (j + 1) p = pad j (p / 10) ++ [dig (p % 10)] from rfl, trimR_snoc] at h
  by_cases hx : dig (p % 10) = 48
  ·rw [if_pos hx] at h
   have h0 := (dig_zero h10).1 hx
   have h1 := trim_ne j (p / 10) (by rw [Nat.pow_succ] at hp; omega) h
   omega
  ·rw [if_neg hx] at h
   simp at h
theorem wper_core (q : Nat) (n d W p : Nat) (hd : ¬ (d : Int) = 0) (hW : W ≤ 100000000000) (hp : p < 1000000)
  (H : wrap64 (Int.tdiv (wrap64 ((wrap64 ((n : Int) * 100)) * 1000000)) (d : Int)) = ((W * 1000000 + p : Nat) : Int)) :
  words_Percent.j0 (q + 1) (n : Int) (d : Int) false = some (perS (decDigits W) (some (trimRightB (pad 6 p) 48))) := by
 have e37 : (⟨#[37]⟩ : ByteArray) = B [37] := rfl
 have e46 : (⟨#[46]⟩ : ByteArray) = B [46] := rfl
 have q1 : (W * 1000000 + p) / 1000000 = W := by omega
 have q2 : (W * 1000000 + p) % 1000000 = p := by omega
 have t2 : Int.tdiv ((W * 1000000 + p : Nat) : Int) 1000000 = (W : Int) := by rw [show (1000000 : Int) = ((1000000 : Nat) : Int) from rfl, natdiv, q1]
 have t3 : Int.tmod ((W * 1000000 + p : Nat) : Int) 1000000 = (p : Int) := by rw [show (1000000 : Int) = ((1000000 : Nat) : Int) from rfl, natmod, q2]
 have t4 : wrap64 (W : Int) = (W : Int) := wr (by omega) (by omega)
 have t5 : wrap64 (1000000 + (p : Int)) = ((1000000 + p : Nat) : Int) := by rw [wr (by omega) (by omega)]; omega
 have l1 := dec_len W (by omega)
 have f1 := fmtI W (by omega)
 have f2 := fmtI (1000000 + p) (by omega)
 have f3 : decDigits (1000000 + p) = dig 1 :: pad 6 p := by
  have h := dec_pad 6 1 p (by decide) hp
  rw [show decDigits 1 = [dig 1] from dec_small (by decide), show 10 ^ 6 * 1 + p = 1000000 + p by omega] at h
  exact h
 rw [f3] at f2
 have htr : strings_TrimRight.f ((B (dig 1 :: pad 6 p)).extract 1 (B (dig 1 :: pad 6 p)).size) (⟨#[48]⟩ : ByteArray) = some (B (trimRightB (pad 6 p) 48)) := by
  rw [B_tail]
  unfold strings_TrimRight.f
  rw [if_pos ⟨rfl, by rw [B_size, pad_len]; decide⟩]
  rfl
 have l2 : (trimRightB (pad 6 p) 48).length ≤ 6 := by
  have h1 : (trimRightB (pad 6 p) 48).length ≤ (pad 6 p).length := by
   unfold trimRightB
   rw [List.length_reverse]
   exact Nat.le_trans (List.dropWhile_sublist _).length_le (by rw [List.length_reverse]; exact Nat.le_refl _)
  rw [pad_len] at h1
  exact h1
 have hne : p ≠ 0 → trimRightB (pad 6 p) 48 ≠ [] := fun h e => h (trim_ne 6 p hp e)
 clear q1 q2 hp hW f3
 simp only [words_Percent.j0, Bool.false_eq_true, if_false]
 rw [if_neg hd, H, t2, t4, f1, Option.bind_some, t3]
 by_cases hz : p = 0
 ·subst hz
  rw [if_neg (by decide), if_pos (by rw [B_size]; omega), pad_zero, e37, B_append]
  rfl
 ·rw [if_pos (by omega), t5, f2, Option.bind_some, if_pos (by rw [B_size]; simp only [List.length_cons]; omega), htr, Option.bind_some, e46, e37]
  have hne := hne hz
  generalize trimRightB (pad 6 p) 48 = T at *
  simp only [B_append, B_size, List.length_append, List.length_cons, List.length_nil]
  rw [if_pos (by omega), if_pos (by omega), if_pos (by omega)]
  cases T with
  | nil => exact absurd rfl hne
  | cons x T => show some (B (decDigits W ++ ([46] ++ x :: T) ++ [37]), true) = some (B (decDigits W ++ 46 :: x :: T ++ [37]), true); rfl
theorem per_arith {A d : Nat} (hd : 0 < d) (hA9 : A ≤ 100000000000) : ∃ p, A % d * 10 ^ 6 / d = p ∧ p < 1000000 ∧ A / d ≤ 100000000000 ∧ A * 1000000 / d = A / d * 1000000 + p := by
 have hr : A % d < d := Nat.mod_lt _ hd
 refine ⟨_, rfl, ?_, Nat.le_trans (Nat.div_le_self _ _) hA9, ?_⟩
 ·rw [Nat.div_lt_iff_lt_mul hd, Nat.mul_comm 1000000 d]
  exact Nat.mul_lt_mul_of_pos_right hr (by decide)
 ·have e : A * 1000000 = A % d * 10 ^ 6 + d * (A / d * 1000000) := by
   conv => lhs; rw [← Nat.div_add_mod A d]
   rw [Nat.add_mul, Nat.mul_assoc, Nat.add_comm]
  rw [e, Nat.add_mul_div_left _ _ hd, Nat.add_comm]
theorem nat_ne (z : Nat) (h : ¬ z = 0) : (((z : Nat) : Int) != 0) = true := bne_iff_ne.2 (by omega)
theorem wper_p {n d : Nat} (hn : n ≤ 1000000000) (hd : 0 < d) (hd9 : d ≤ 1000000000) :
  Ev (fun k => words_Percent.j0 k (n : Int) (d : Int) (Int.tmod (wrap64 ((wrap64 ((n : Int) * 100)) * 1000000)) (d : Int) != 0)) (perS (decDigits (n * 100 / d)) (longdiv d 6 (n * 100 % d))) := by
 have w1 : wrap64 ((n : Int) * 100) = ((n * 100 : Nat) : Int) := by rw [wr (by omega) (by omega)]; omega
 have w2 : wrap64 (((n * 100 : Nat) : Int) * 1000000) = ((n * 100 * 1000000 : Nat) : Int) := by rw [wr (by omega) (by omega)]; omega
 have hA9 : n * 100 ≤ 100000000000 := by omega
 have hd0 : ¬ (d : Int) = 0 := by omega
 have w3 : wrap64 ((wrap64 ((n : Int) * 100)) * 1000000) = ((n * 100 * 1000000 : Nat) : Int) := by rw [w1, w2]
 clear w1 w2 hn hd9
 obtain ⟨p, hp, hp6, hW, hQ⟩ := per_arith hd hA9
 have H : wrap64 (Int.tdiv (wrap64 ((wrap64 ((n : Int) * 100)) * 1000000)) (d : Int)) = ((n * 100 / d * 1000000 + p : Nat) : Int) := by
  rw [w3, natdiv, hQ]
  generalize n * 100 / d = W at *
  exact wr (by omega) (by omega)
 have hmod : n * 100 % d * 10 ^ 6 % d = n * 100 * 1000000 % d := by rw [Nat.mod_mul_mod]
 have hr : n * 100 % d < d := Nat.mod_lt _ hd
 refine ⟨1, fun k hk => ?_⟩
 obtain ⟨q, rfl⟩ : ∃ q, k = q + 1 := ⟨k - 1, by omega⟩
 show words_Percent.j0 (q + 1) (n : Int) (d : Int) (Int.tmod (wrap64 ((wrap64 ((n : Int) * 100)) * 1000000)) (d : Int) != 0) = _
 by_cases h0 : n * 100 * 1000000 % d = 0
 ·have hb : (Int.tmod (wrap64 ((wrap64 ((n : Int) * 100)) * 1000000)) (d : Int) != 0) = false := by rw [w3, natmod, h0]; rfl
  rw [hb, longdiv_pad hd 6 _ hr (by rw [hmod]; exact h0), hp]
  exact wper_core q n d _ p hd0 hW hp6 H
 ·have hb : (Int.tmod (wrap64 ((wrap64 ((n : Int) * 100)) * 1000000)) (d : Int) != 0) = true := by
   rw [w3, natmod]
   exact nat_ne _ h0
  rw [hb, longdiv_none hd 6 _ hr (by rw [hmod]; exact h0)]
  simp only [words_Percent.j0, if_true]
  rfl
end Go.Proofs.YtjlclkenfmbahaaGreatDoor.Pure
end
section
namespace Go.Proofs.YtjlclkenfmbahaaGreatDoor.Days
open Go.RowKit Go.Proofs.YtjlclkenfmbahaaGreatDoorW.PrintWords Go.Proofs.YtjlclkenfmbahaaGreatDoorW.PrintLast Go.Proofs.YtjlclkenfmbahaaGreatDoor.PA Go.Proofs.YtjlclkenfmbahaaGreatDoor.Cal
theorem date_months {j i : Nat} (hi : i < 12) (hj : j < 300) {n : Int} (h1 : B (12 * j + i) ≤ n) (h2 : n < B (12 * j + i + 1)) (d : Nat) : ∀ i0 : Nat, i = i0 + d →
  Ev (fun k => days_date.l1 k (1900 + (j : Int)) (n - B (12 * j + i0)) ((i0 : Int) + 1)) (1900 + (j : Int), (i : Int) + 1, n - B (12 * j + i) + 1) := by
 have hT := B_top (k := 12 * j + i + 1) (by omega)
 have hBi : B (12 * j + i + 1) = B (12 * j + i) + Cal.len (12 * j + i) := rfl
 induction d with
 | zero =>
  intro i0 he
  obtain rfl : i = i0 := by omega
  have hl : lastD (1900 + (j : Int)) ((i : Int) + 1) = Cal.len (12 * j + i) := (lenE j i (by omega)).symm
  have hB0 := B_nonneg (12 * j + i)
  refine Ev.step (f := fun k => (days_Last.f k (1900 + (j : Int)) ((i : Int) + 1)).bind fun t => if n - B (12 * j + i) < t then some (1900 + (j : Int), (i : Int) + 1, wrap64 (n - B (12 * j + i) + 1)) else days_date.l1 k (1900 + (j : Int)) (wrap64 (n - B (12 * j + i) - t)) (wrap64 ((i : Int) + 1 + 1))) (fun k => by simp only [days_date.l1]) ?_
  refine Ev.bind (last_pE _ _) ?_
  rw [hl]
  refine Ev.congr (f := fun _ => some (1900 + (j : Int), (i : Int) + 1, n - B (12 * j + i) + 1)) (fun k => ?_) (Ev.now _)
  rw [if_pos (by omega), wr (by omega) (by omega)]
 | succ d ih =>
  intro i0 he
  have hl : lastD (1900 + (j : Int)) ((i0 : Int) + 1) = Cal.len (12 * j + i0) := (lenE j i0 (by omega)).symm
  have hB : B (12 * j + (i0 + 1)) = B (12 * j + i0) + Cal.len (12 * j + i0) := rfl
  have hm := B_mono (show 12 * j + (i0 + 1) ≤ 12 * j + i by omega)
  have hB0 := B_nonneg (12 * j + i0)
  have hlb := len_bd (12 * j + i0)
  have := ih (i0 + 1) (by omega)
  refine Ev.step (f := fun k => (days_Last.f k (1900 + (j : Int)) ((i0 : Int) + 1)).bind fun t => if n - B (12 * j + i0) < t then some (1900 + (j : Int), (i0 : Int) + 1, wrap64 (n - B (12 * j + i0) + 1)) else days_date.l1 k (1900 + (j : Int)) (wrap64 (n - B (12 * j + i0) - t)) (wrap64 ((i0 : Int) + 1 + 1))) (fun k => by simp only [days_date.l1]) ?_
  refine Ev.bind (last_pE _ _) ?_
  rw [hl]
  refine Ev.congr (fun k => ?_) this
  rw [if_neg (by omega), wr (by omega) (by omega), wr (x := (i0 : Int) + 1 + 1) (by omega) (by omega)]
  rw [show n - B (12 * j + i0) - Cal.len (12 * j + i0) = n - B (12 * j + (i0 + 1)) by omega, show (i0 : Int) + 1 + 1 = ((i0 + 1 : Nat) : Int) + 1 by omega]
theorem date_years {j i : Nat} (hi : i < 12) (hj : j < 300) {n : Int} (h1 : B (12 * j + i) ≤ n) (h2 : n < B (12 * j + i + 1)) (d : Nat) : ∀ j0 : Nat, j = j0 + d →
  Ev (fun k => days_date.l0 k n (1900 + (j0 : Int))) (1900 + (j : Int), (i : Int) + 1, n - B (12 * j + i) + 1) := by
 have hT := B_top (k := 12 * j + i + 1) (by omega)
 have hB0 := B_nonneg (12 * j + i)
 have hlow : D (1900 + (j : Int)) ≤ n := by rw [← B12]; exact Int.le_trans (B_mono (by omega)) h1
 have hup : n < D (1900 + (j : Int) + 1) := by
  rw [show (1900 : Int) + (j : Int) + 1 = 1900 + ((j + 1 : Nat) : Int) by omega, ← B12]
  exact Int.lt_of_lt_of_le h2 (B_mono (by omega))
 induction d with
 | zero =>
  intro j0 he
  obtain rfl : j = j0 := by omega
  have hj1 : Ev (fun k => days_date.j1 k n (1900 + (j : Int))) (1900 + (j : Int), (i : Int) + 1, n - B (12 * j + i) + 1) := by
   have := date_months hi hj h1 h2 i 0 (by omega)
   rw [show B (12 * j + 0) = D (1900 + (j : Int)) from B12 j] at this
   refine Ev.step (fun k => ?_) this
   simp only [days_date.j1]
   rw [ahead_p (by omega) (by omega)]
   simp only [Option.bind_some]
   have hD := D_bd (show j ≤ 300 by omega)
   rw [wr (by omega) (by omega)]
   simp
  refine Ev.step (fun k => ?_) hj1
  simp only [days_date.l0]
  by_cases h : 1900 + (j : Int) < 2199
  ·rw [if_pos h, wr (x := 1900 + (j : Int) + 1) (by omega) (by omega), ahead_p (by omega) (by omega)]
   simp only [Option.bind_some]
   rw [if_neg (by omega)]
  ·rw [if_neg h]
 | succ d ih =>
  intro j0 he
  have := ih (j0 + 1) (by omega)
  have hm := D_mono (show j0 + 1 ≤ j by omega)
  refine Ev.step (fun k => ?_) this
  simp only [days_date.l0]
  rw [if_pos (by omega), wr (x := 1900 + (j0 : Int) + 1) (by omega) (by omega), ahead_p (by omega) (by omega)]
  simp only [Option.bind_some]
  rw [show (1900 : Int) + (j0 : Int) + 1 = 1900 + ((j0 + 1 : Nat) : Int) by omega, if_pos (by omega)]
def dateS (n : Int) (k : Nat) : Int × Int × Int := (1900 + ((k / 12 : Nat) : Int), ((k % 12 : Nat) : Int) + 1, n - B k + 1)
theorem date_p {n : Int} {k : Nat} (h : Mon n k) : Ev (fun q => days_date.f q n) (dateS n k) := by
 obtain ⟨h0, h1⟩ := h.day
 obtain ⟨hk, hl, hu⟩ := h
 have e : 12 * (k / 12) + k % 12 = k := by omega
 have hg := D_guess (q := n / 366) (by omega)
 have hq : n / 366 ≤ ((k / 12 : Nat) : Int) := by
  refine Classical.byContradiction fun hc => ?_
  have h2 := B_mono (show k + 1 ≤ 12 * (n / 366).toNat by omega)
  rw [B12] at h2
  rw [show (((n / 366).toNat : Nat) : Int) = n / 366 by omega] at h2
  omega
 have := date_years (j := k / 12) (i := k % 12) (by omega) (by omega) (n := n) (by rw [e]; exact hl) (by rw [e]; exact hu) (k / 12 - (n / 366).toNat) (n / 366).toNat (by omega)
 rw [e] at this
 refine Ev.congr (fun q => ?_) this
 unfold days_date.f
 rw [Int.tdiv_eq_ediv_of_nonneg h0, wr (x := n / 366) (by omega) (by omega), wr (by omega) (by omega), show (((n / 366).toNat : Nat) : Int) = n / 366 by omega]
theorem isDay_p (n : Int) : days_isDay.f n = some (decide (0 ≤ n ∧ n ≤ 109572)) := by
 unfold days_isDay.f
 by_cases h : n ≥ 0
 ·rw [if_pos h]; simp only [ge_iff_le] at h; simp [h]
 ·rw [if_neg h]
  have : ¬ 0 ≤ n := h
  simp [this]
theorem str_app (a b : List Int) : strOfNums a ++ strOfNums b = strOfNums (a ++ b) := by
 apply ByteArray.ext
 simp [strOfNums]
theorem bt_str {l : List Int} {i : Nat} (hi : i < l.length) (h0 : 0 ≤ l.getD i 0) (h1 : l.getD i 0 < 256) : bt (strOfNums l) i = l.getD i 0 := by
 unfold bt
 have hs : ((i : Int)).toNat < (strOfNums l).size := by rw [strOfNums_size]; omega
 rw [dif_pos hs]
 have e : (strOfNums l)[((i : Int)).toNat]'hs = UInt8.ofNat (l.getD i 0).toNat := by
  have h2 : ((i : Int)).toNat = i := by omega
  simp only [h2]
  show ((l.map fun n => UInt8.ofNat n.toNat).toArray)[i]'(by simpa using hi) = _
  simp [List.getD_eq_getElem?_getD, List.getElem?_eq_getElem hi]
 rw [e]
 have : (l.getD i 0).toNat < 256 := by omega
 rw [UInt8.toNat_ofNat', Nat.mod_eq_of_lt (by simpa using this)]
 omega
theorem dig_step {x : Int} (h0 : 0 ≤ x) (hx : x ≤ 1000000) (l : List Int) (i : Nat) (hi : i < l.length) (hl : l.length ≤ 10) (k : Nat) :
  days_digits.l0 (k + 1) x l (i : Int) = days_digits.l0 k (x / 10) (l.set i (48 + x % 10)) ((i : Int) - 1) := by
 simp only [days_digits.l0]
 rw [if_pos (by omega), if_pos (by omega), if_pos (by omega), Int.tdiv_eq_ediv_of_nonneg h0, Int.tmod_eq_emod_of_nonneg h0, wr (x := x / 10) (by omega) (by omega), wr (x := 48 + x % 10) (by omega) (by omega), wr (x := (i : Int) - 1) (by omega) (by omega), show (48 + x % 10) % 256 = 48 + x % 10 by omega, show ((i : Int)).toNat = i by omega]
theorem dig_end (x : Int) (l : List Int) (k : Nat) : days_digits.l0 (k + 1) x l (-1) = some (strOfNums l) := by
 simp only [days_digits.l0]
 rw [if_neg (by omega)]
theorem digits4_p {y : Int} (h0 : 0 ≤ y) (h1 : y ≤ 9999) (k : Nat) : days_digits.f (k + 5) y 4 = some (strOfNums [48 + y / 1000 % 10, 48 + y / 100 % 10, 48 + y / 10 % 10, 48 + y % 10]) := by
 unfold days_digits.f
 rw [if_pos (by omega), if_pos (by omega), show wrap64 (4 - 1) = ((3 : Nat) : Int) by rw [wr (by omega) (by omega)]; rfl, show List.replicate (4 : Int).toNat (0 : Int) = [0, 0, 0, 0] from rfl]
 rw [dig_step h0 (by omega) _ 3 (by decide) (by decide), show ((3 : Nat) : Int) - 1 = ((2 : Nat) : Int) from rfl]
 rw [dig_step (by omega) (by omega) _ 2 (by simp) (by simp), show ((2 : Nat) : Int) - 1 = ((1 : Nat) : Int) from rfl]
 rw [dig_step (by omega) (by omega) _ 1 (by simp) (by simp), show ((1 : Nat) : Int) - 1 = ((0 : Nat) : Int) from rfl]
 rw [dig_step (by omega) (by omega) _ 0 (by simp) (by simp), show ((0 : Nat) : Int) - 1 = -1 from rfl]
 rw [dig_end]
 rw [show y / 10 / 10 / 10 = y / 1000 by omega, show y / 10 / 10 = y / 100 by omega]
 rfl
theorem digits2_p {y : Int} (h0 : 0 ≤ y) (h1 : y ≤ 99) (k : Nat) : days_digits.f (k + 5) y 2 = some (strOfNums [48 + y / 10 % 10, 48 + y % 10]) := by
 unfold days_digits.f
 rw [if_pos (by omega), if_pos (by omega), show wrap64 (2 - 1) = ((1 : Nat) : Int) by rw [wr (by omega) (by omega)]; rfl, show List.replicate (2 : Int).toNat (0 : Int) = [0, 0] from rfl]
 rw [dig_step h0 (by omega) _ 1 (by simp) (by simp), show ((1 : Nat) : Int) - 1 = ((0 : Nat) : Int) from rfl]
 rw [dig_step (by omega) (by omega) _ 0 (by simp) (by simp), show ((0 : Nat) : Int) - 1 = -1 from rfl]
 rw [dig_end]
 rfl
def textL (y m d : Int) : List Int := [48 + y / 1000 % 10, 48 + y / 100 % 10, 48 + y / 10 % 10, 48 + y % 10, 45, 48 + m / 10 % 10, 48 + m % 10, 45, 48 + d / 10 % 10, 48 + d % 10]
theorem small {n : Nat} (h : n ≤ 100) : n ≤ 9223372036854775807 := by omega
theorem dash_s : (⟨#[45]⟩ : ByteArray) = strOfNums [45] := rfl
theorem print_p {n : Int} {q : Nat} (h : Mon n q) : Ev (fun k => days_Print.f k n) (strOfNums (textL (dateS n q).1 (dateS n q).2.1 (dateS n q).2.2), 0) := by
 have hd := h.day
 have hq := h.1
 have hl := h.len
 have hlow := h.2.1
 have hlb := len_bd q
 obtain ⟨K, hK⟩ := date_p h
 refine ⟨K + 6, fun k hk => ?_⟩
 obtain ⟨k, rfl⟩ : ∃ m, k = m + 5 := ⟨k - 5, by omega⟩
 show days_Print.f (k + 5) n = _
 have y0 : 0 ≤ (dateS n q).1 ∧ (dateS n q).1 ≤ 9999 := by unfold dateS; simp only; omega
 have m0 : 0 ≤ (dateS n q).2.1 ∧ (dateS n q).2.1 ≤ 99 := by unfold dateS; simp only; omega
 have d0 : 0 ≤ (dateS n q).2.2 ∧ (dateS n q).2.2 ≤ 99 := by unfold dateS; simp only; omega
 unfold days_Print.f
 rw [isDay_p, decide_eq_true hd, Option.bind_some, if_pos rfl, show days_date.f (k + 5) n = some (dateS n q) from hK _ (by omega), Option.bind_some]
 rw [digits4_p y0.1 y0.2, Option.bind_some, if_pos (small (by simp [strOfNums_size])), digits2_p m0.1 m0.2, Option.bind_some, dash_s, str_app, if_pos (small (by simp [strOfNums_size])), str_app, if_pos (small (by simp [strOfNums_size])), digits2_p d0.1 d0.2, Option.bind_some, str_app, if_pos (small (by simp [strOfNums_size])), str_app]
 rfl
theorem parse_text {y m d : Int} (y0 : 0 ≤ y) (y1 : y ≤ 9999) (m0 : 0 ≤ m) (m1 : m ≤ 99) (d0 : 0 ≤ d) (d1 : d ≤ 99) :
  parseS (strOfNums (textL y m d)) = if (numS y m d).2 = 0 then ((numS y m d).1, 10, 0) else (0, 0, (numS y m d).2) := by
 have hsz : (strOfNums (textL y m d)).size = 10 := by rw [strOfNums_size]; rfl
 have hb : ∀ i : Nat, i < 10 → bt (strOfNums (textL y m d)) i = (textL y m d).getD i 0 := by
  intro i hi
  obtain rfl | rfl | rfl | rfl | rfl | rfl | rfl | rfl | rfl | rfl : i = 0 ∨ i = 1 ∨ i = 2 ∨ i = 3 ∨ i = 4 ∨ i = 5 ∨ i = 6 ∨ i = 7 ∨ i = 8 ∨ i = 9 := by omega
  all_goals (refine bt_str (by simp [textL]) ?_ ?_ <;> (simp only [textL, List.getD_cons_succ, List.getD_cons_zero]; omega))
 obtain ⟨s, hs⟩ : ∃ s, s = strOfNums (textL y m d) := ⟨_, rfl⟩
 rw [← hs] at hsz hb ⊢
 have b0 : bt s ((0 : Nat) : Int) = 48 + y / 1000 % 10 := hb 0 (by decide)
 have b1 : bt s ((1 : Nat) : Int) = 48 + y / 100 % 10 := hb 1 (by decide)
 have b2 : bt s ((2 : Nat) : Int) = 48 + y / 10 % 10 := hb 2 (by decide)
 have b3 : bt s ((3 : Nat) : Int) = 48 + y % 10 := hb 3 (by decide)
 have b4 : bt s ((4 : Nat) : Int) = 45 := hb 4 (by decide)
 have b5 : bt s ((5 : Nat) : Int) = 48 + m / 10 % 10 := hb 5 (by decide)
 have b6 : bt s ((6 : Nat) : Int) = 48 + m % 10 := hb 6 (by decide)
 have b7 : bt s ((7 : Nat) : Int) = 45 := hb 7 (by decide)
 have b8 : bt s ((8 : Nat) : Int) = 48 + d / 10 % 10 := hb 8 (by decide)
 have b9 : bt s ((9 : Nat) : Int) = 48 + d % 10 := hb 9 (by decide)
 have hall : ∀ j, j < 10 → okAt s j = true := by
  intro i hi
  obtain rfl | rfl | rfl | rfl | rfl | rfl | rfl | rfl | rfl | rfl : i = 0 ∨ i = 1 ∨ i = 2 ∨ i = 3 ∨ i = 4 ∨ i = 5 ∨ i = 6 ∨ i = 7 ∨ i = 8 ∨ i = 9 := by omega
  ·rw [okAt_digit rfl, b0, decide_eq_true (by omega), decide_eq_true (by omega)]; rfl
  ·rw [okAt_digit rfl, b1, decide_eq_true (by omega), decide_eq_true (by omega)]; rfl
  ·rw [okAt_digit rfl, b2, decide_eq_true (by omega), decide_eq_true (by omega)]; rfl
  ·rw [okAt_digit rfl, b3, decide_eq_true (by omega), decide_eq_true (by omega)]; rfl
  ·rw [okAt_dash rfl, b4]; rfl
  ·rw [okAt_digit rfl, b5, decide_eq_true (by omega), decide_eq_true (by omega)]; rfl
  ·rw [okAt_digit rfl, b6, decide_eq_true (by omega), decide_eq_true (by omega)]; rfl
  ·rw [okAt_dash rfl, b7]; rfl
  ·rw [okAt_digit rfl, b8, decide_eq_true (by omega), decide_eq_true (by omega)]; rfl
  ·rw [okAt_digit rfl, b9, decide_eq_true (by omega), decide_eq_true (by omega)]; rfl
 have st : ∀ (i : Nat) (x b : Int), dash i = false → bt s i = b → fAt s i (kAt i) = x → 48 ≤ b → b ≤ 57 → 0 ≤ x → x ≤ 10000 → fAt s (i + 1) (kAt i) = 10 * x + (b - 48) := by
  intro i x b hd hbt hx h1 h2 h3 h4
  show (if dash i = false ∧ kAt i = kAt i then _ else _) = _
  rw [if_pos ⟨hd, rfl⟩, hx, hbt, wr (x := 10 * x) (by omega) (by omega), show (b - 48) % 256 = b - 48 by omega, wr (by omega) (by omega)]
 have keep : ∀ (i j : Nat), (dash i = true ∨ j ≠ kAt i) → fAt s (i + 1) j = fAt s i j := by
  intro i j h
  show (if dash i = false ∧ j = kAt i then _ else fAt s i j) = _
  rw [if_neg ?_]
  rintro ⟨a, c⟩
  rcases h with h | h
  ·rw [a] at h; exact absurd h (by decide)
  ·exact h c
 have f1 := st 0 0 _ rfl b0 rfl (by omega) (by omega) (by omega) (by omega)
 have f2 := st 1 _ _ rfl b1 f1 (by omega) (by omega) (by omega) (by omega)
 have f3 := st 2 _ _ rfl b2 f2 (by omega) (by omega) (by omega) (by omega)
 have f4 := st 3 _ _ rfl b3 f3 (by omega) (by omega) (by omega) (by omega)
 have g6 := st 5 0 _ rfl b5 rfl (by omega) (by omega) (by omega) (by omega)
 have g7 := st 6 _ _ rfl b6 g6 (by omega) (by omega) (by omega) (by omega)
 have h9 := st 8 0 _ rfl b8 rfl (by omega) (by omega) (by omega) (by omega)
 have h10 := st 9 _ _ rfl b9 h9 (by omega) (by omega) (by omega) (by omega)
 have e0 : fAt s 10 0 = y := by
  rw [keep 9 0 (Or.inr (by decide)), keep 8 0 (Or.inr (by decide)), keep 7 0 (Or.inl rfl), keep 6 0 (Or.inr (by decide)), keep 5 0 (Or.inr (by decide)), keep 4 0 (Or.inl rfl)]
  have f4' : fAt s 4 0 = _ := f4
  rw [f4']; omega
 have e1 : fAt s 10 1 = m := by
  rw [keep 9 1 (Or.inr (by decide)), keep 8 1 (Or.inr (by decide)), keep 7 1 (Or.inl rfl)]
  have g7' : fAt s 7 1 = _ := g7
  rw [g7']; omega
 have e2 : fAt s 10 2 = d := by
  have h10' : fAt s 10 2 = _ := h10
  rw [h10']; omega
 rw [trip_ten hsz hall, e0, e1, e2]
end Go.Proofs.YtjlclkenfmbahaaGreatDoor.Days
end
section
namespace Go.Proofs.YtjlclkenfmbahaaGreatDoor.Bld
open Go.Shelf Go.RowKit
theorem sizeB : (Tryz.prog.info? 78).map (·.size) = some 2 := by kernel_rfl
theorem liesB : liesAt Tryz.prog Tryz.prog.depth 78 (2 / Tryz.prog.cellsOf 78) 0 78 1 = true := by kernel_rfl
theorem infoByte : (Tryz.prog.info? 5).map (fun i => (i.zero, i.size, i.bytes)) = some (some (.int .u8 0), 1, 1) := by kernel_rfl
set_option maxHeartbeats 1000000 in
set_option maxRecDepth 100000 in
theorem check_used (b : Nat) (w : World) (h0 : w.cell? ⟨b, 0, none⟩ = some (.pointer (some ⟨b, 0, none⟩))) :
  Calls Tryz.prog 83 #[.pointer (some ⟨b, 0, none⟩)] w fun e w' => e = .returned (.tuple #[]) ∧ w' = w := by
 obtain ⟨j, hj, _⟩ := Option.map_eq_some_iff.1 sizeB
 go_enter Tryz.func83, Tryz.ntmps83
 go_wp2
 rw [Lib.run_neq_ptr_same w _ Tryz.underlying75 hj]
 go_wp2
 go_end0
 exact ⟨rfl, rfl⟩
set_option maxHeartbeats 1000000 in
set_option maxRecDepth 100000 in
theorem check_fresh (b : Nat) (w : World) (h0 : w.cell? ⟨b, 0, none⟩ = some (.pointer none)) (hsh : w.shape? b = some (78, 2)) (hfz : w.frozen? ⟨b, 0, none⟩ = false) :
  Calls Tryz.prog 83 #[.pointer (some ⟨b, 0, none⟩)] w fun e w' => e = .returned (.tuple #[]) ∧ w' = w.setCell ⟨b, 0, none⟩ (.pointer (some ⟨b, 0, none⟩)) := by
 obtain ⟨j, hj, hjs⟩ := Option.map_eq_some_iff.1 sizeB
 go_enter Tryz.func83, Tryz.ntmps83
 go_wp2
 rw [Lib.run_to_unsafe w ⟨b, 0, none⟩ Tryz.underlying75 Tryz.underlying194 hj (by rw [hjs]; decide) hsh (Nat.zero_lt_succ 1)]
 simp only [Result.andThen]
 rw [Oper.upon_value]
 go_wp2
 rw [run_callFunc_extern Tryz.func122 (by kernel_rfl) (by kernel_rfl) (by kernel_rfl) (e := Extern.AbiNoEscape.same) (by kernel_rfl)]
 rw [Lib.run_noEscape]
 simp only [Result.andThen]
 rw [Oper.upon_value]
 go_wp2
 rw [Lib.run_from_unsafe w ⟨b, 0, none⟩ Tryz.underlying194 Tryz.underlying75 hj hsh liesB]
 simp only [Result.andThen]
 rw [Oper.upon_value]
 go_wp2
 go_end0
 exact ⟨rfl, rfl⟩
theorem check (B b : Nat) (bs : List Value) (w : World) (h : Lib.IsBuilderF 78 5 B b bs w) :
  Calls Tryz.prog 83 #[.pointer (some ⟨b, 0, none⟩)] w fun e w' => e = .returned (.tuple #[]) ∧ (Lib.BuilderAtF 78 5 B b (.pointer (some ⟨b, 0, none⟩)) bs w' ∧ Below B w w' ∧ Lib.OthersKept 5 (some b) w w') := by
 rcases h with h | h
 ·refine (check_fresh b w h.cell0 h.shape h.frozen0).mono ?_
  rintro e w' ⟨rfl, rfl⟩
  exact ⟨rfl, h.used _, (Below.refl B w).setCell (p := ⟨b, 0, none⟩) h.1 _, (Lib.OthersKept.refl _ _ w).setCell ⟨b, 0, none⟩ rfl _⟩
 ·refine (check_used b w h.cell0).mono ?_
  rintro e w' ⟨rfl, rfl⟩
  exact ⟨rfl, h, Below.refl B _, Lib.OthersKept.refl _ _ _⟩
set_option maxHeartbeats 2000000 in
set_option maxRecDepth 100000 in
theorem writeByte (B b : Nat) (bs : List Value) (c : Int) (w : World) (h : Lib.IsBuilderF 78 5 B b bs w) (hlen : bs.length + 1 ≤ 140737488355328) (hBw : B ≤ w.heap.size) :
  Calls Tryz.prog 17 #[.pointer (some ⟨b, 0, none⟩), .int .u8 c] w fun e w' => e = .returned .nilIface ∧ (Lib.BuilderAtF 78 5 B b (.pointer (some ⟨b, 0, none⟩)) (bs ++ [.int .u8 c]) w' ∧ Below B w w' ∧ Lib.OthersKept 5 (some b) w w') := by
 obtain ⟨i0, hi, hz0, hz1, hz2⟩ := info_parts infoByte
 go_enter Tryz.func17, Tryz.ntmps17
 go_wp2_with (go_at_call 83; refine (check B b bs _ h).mono ?_)
 rintro e w1 ⟨rfl, h1, hb1, hk1⟩
 obtain ⟨hB, v, hbk, hown, hne⟩ := h1
 have c0 : w1.cell? ⟨b, 0, none⟩ = some (.pointer (some ⟨b, 0, none⟩)) := by rw [Lib.cell_of_heap hbk]; rfl
 have c1 : w1.cell? ⟨b, 1, none⟩ = some v := by rw [Lib.cell_of_heap hbk]; rfl
 go_wp2_with (at_builtin; refine wpList_append_ownF _ rfl _ _ 76 rfl B 5 i0 (.int .u8 0) 1 1 Tryz.underlying76 hi hz0 hz1 hz2 rfl (by decide) _ _ _ rfl (hown.alloc _) ⟨w1.heap.size, 0, none⟩ 1 1 [.int .u8 c] rfl rfl ?c1 ?c2 ?c3 ?c4 ?c5 ?_)
 case c1 =>
  intro j u hj
  match j, hj with
  | 0, hj => simp at hj; subst hj; simp [Addr.add]
 case c2 => intro u hu; simp at hu; subst hu; rfl
 case c3 => unfold maxLen; omega
 case c4 => omega
 case c5 => have := hb1.size; simp; omega
 intro v' w2 hown' hgrow _
 have hlt : b < w1.heap.size := by
  rcases Nat.lt_or_ge b w1.heap.size with h' | h'
  ·exact h'
  ·simp [Array.getElem?_eq_none h'] at hbk
 have hb2 : w2.heap[b]? = some (.cells #[.pointer (some ⟨b, 0, none⟩), v] 78 (0, 0)) := by
  rw [hgrow.block b (by simp; omega) (fun e => hne e.symm), Lib.alloc_old w1 _ b hlt]
  exact hbk
 have d0 : w2.cell? ⟨b, 0, none⟩ = some (.pointer (some ⟨b, 0, none⟩)) := by rw [Lib.cell_of_heap hb2]; rfl
 have d1 : w2.cell? ⟨b, 1, none⟩ = some v := by rw [Lib.cell_of_heap hb2]; rfl
 have f1 : w2.frozen? ⟨b, 1, none⟩ = false := Lib.frozen_of_heap hb2 1
 obtain ⟨g, cap, rfl⟩ : ∃ g cap, v' = .slice (some ⟨g, 0, none⟩) (bs.length + 1) cap := by
  rcases hown'.2 with ⟨_, h0⟩ | ⟨g, cap, cur, fz, hv, _⟩
  ·omega
  ·exact ⟨g, cap, hv⟩
 go_wp2
 go_ret
 refine ⟨rfl, ?_, ?_, ((hk1.alloc _).grown hgrow (Lib.ownsRowF_kind (hown.alloc _))).setCell ⟨b, 1, none⟩ rfl _⟩
 ·exact Lib.BuilderAtF.put (T := 78) (e := 5) hB hb2 (bs' := bs ++ [.int .u8 c]) (by simpa using hown') (by decide)
 ·exact ((hb1.alloc (by have := hb1.size; omega) _).grown hgrow (by have := hb1.size; simp; omega) (fun k hk => (hown.lt k hk).1)).setCell (p := ⟨b, 1, none⟩) hB _
set_option maxHeartbeats 2000000 in
set_option maxRecDepth 100000 in
theorem writeString (B b : Nat) (bs : List Value) (s : ByteArray) (w : World) (h : Lib.IsBuilderF 78 5 B b bs w) (hlen : bs.length + s.size ≤ 140737488355328) (hBw : B ≤ w.heap.size) :
  Calls Tryz.prog 18 #[.pointer (some ⟨b, 0, none⟩), .string s] w fun e w' => e = .returned (.tuple #[.int .i64 s.size, .nilIface]) ∧ (Lib.BuilderAtF 78 5 B b (.pointer (some ⟨b, 0, none⟩)) (bs ++ Lib.strCells s) w' ∧ Below B w w' ∧ Lib.OthersKept 5 (some b) w w') := by
 obtain ⟨i0, hi, hz0, hz1, hz2⟩ := info_parts infoByte
 go_enter Tryz.func18, Tryz.ntmps18
 go_wp2_with (go_at_call 83; refine (check B b bs _ h).mono ?_)
 rintro e w1 ⟨rfl, h1, hb1, hk1⟩
 obtain ⟨hB, v, hbk, hown, hne⟩ := h1
 have c0 : w1.cell? ⟨b, 0, none⟩ = some (.pointer (some ⟨b, 0, none⟩)) := by rw [Lib.cell_of_heap hbk]; rfl
 have c1 : w1.cell? ⟨b, 1, none⟩ = some v := by rw [Lib.cell_of_heap hbk]; rfl
 go_wp2_with (at_builtin; refine Lib.wpList_append_own_stringF _ rfl _ _ 76 9 rfl B 5 i0 Tryz.underlying76 Tryz.underlying9 hi hz0 hz1 hz2 _ _ _ rfl hown s rfl ?c3 ?c4 ?c5 ?_)
 case c3 => unfold maxLen; omega
 case c4 => omega
 case c5 => have := hb1.size; omega
 intro v' w2 hown' hgrow _
 have hlt : b < w1.heap.size := by
  rcases Nat.lt_or_ge b w1.heap.size with h' | h'
  ·exact h'
  ·simp [Array.getElem?_eq_none h'] at hbk
 have hb2 : w2.heap[b]? = some (.cells #[.pointer (some ⟨b, 0, none⟩), v] 78 (0, 0)) := by
  rw [hgrow.block b hlt (fun e => hne e.symm)]
  exact hbk
 have d0 : w2.cell? ⟨b, 0, none⟩ = some (.pointer (some ⟨b, 0, none⟩)) := by rw [Lib.cell_of_heap hb2]; rfl
 have d1 : w2.cell? ⟨b, 1, none⟩ = some v := by rw [Lib.cell_of_heap hb2]; rfl
 have f1 : w2.frozen? ⟨b, 1, none⟩ = false := Lib.frozen_of_heap hb2 1
 obtain ⟨ao, n', cap, rfl⟩ : ∃ ao n' cap, v' = .slice ao n' cap := by
  rcases hown'.2 with ⟨hv, _⟩ | ⟨g, cap, cur, fz, hv, _⟩
  ·exact ⟨_, _, _, hv⟩
  ·exact ⟨_, _, _, hv⟩
 go_wp2
 go_ret2
 refine ⟨rfl, ?_, ?_, (hk1.grown hgrow (Lib.ownsRowF_kind hown)).setCell ⟨b, 1, none⟩ rfl _⟩
 ·exact Lib.BuilderAtF.put (T := 78) (e := 5) hB hb2 (bs' := bs ++ Lib.strCells s) (by simpa [Lib.strCells_length] using hown') (by decide)
 ·exact (hb1.grown hgrow (by have := hb1.size; omega) (fun k hk => (hown.lt k hk).1)).setCell (p := ⟨b, 1, none⟩) hB _
end Go.Proofs.YtjlclkenfmbahaaGreatDoor.Bld
end
section
namespace Go.Proofs.YtjlclkenfmbahaaGreatDoor.Days
open Go.RowKit Go.Proofs.YtjlclkenfmbahaaGreatDoorW.PrintWords Go.Proofs.YtjlclkenfmbahaaGreatDoorW.PrintLast Go.Proofs.YtjlclkenfmbahaaGreatDoor.PA Go.Proofs.YtjlclkenfmbahaaGreatDoor.Cal
def partsAt (s : ByteArray) (i : Nat) : List Int := if i ≤ 4 then [] else if i ≤ 7 then [fAt s i 0] else [fAt s i 0, fAt s i 1]
theorem parts_digit {s : ByteArray} {i : Nat} (h : i < 10) (hd : dash i = false) : partsAt s (i + 1) = partsAt s i := by
 have e : ∀ j, j < kAt i → fAt s (i + 1) j = fAt s i j := fun j hj => by
  show (if dash i = false ∧ j = kAt i then _ else fAt s i j) = _
  rw [if_neg (by omega)]
 obtain rfl | rfl | rfl | rfl | rfl | rfl | rfl | rfl | rfl | rfl : i = 0 ∨ i = 1 ∨ i = 2 ∨ i = 3 ∨ i = 4 ∨ i = 5 ∨ i = 6 ∨ i = 7 ∨ i = 8 ∨ i = 9 := by omega
 ·rfl
 ·rfl
 ·rfl
 ·rfl
 ·exact absurd hd (by decide)
 ·show [fAt s 6 0] = [fAt s 5 0]; rw [e 0 (by decide)]
 ·show [fAt s 7 0] = [fAt s 6 0]; rw [e 0 (by decide)]
 ·exact absurd hd (by decide)
 ·show [fAt s 9 0, fAt s 9 1] = [fAt s 8 0, fAt s 8 1]; rw [e 0 (by decide), e 1 (by decide)]
 ·show [fAt s 10 0, fAt s 10 1] = [fAt s 9 0, fAt s 9 1]; rw [e 0 (by decide), e 1 (by decide)]
theorem parts_dash {s : ByteArray} {i : Nat} (h : i < 10) (hd : dash i = true) : partsAt s (i + 1) = partsAt s i ++ [fAt s i (kAt i)] ∧ fAt s (i + 1) (kAt (i + 1)) = 0 ∧ (partsAt s i).length < 10 := by
 obtain rfl | rfl | rfl | rfl | rfl | rfl | rfl | rfl | rfl | rfl : i = 0 ∨ i = 1 ∨ i = 2 ∨ i = 3 ∨ i = 4 ∨ i = 5 ∨ i = 6 ∨ i = 7 ∨ i = 8 ∨ i = 9 := by omega
 ·exact absurd hd (by decide)
 ·exact absurd hd (by decide)
 ·exact absurd hd (by decide)
 ·exact absurd hd (by decide)
 ·refine ⟨rfl, ?_, by simp [partsAt]⟩
  rfl
 ·exact absurd hd (by decide)
 ·exact absurd hd (by decide)
 ·refine ⟨rfl, ?_, by simp [partsAt]⟩
  rfl
 ·exact absurd hd (by decide)
 ·exact absurd hd (by decide)
theorem rparse_end {s : ByteArray} (hall : ∀ j, j < 10 → okAt s j = true) (hs : 10 ≤ s.size) : Ev (fun k => levyref2_Parse.l0 k s (fAt s 10 2) [fAt s 10 0, fAt s 10 1] 10) (parseS s) := by
 rw [parse_end (n := 10) (by omega) hall]
 by_cases h : s.size = 10
 ·refine Ev.step (f := fun k => (levyref2_Number.f k (fAt s 10 0) (fAt s 10 1) (fAt s 10 2)).bind fun b => if b.2 = 0 then some (b.1, 10, 0) else some (0, 0, b.2)) (fun k => ?_) ?_
  ·simp only [levyref2_Parse.l0]
   rw [if_neg (by omega), if_neg (by omega), if_pos (by simp), if_pos (by simp)]
   rfl
  ·refine Ev.bind (number_r _ _ _) ?_
   refine Ev.congr (fun k => ?_) (Ev.now _)
   show _ = some (if s.size = 10 then _ else _)
   rw [if_pos h]
   split <;> rfl
 ·refine Ev.step (f := fun k => some (0, 10, 22)) (fun k => ?_) ?_
  ·simp only [levyref2_Parse.l0]
   rw [if_neg (by omega), if_pos (by omega)]
  ·refine Ev.congr (fun k => ?_) (Ev.now _)
   show _ = some (if s.size = 10 then _ else _)
   rw [if_neg h, if_neg (by omega)]
theorem rparse_go (s : ByteArray) (d : Nat) : ∀ i, 10 = i + d → i ≤ s.size → (∀ j, j < i → okAt s j = true) →
  Ev (fun k => levyref2_Parse.l0 k s (fAt s i (kAt i)) (partsAt s i) (i : Int)) (parseS s) := by
 induction d with
 | zero =>
  intro i he hs hall
  obtain rfl : i = 10 := by omega
  exact rparse_end hall hs
 | succ d ih =>
  intro i he hs hall
  by_cases hend : i = s.size
  ·refine Ev.step (f := fun k => some (0, (s.size : Int), 22)) (fun k => ?_) ?_
   ·simp only [levyref2_Parse.l0]
    rw [if_pos (by omega), if_pos (by omega)]
   ·refine Ev.congr (fun k => ?_) (Ev.now _)
    rw [parse_end (n := s.size) (by omega) (hend ▸ hall)]
    show _ = some (if s.size = 10 then _ else _)
    rw [if_neg (by omega), if_pos (by omega)]
  ·have h10 : i < 10 := by omega
   have hb := bt_range s i
   have hsign : (if (i : Int) = 4 then true else ((i : Int) == 7)) = dash i := by
    obtain rfl | rfl | rfl | rfl | rfl | rfl | rfl | rfl | rfl | rfl : i = 0 ∨ i = 1 ∨ i = 2 ∨ i = 3 ∨ i = 4 ∨ i = 5 ∨ i = 6 ∨ i = 7 ∨ i = 8 ∨ i = 9 := by omega
    all_goals rfl
   refine Ev.step (f := fun k => levyref2_Parse.j1 k s (fAt s i (kAt i)) (partsAt s i) i (bt s i) (dash i)) (fun k => ?_) ?_
   ·simp only [levyref2_Parse.l0]
    rw [if_pos (by omega), if_neg (by omega), if_pos (by omega), if_pos (by omega), ← hsign]
    split <;> rfl
   ·cases hd : dash i
    ·
     by_cases hok : okAt s i = true
     ·have hok2 := hok
      rw [okAt_digit hd] at hok2
      simp only [Bool.and_eq_true, decide_eq_true_eq] at hok2
      have hstep : Ev (fun k => levyref2_Parse.j2 k s (fAt s i (kAt i)) (partsAt s i) i (bt s i) false false) (parseS s) := by
       have := ih (i + 1) (by omega) (by omega) (next_ok hall hok)
       rw [parts_digit h10 hd, kAt_succ h10, hd] at this
       simp only [Bool.false_eq_true, if_false] at this
       have e : fAt s (i + 1) (kAt i) = wrap64 (wrap64 (10 * fAt s i (kAt i)) + (bt s i - 48) % 256) := by
        show (if dash i = false ∧ kAt i = kAt i then _ else _) = _
        rw [if_pos ⟨hd, rfl⟩]
       rw [e] at this
       refine Ev.step (fun k => ?_) this
       simp only [levyref2_Parse.j2]
       rw [if_neg (by simp), if_neg (by simp), wr (x := (i : Int) + 1) (by omega) (by omega)]
       rfl
      refine Ev.step (fun k => ?_) hstep
      simp only [levyref2_Parse.j1]
      rw [show (bt s i == 45) = false by rw [beq_eq_false_iff_ne]; omega]
      rw [if_neg (by simp), if_neg (by simp), if_neg (by omega), decide_eq_false (by omega)]
     ·have hok1 : okAt s i = false := by simpa using hok
      have hok2 := hok1
      rw [okAt_digit hd] at hok2
      simp only [Bool.and_eq_false_iff, decide_eq_false_iff_not] at hok2
      have hbad : Ev (fun k => levyref2_Parse.j2 k s (fAt s i (kAt i)) (partsAt s i) i (bt s i) false true) (parseS s) := by
       rw [parse_bad (by omega) h10 hall hok1]
       exact ev_const fun k => by simp only [levyref2_Parse.j2, if_true]
      refine Ev.step (fun k => ?_) hbad
      simp only [levyref2_Parse.j1]
      by_cases h45 : bt s i = 45
      ·rw [show (bt s i == 45) = true by rw [beq_iff_eq]; exact h45, if_pos (by simp)]
      ·rw [show (bt s i == 45) = false by rw [beq_eq_false_iff_ne]; exact h45, if_neg (by simp), if_neg (by simp)]
       by_cases hlo : bt s i < 48
       ·rw [if_pos hlo]
       ·rw [if_neg hlo, decide_eq_true (by omega)]
    ·by_cases hok : okAt s i = true
     ·have hok2 := hok
      rw [okAt_dash hd] at hok2
      obtain ⟨e1, e2, e3⟩ := parts_dash (s := s) h10 hd
      have hstep : Ev (fun k => levyref2_Parse.j2 k s (fAt s i (kAt i)) (partsAt s i) i (bt s i) true false) (parseS s) := by
       have := ih (i + 1) (by omega) (by omega) (next_ok hall hok)
       rw [e1, e2] at this
       refine Ev.step (fun k => ?_) this
       simp only [levyref2_Parse.j2]
       rw [if_neg (by simp), if_pos trivial, if_pos (by omega), wr (x := (i : Int) + 1) (by omega) (by omega)]
       rfl
      refine Ev.step (fun k => ?_) hstep
      simp only [levyref2_Parse.j1]
      rw [hok2, if_neg (by simp), if_pos trivial]
     ·have hok1 : okAt s i = false := by simpa using hok
      have hok2 := hok1
      rw [okAt_dash hd] at hok2
      have hbad : Ev (fun k => levyref2_Parse.j2 k s (fAt s i (kAt i)) (partsAt s i) i (bt s i) true true) (parseS s) := by
       rw [parse_bad (by omega) h10 hall hok1]
       exact ev_const fun k => by simp only [levyref2_Parse.j2, if_true]
      refine Ev.step (fun k => ?_) hbad
      simp only [levyref2_Parse.j1]
      rw [hok2, if_pos (by simp)]
theorem rparse_p (s : ByteArray) : Ev (fun k => levyref2_Parse.f k s) (parseS s) :=
 rparse_go s 10 0 rfl (Nat.zero_le _) (fun j hj => absurd hj (Nat.not_lt_zero j))
end Go.Proofs.YtjlclkenfmbahaaGreatDoor.Days
end
