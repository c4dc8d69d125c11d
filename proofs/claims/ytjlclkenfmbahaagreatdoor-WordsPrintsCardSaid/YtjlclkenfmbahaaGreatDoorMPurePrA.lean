/- The document's text of a token and the program's: they are the same. Condition: the token's fields are such as Go's are, it is no line's end. -/
import Derived.Test.YtjlclkenfmbahaaGreatDoorMRefTexts
import Derived.Test.YtjlclkenfmbahaaGreatDoorMRefWritten
import Derived.Test.YtjlclkenfmbahaaGreatDoorMGrWr
import Derived.Test.YtjlclkenfmbahaaGreatDoorMS
import Derived.Test.YtjlclkenfmbahaaGreatDoorMPAx0
import Derived.Test.YtjlclkenfmbahaaGreatDoorML3
namespace Go.Proofs.YtjlclkenfmbahaaGreatDoor.Gr
open Go.RowKit Go.Proofs.YtjlclkenfmbahaaGreatDoorW.PrintWords Go.Proofs.YtjlclkenfmbahaaGreatDoorW.PrintLast Go.Proofs.YtjlclkenfmbahaaGreatDoor.PA Go.Proofs.YtjlclkenfmbahaaGreatDoor.Dig Go.Lib
open Go.Proofs.YtjlclkenfmbahaaGreatDoor.Pure (amountL qs)
set_option linter.unusedVariables false
set_option linter.unusedSectionVars false
set_option linter.unusedSimpArgs false
theorem ev_same {α : Type} {f : Nat → Option α} {a b : α} (h1 : Ev f a) (h2 : Ev f b) : a = b := by
 obtain ⟨K1, h1⟩ := h1
 obtain ⟨K2, h2⟩ := h2
 have e1 := h1 (K1 + K2) (by omega)
 have e2 := h2 (K1 + K2) (by omega)
 exact Option.some.inj (e1.symm.trans e2)
theorem ev_bind1 {α β : Type} {f : Nat → Option α} {g : α → β} {a : α} (h : Ev f a) : Ev (fun k => (f k).bind fun x => some (g x)) (g a) := by
 obtain ⟨K, h⟩ := h
 refine ⟨K, fun k hk => ?_⟩
 have e := h k hk
 dsimp only at e ⊢
 rw [e, Option.bind_some]
theorem in_bounds {t : S57} (h : tokIn t = true) : -9223372036854775808 ≤ t.f3 ∧ t.f3 ≤ 9223372036854775807 ∧ t.f2.size ≤ 9223372036854775807 := by
 unfold tokIn at h
 simp only [Bool.and_eq_true, decide_eq_true_eq] at h
 exact ⟨h.2.1, h.2.2.1, h.1⟩
theorem ref_text (t : S57) (hin : tokIn t = true) (h8 : t.f0 ≠ 8) : ∃ r, Ev (fun k => refText k t) r ∧ ((wrR t).2 = true → r = ((wrR t).1, true)) := by
 obtain ⟨b1, b2, b3⟩ := in_bounds hin
 obtain ⟨f0, f1, f2, f3, f4⟩ := t
 dsimp only at b1 b2 b3 h8
 clear hin
 by_cases k1 : f0 = 1
 ·subst k1
  refine ⟨(f2, true), ⟨0, fun k _ => ?_⟩, fun _ => ?_⟩
  ·unfold refText; dsimp only; rw [if_pos rfl]
  ·unfold wrR; dsimp only; rw [if_pos rfl]
 by_cases k7 : f0 = 7
 ·subst k7
  refine ⟨(f2, true), ⟨0, fun k _ => ?_⟩, fun _ => ?_⟩
  ·unfold refText; dsimp only; rw [if_neg (by decide), if_pos rfl]
  ·unfold wrR; dsimp only; rw [if_neg (by decide), if_neg (by decide), if_neg (by decide), if_neg (by decide), if_neg (by decide), if_neg (by decide), if_pos rfl]
 by_cases k2 : f0 = 2
 ·subst k2
  refine ⟨(B (amountL (decide (f3 < 0)) f3.natAbs), decide (0 ≤ f3)), ?_, fun h => ?_⟩
  ·have e : ∀ k, refText k (⟨2, f1, f2, f3, f4⟩ : S57) = (levyref4_Amount.f k f3).bind fun s => some (s, decide (0 ≤ f3)) := fun k => by
    unfold refText; dsimp only; rw [if_neg (by decide), if_neg (by decide), if_pos rfl]
   exact Ev.congr e (ev_bind1 (g := fun s => (s, decide (0 ≤ f3))) (Pure.ramount_p f3 b1 b2))
  ·have e : wrR (⟨2, f1, f2, f3, f4⟩ : S57) = (B (amountL (decide (f3 < 0)) f3.natAbs), (decide (0 ≤ f3) && decide (f3 ≤ 9999999999999)) && (f2.toList.isEmpty && f4 == 0)) := by
    unfold wrR; dsimp only; rw [if_neg (by decide), if_pos rfl]
   rw [e] at h ⊢
   simp only [Bool.and_eq_true] at h
   rw [h.1.1]
 by_cases k3 : f0 = 3
 ·subst k3
  have e0 : wrR (⟨3, f1, f2, f3, f4⟩ : S57) = (⟨(Lib.itoa f3).toArray⟩, (decide (0 ≤ f3) && decide (f3 ≤ 1000000000)) && (f2.toList.isEmpty && f4 == 0)) := by
   unfold wrR; dsimp only; rw [if_neg (by decide), if_neg (by decide), if_pos rfl]
  by_cases g : 0 ≤ f3 ∧ f3 ≤ 1000000000
  ·obtain ⟨u, rfl⟩ : ∃ u : Nat, f3 = u := ⟨f3.toNat, by omega⟩
   refine ⟨(B (decDigits u), true), ?_, fun h => ?_⟩
   ·have e : ∀ k, refText k (⟨3, f1, f2, (u : Int), f4⟩ : S57) = (levyref4_digitsOf.f k (u : Int)).bind fun s => some (s, true) := fun k => by
     unfold refText; dsimp only; rw [if_neg (by decide), if_neg (by decide), if_neg (by decide), if_pos rfl, if_pos g]
    exact Ev.congr e (ev_bind1 (g := fun s => (s, true)) (Pure.digitsOf_p u (by omega)))
   ·rw [e0, itoa_nonneg]
    rfl
  ·refine ⟨(⟨#[]⟩, false), ⟨0, fun k _ => ?_⟩, fun h => ?_⟩
   ·unfold refText; dsimp only; rw [if_neg (by decide), if_neg (by decide), if_neg (by decide), if_pos rfl, if_neg g]
   ·rw [e0] at h
    simp only [Bool.and_eq_true, decide_eq_true_eq] at h
    exact absurd h.1 g
 by_cases k4 : f0 = 4
 ·subst k4
  obtain ⟨r, hr1, hr2⟩ := Pure.percent_both f3 f4
  obtain rfl := ev_same hr1 (percent_p f3 f4)
  refine ⟨perT f3 f4, Ev.congr (fun k => ?_) hr2, fun h => ?_⟩
  ·show refText k (⟨4, f1, f2, f3, f4⟩ : S57) = levyref4_Percent.f k f3 f4
   unfold refText; dsimp only; rw [if_neg (by decide), if_neg (by decide), if_neg (by decide), if_neg (by decide), if_pos rfl]
  ·have e0 : wrR (⟨4, f1, f2, f3, f4⟩ : S57) = ((perT f3 f4).1, ((perT f3 f4).2 && (((max (Nat.gcd f3.toNat f4.toNat) 1 : Nat) : Int) == 1)) && f2.toList.isEmpty) := by
    unfold wrR; dsimp only; rw [if_neg (by decide), if_neg (by decide), if_neg (by decide), if_pos rfl]
   rw [e0] at h ⊢
   simp only [Bool.and_eq_true] at h
   exact Prod.ext rfl h.1.1
 by_cases k5 : f0 = 5
 ·subst k5
  have e0 : wrR (⟨5, f1, f2, f3, f4⟩ : S57) = ((if f3 < 0 ∨ 109572 < f3 then ⟨#[]⟩ else dayT f3), (if f3 < 0 ∨ 109572 < f3 then false else (f2.toList.isEmpty && f4 == 0))) := by
   unfold wrR; dsimp only; rw [if_neg (by decide), if_neg (by decide), if_neg (by decide), if_neg (by decide), if_pos rfl]
  by_cases g : f3 < 0 ∨ 1000000 < f3
  ·refine ⟨(⟨#[]⟩, false), ⟨0, fun k _ => ?_⟩, fun h => ?_⟩
   ·unfold refText; dsimp only; rw [if_neg (by decide), if_neg (by decide), if_neg (by decide), if_neg (by decide), if_neg (by decide), if_pos rfl, if_pos g]
   ·rw [e0] at h
    dsimp only at h
    rw [if_pos (by omega)] at h
    cases h
  ·have e : ∀ k, refText k (⟨5, f1, f2, f3, f4⟩ : S57) = (levyref2_Print.f k f3).bind fun q => some (q.1, q.2 == 0) := fun k => by
    unfold refText; dsimp only; rw [if_neg (by decide), if_neg (by decide), if_neg (by decide), if_neg (by decide), if_neg (by decide), if_pos rfl, if_neg g]
   by_cases g2 : 109572 < f3
   ·refine ⟨(⟨#[]⟩, false), Ev.congr e (ev_bind1 (g := fun q : ByteArray × Int => (q.1, q.2 == 0)) (Days.rprint_no (n := f3) (by omega))), fun h => ?_⟩
    rw [e0] at h
    dsimp only at h
    rw [if_pos (.inr g2)] at h
    cases h
   ·obtain ⟨q, hq⟩ := Cal.mon_exists (n := f3) (by omega) (by omega)
    refine ⟨(dayT f3, true), ?_, fun h => ?_⟩
    ·have h2 := ev_bind1 (g := fun q : ByteArray × Int => (q.1, q.2 == 0)) (Days.rprint_p hq)
     have h3 := Ev.congr e h2
     unfold dayT
     rw [monOf_eq hq]
     exact h3
    ·rw [e0, if_neg (by omega)]
 by_cases k6 : f0 = 6
 ·subst k6
  obtain ⟨r, hr1, hr2⟩ := Pure.quote_both f2
  obtain rfl := ev_same hr1 (quote_p f2)
  refine ⟨quoteT f2, Ev.congr (fun k => ?_) hr2, fun h => ?_⟩
  ·show refText k (⟨6, f1, f2, f3, f4⟩ : S57) = levyref4_Quote.f k f2
   unfold refText; dsimp only; rw [if_neg (by decide), if_neg (by decide), if_neg (by decide), if_neg (by decide), if_neg (by decide), if_neg (by decide), if_pos rfl]
  ·have e0 : wrR (⟨6, f1, f2, f3, f4⟩ : S57) = ((quoteT f2).1, (quoteT f2).2 && (f3 == 0 && f4 == 0)) := by
    unfold wrR; dsimp only; rw [if_neg (by decide), if_neg (by decide), if_neg (by decide), if_neg (by decide), if_neg (by decide), if_pos rfl]
   rw [e0] at h ⊢
   simp only [Bool.and_eq_true] at h
   exact Prod.ext rfl h.1
 ·refine ⟨(⟨#[]⟩, false), ⟨0, fun k _ => ?_⟩, fun h => ?_⟩
  ·unfold refText; dsimp only; rw [if_neg k1, if_neg k7, if_neg k2, if_neg k3, if_neg k4, if_neg k5, if_neg k6]
  ·unfold wrR at h
   dsimp only at h
   rw [if_neg k1, if_neg k2, if_neg k3, if_neg k4, if_neg k5, if_neg k6, if_neg k7, if_neg h8] at h
   cases h
theorem ref_tail (t : S57) (s : ByteArray) : ∃ b, Ev (fun k => refTail k t s) (s, b) ∧ (b = true → (wrR t).2 = true) ∧ (IsWord (Ls s) [] (atQ t 0) → s.size ≤ 8000 → b = true) := by
 obtain ⟨⟨l, x, e⟩, h1, h2⟩ := Pure.scan_both s
 refine ⟨e == 0 && refIs t l, ev_bind1 (g := fun q : List S57 × Int × Int => (s, q.2.2 == 0 && refIs t q.1)) h2, fun hb => ?_, fun hw hs => ?_⟩
 ·simp only [Bool.and_eq_true, beq_iff_eq] at hb
  obtain ⟨rfl, hb⟩ := hb
  obtain ⟨-, -, hG⟩ := scan_ok h1
  match l, hb, hG with
  | [p, q], hb, hG =>
   simp only [refIs, Bool.and_eq_true, beq_iff_eq] at hb
   obtain ⟨c0, c1, c2, c3, c4⟩ := hb
   obtain ⟨D', hP, -⟩ := pr_of_G hG
   have hw : ∃ A, IsWord A [] (atQ p 0) := by
    cases hP with
    | word0 hw _ => exact ⟨_, hw⟩
   obtain ⟨A, hw⟩ := hw
   have e2 : p.f2 = t.f2 := by
    apply ByteArray.ext
    apply Array.toList_inj.mp
    rw [← ByteArray.toList_eq, ← ByteArray.toList_eq]
    exact c2
   have e : atQ p 0 = atQ t 0 := by
    unfold atQ
    rw [c0, e2, c3, c4]
   rw [e] at hw
   rw [(word_wr hw).1]
 ·have hG : ScanG false (Ls s ++ []) 0 [atQ (atQ t 0) 0, endT (0 + (Ls s).length)] := .word hw (.endL _)
  rw [List.append_nil] at hG
  have h3 := scan_mk hs hG
  rw [h1] at h3
  simp only [Option.some.injEq, Prod.mk.injEq] at h3
  obtain ⟨rfl, -, rfl⟩ := h3
  simp [refIs, atQ]
theorem ref_wr (t : S57) (hin : tokIn t = true) (h8 : t.f0 ≠ 8) : ∃ r : ByteArray × Bool, Ev (fun k => refWr k t) r ∧ r.2 = (wrR t).2 ∧ (r.2 = true → r.1 = (wrR t).1) := by
 obtain ⟨q, ⟨K, hq⟩, hA⟩ := ref_text t hin h8
 obtain ⟨s, ok⟩ := q
 cases ok with
 | false =>
  refine ⟨(⟨#[]⟩, false), ⟨K, fun k hk => ?_⟩, ?_, fun h => (by cases h)⟩
  ·show refWr k t = _
   have e : refText k t = _ := hq k hk
   unfold refWr
   rw [e, Option.bind_some, if_neg (fun h => by cases h)]
  ·cases hw : (wrR t).2 with
   | false => rfl
   | true =>
    have := congrArg Prod.snd (hA hw)
    cases this
 | true =>
  obtain ⟨b, ⟨K2, hb⟩, hC, hB⟩ := ref_tail t s
  refine ⟨(s, b), ⟨K + K2, fun k hk => ?_⟩, ?_, fun h => ?_⟩
  ·show refWr k t = _
   have e : refText k t = _ := hq k (by omega)
   have e2 : refTail k t s = _ := hb k (by omega)
   unfold refWr
   rw [e, Option.bind_some, if_pos rfl, e2]
  ·show b = (wrR t).2
   cases hw : (wrR t).2 with
   | false =>
    cases b with
    | false => rfl
    | true => rw [hC rfl] at hw; cases hw
   | true =>
    have e := congrArg Prod.fst (hA hw)
    have e : s = (wrR t).1 := e
    have hW := wr_word h8 hw
    have hl := word_len hW
    rw [← e] at hW hl
    refine hB hW ?_
    have : (Ls s).length = s.size := Ls_len s
    omega
  ·have e : (s, true) = ((wrR t).1, true) := hA (hC h)
   have e2 : s = (wrR t).1 := congrArg Prod.fst e
   exact e2
end Go.Proofs.YtjlclkenfmbahaaGreatDoor.Gr
