/- The scanner's next, walked by hand: blanks, comments and empty lines passed over; then a line's end, a word, or a fault. Conditions: the place lies in the text, the text is of at most 8000 bytes. -/
import Derived.Test.YtjlclkenfmbahaaGreatDoorVScNumC
import Derived.Test.YtjlclkenfmbahaaGreatDoorVScQuoted
import Derived.Test.YtjlclkenfmbahaaGreatDoorVScSign
import Derived.Test.YtjlclkenfmbahaaGreatDoorVPAx0
import Derived.Test.YtjlclkenfmbahaaGreatDoorVL
namespace Go.Proofs.YtjlclkenfmbahaaGreatDoor.PA
open Go.RowKit Go.Proofs.YtjlclkenfmbahaaGreatDoorW.PrintWords Go.Proofs.YtjlclkenfmbahaaGreatDoorW.PrintLast Go.Proofs.YtjlclkenfmbahaaGreatDoorW.PrintMore
set_option linter.unusedVariables false
set_option linter.unusedSimpArgs false
def skipB (s : ByteArray) (l : Bool) : Nat → Nat → Nat
 | 0, i => i
 | n + 1, i => match (Ls s)[i]? with
  | none => i
  | some c =>
   if (c.toNat : Int) = 32 ∨ (c.toNat : Int) = 9 then skipB s l n (i + 1)
   else if (c.toNat : Int) = 35 then skipB s l n (i + runP (fun b => b.toNat != 10) s i)
   else if (c.toNat : Int) = 10 then (if l then i else skipB s l n (i + 1))
   else i
def numberR (s : ByteArray) (p : Nat) (e3 e4 : Int) : S57 × Bool × Nat × Int × Int := if datedB s p = true then dateR s p e3 e4 else numR s p e3 e4
def wordR (s : ByteArray) (q : Nat) (c : UInt8) (e3 e4 : Int) : S57 × Bool × Nat × Int × Int :=
 if isLt c = true then nameR s q e3 e4
 else if isDg c = true then numberR s q e3 e4
 else if (c.toNat : Int) = 34 then quotedR s q e3 e4
 else if isSg c = true then signR s q e3 e4
 else (⟨0, 0, ⟨#[]⟩, 0, 0⟩, false, q, 41, q)
def lineR (l : Bool) (q : Nat) (e3 e4 : Int) : S57 × Bool × Nat × Bool × Int × Int :=
 if l then (⟨8, q, ⟨#[]⟩, 0, 0⟩, true, q, false, e3, e4) else (⟨0, 0, ⟨#[]⟩, 0, 0⟩, false, q, false, e3, e4)
def nextAt (s : ByteArray) (q : Nat) (l : Bool) (e3 e4 : Int) : S57 × Bool × Nat × Bool × Int × Int :=
 match (Ls s)[q]? with
 | none => lineR l q e3 e4
 | some c => if (c.toNat : Int) = 10 then lineR l q e3 e4 else ((wordR s q c e3 e4).1, (wordR s q c e3 e4).2.1, (wordR s q c e3 e4).2.2.1, true, (wordR s q c e3 e4).2.2.2.1, (wordR s q c e3 e4).2.2.2.2)
def nextR (s : ByteArray) (p : Nat) (l : Bool) (e3 e4 : Int) : S57 × Bool × Nat × Bool × Int × Int := nextAt s (skipB s l (s.size + 1) p) l e3 e4
def ToldN (w0 w : World) (g : Nat) (s : ByteArray) (r : S57 × Bool × Nat × Bool × Int × Int) (e : Ending) (w' : World) : Prop :=
 e = .returned (.tuple #[.agg #[.int .i64 r.1.f0, .int .i64 r.1.f1, .string r.1.f2, .int .i64 r.1.f3, .int .i64 r.1.f4], .bool r.2.1]) ∧
 IsS88 w0 w' g s (r.2.2.1 : Int) r.2.2.2.1 r.2.2.2.2.1 r.2.2.2.2.2 ∧ Below w0.heap.size w0 w' ∧ KeepBut w w' g none
theorem number_calls (g : Nat) (s : ByteArray) (p : Nat) (l : Bool) (e3 e4 : Int) (w0 w : World) (hs : s.size ≤ 8000) (hp : p ≤ s.size) (hT : Tabs w0) (hI : IsS88 w0 w g s (p : Int) l e3 e4) (hB : Below w0.heap.size w0 w) :
  Calls Tryz.prog 132 #[.pointer (some ⟨g, 0, none⟩)] w (Told w0 w g s l (numberR s p e3 e4)) := by
 unfold numberR
 cases hd : datedB s p with
 | true => rw [if_pos rfl]; exact date_calls g s p l e3 e4 w0 w hs hd hT hI hB
 | false => rw [if_neg (by simp)]; exact num_calls g s p l e3 e4 w0 w hs hp hd hT hI hB
section
variable {w0 w W : World} {g : Nat} {s : ByteArray} {l : Bool} {e3 e4 : Int}
theorem told_st {x : Int} (h : St w0 w W g s x l e3 e4) {r : S57 × Bool × Nat × Int × Int} {e : Ending} {w' : World} (ht : Told w0 W g s l r e w') :
  e = .returned (.tuple #[.agg #[.int .i64 r.1.f0, .int .i64 r.1.f1, .string r.1.f2, .int .i64 r.1.f3, .int .i64 r.1.f4], .bool r.2.1]) ∧ St w0 w w' g s (r.2.2.1 : Int) l r.2.2.2.1 r.2.2.2.2 :=
 ⟨ht.1, h.call ht.2.1 ht.2.2.1 ht.2.2.2⟩
theorem name_st {p : Nat} (hs : s.size ≤ 8000) (hp : p < s.size) (hT : Tabs w0) (h : St w0 w W g s (p : Int) l e3 e4) :
  Calls Tryz.prog 131 #[.pointer (some ⟨g, 0, none⟩)] W fun e w' => e = .returned (.tuple #[.agg #[.int .i64 (nameR s p e3 e4).1.f0, .int .i64 (nameR s p e3 e4).1.f1, .string (nameR s p e3 e4).1.f2, .int .i64 (nameR s p e3 e4).1.f3, .int .i64 (nameR s p e3 e4).1.f4], .bool (nameR s p e3 e4).2.1]) ∧
   St w0 w w' g s ((nameR s p e3 e4).2.2.1 : Int) l (nameR s p e3 e4).2.2.2.1 (nameR s p e3 e4).2.2.2.2 :=
 (name_calls g s p l e3 e4 w0 W hs (by omega) hT h.i h.b).mono fun _ _ ht => told_st h ht
theorem number_st {p : Nat} (hs : s.size ≤ 8000) (hp : p < s.size) (hT : Tabs w0) (h : St w0 w W g s (p : Int) l e3 e4) :
  Calls Tryz.prog 132 #[.pointer (some ⟨g, 0, none⟩)] W fun e w' => e = .returned (.tuple #[.agg #[.int .i64 (numberR s p e3 e4).1.f0, .int .i64 (numberR s p e3 e4).1.f1, .string (numberR s p e3 e4).1.f2, .int .i64 (numberR s p e3 e4).1.f3, .int .i64 (numberR s p e3 e4).1.f4], .bool (numberR s p e3 e4).2.1]) ∧
   St w0 w w' g s ((numberR s p e3 e4).2.2.1 : Int) l (numberR s p e3 e4).2.2.2.1 (numberR s p e3 e4).2.2.2.2 :=
 (number_calls g s p l e3 e4 w0 W hs (by omega) hT h.i h.b).mono fun _ _ ht => told_st h ht
theorem quoted_st {p : Nat} (hs : s.size ≤ 8000) (hp : p < s.size) (hT : Tabs w0) (h : St w0 w W g s (p : Int) l e3 e4) :
  Calls Tryz.prog 133 #[.pointer (some ⟨g, 0, none⟩)] W fun e w' => e = .returned (.tuple #[.agg #[.int .i64 (quotedR s p e3 e4).1.f0, .int .i64 (quotedR s p e3 e4).1.f1, .string (quotedR s p e3 e4).1.f2, .int .i64 (quotedR s p e3 e4).1.f3, .int .i64 (quotedR s p e3 e4).1.f4], .bool (quotedR s p e3 e4).2.1]) ∧
   St w0 w w' g s ((quotedR s p e3 e4).2.2.1 : Int) l (quotedR s p e3 e4).2.2.2.1 (quotedR s p e3 e4).2.2.2.2 :=
 (quoted_calls g s p l e3 e4 w0 W hs hp h.i h.b).mono fun _ _ ht => told_st h ht
theorem sign_st {p : Nat} (hs : s.size ≤ 8000) (hp : p < s.size) (hT : Tabs w0) (h : St w0 w W g s (p : Int) l e3 e4) :
  Calls Tryz.prog 134 #[.pointer (some ⟨g, 0, none⟩)] W fun e w' => e = .returned (.tuple #[.agg #[.int .i64 (signR s p e3 e4).1.f0, .int .i64 (signR s p e3 e4).1.f1, .string (signR s p e3 e4).1.f2, .int .i64 (signR s p e3 e4).1.f3, .int .i64 (signR s p e3 e4).1.f4], .bool (signR s p e3 e4).2.1]) ∧
   St w0 w w' g s ((signR s p e3 e4).2.2.1 : Int) l (signR s p e3 e4).2.2.2.1 (signR s p e3 e4).2.2.2.2 :=
 (sign_calls g s p l e3 e4 w0 W hs hp h.i h.b).mono fun _ _ ht => told_st h ht
end
set_option maxRecDepth 100000 in
set_option maxHeartbeats 2000000 in
theorem next_calls (g : Nat) (s : ByteArray) (p : Nat) (l : Bool) (e3 e4 : Int) (w0 w : World) (hs : s.size ≤ 8000) (hp : p ≤ s.size) (hT : Tabs w0) (hI : IsS88 w0 w g s (p : Int) l e3 e4) (hB : Below w0.heap.size w0 w) :
  Calls Tryz.prog 85 #[.pointer (some ⟨g, 0, none⟩)] w (ToldN w0 w g s (nextR s p l e3 e4)) := by
 have HS := Aside0.mk hs
 have HP := Aside0.mk hp
 have HT := Aside0.mk hT
 have S0 := Aside0.mk (St.start hI hB)
 clear hs hp hT hI hB
 go_enter Tryz.func85, Tryz.ntmps85
 go_wp2
 go_step3
 go_wp2
 go_step3
 go_wp2
 go_loopg [] (s.size + 1) (fun kq w' => ∃ i : Nat, Hid (nextAt s (skipB s l kq i) l e3 e4 = nextR s p l e3 e4 ∧ i ≤ s.size ∧ s.size < i + kq ∧ St w0 w w' g s (i : Int) l e3 e4))
 case atStart => exact ⟨p, rfl, HP.out, by have := HP.out; omega, S0.out⟩
 case round =>
  clear S0
  obtain ⟨i, hh⟩ := hrel
  obtain ⟨ht, hi, hf, hst⟩ := hh.out
  clear hh
  have HN := Aside0.mk ht
  have HI := Aside0.mk hi
  have HF := Aside0.mk hf
  have ST := Aside0.mk hst
  clear ht hf hst
  cases gk with
  | zero => exact absurd HF.out (by omega)
  | succ k1 =>
  have hi1 : wrap64 ((i : Int) + 1) = (i : Int) + 1 := by have := HS.out; unfold wrap64; omega
  clear hi
  have hc0 := ST.out.c0
  have hc1 := ST.out.c1
  have hc2 := ST.out.c2
  have hf1 := ST.out.f 1
  have hf2 := ST.out.f 2
  by_cases hlt : i < s.size
  ·obtain ⟨b, hb⟩ := byte_some s hlt
   have hbt := bt_of s hb
   have hx : ∀ h : i < s.size, ((s[i]'h).toNat : Int) = (b.toNat : Int) := fun h => (bt_at s (i : Int) h).trans hbt.1
   have hbr : b.toNat < 256 := b.toNat_lt
   have HOF := Aside0.mk (of_eval hbr)
   generalize hcb : (b.toNat : Int) = c at hx HOF
   have HC := Aside0.mk hcb
   have HBY := Aside0.mk hb
   have HLT := Aside0.mk hlt
   clear hcb hbt hb hbr
   have p6 : ((0 : Int) ≤ (i : Int)) = True := eq_true (by omega)
   have q6 : ((i : Int) < (s.size : Int)) = True := eq_true (by omega)
   have q7 : (i < s.size) = True := eq_true hlt
   have q8 : ((i : Int) == (s.size : Int)) = false := beq_eq_false_iff_ne.mpr (by omega)
   have q9 : ((i : Int) = (s.size : Int)) = False := eq_false (by omega)
   have q10 : (i = s.size) = False := eq_false (by omega)
   clear hlt
   by_cases h32 : c = 32
   ·have k32 : (c == 32) = true := beq_iff_eq.mpr h32
    have H32 := Aside0.mk h32
    clear h32
    go_wp2
    go_quiet (fail)
    go_wp2
    go_quiet (fail)
    go_wp2
    go_roundg k1
    case measure => omega
    case rel =>
     have h1 := HLT.out
     have h2 := HF.out
     refine ⟨i + 1, ?_, ?_, ?_, ?_⟩
     ·rw [← HN.out]; conv => rhs; unfold skipB
      rw [HBY.out]; dsimp only; rw [if_pos (Or.inl (HC.out.trans H32.out))]
     ·omega
     ·omega
     ·show St w0 w _ g s ((i : Int) + 1) _ e3 e4; (with_reducible repeat (first | apply St.set1 | apply St.drewN | apply St.drew)); exact ST.out
   have k32 : (c == 32) = false := beq_eq_false_iff_ne.mpr h32
   have H32 := Aside0.mk h32
   clear h32
   by_cases h9 : c = 9
   ·have k9 : (c == 9) = true := beq_iff_eq.mpr h9
    have H9 := Aside0.mk h9
    clear h9
    go_wp2
    go_quiet (fail)
    go_wp2
    go_quiet (fail)
    go_wp2
    go_roundg k1
    case measure => omega
    case rel =>
     have h1 := HLT.out
     have h2 := HF.out
     refine ⟨i + 1, ?_, ?_, ?_, ?_⟩
     ·rw [← HN.out]; conv => rhs; unfold skipB
      rw [HBY.out]; dsimp only; rw [if_pos (Or.inr (HC.out.trans H9.out))]
     ·omega
     ·omega
     ·show St w0 w _ g s ((i : Int) + 1) _ e3 e4; (with_reducible repeat (first | apply St.set1 | apply St.drewN | apply St.drew)); exact ST.out
   have k9 : (c == 9) = false := beq_eq_false_iff_ne.mpr h9
   have H9 := Aside0.mk h9
   clear h9
   by_cases h35 : c = 35
   ·have k35 : (c == 35) = true := beq_iff_eq.mpr h35
    have H35 := Aside0.mk h35
    clear h35
    go_wp2
    go_quiet (fail)
    go_wp2
    go_quiet (fail)
    go_wp2
    have HOU := Aside0.mk HF.out
    clear hc0 hc1 hc2 hf1 hf2 hi1 p6 q6 q7 q8 q9 q10 hx HOF
    have HSUCC := Aside0.mk (Nat.lt_irrefl 0)
    go_loopg [] (runP (fun b => b.toNat != 10) s i + 1) (fun kq w' => ∃ j : Nat, Hid (kq = runP (fun b => b.toNat != 10) s (i + j) + 1 ∧ i + j + runP (fun b => b.toNat != 10) s (i + j) = i + runP (fun b => b.toNat != 10) s i ∧ i + j ≤ s.size ∧ St w0 w w' g s ((i + j : Nat) : Int) l e3 e4))
    case atStart => exact ⟨0, rfl, by rw [Nat.add_zero], by have := HLT.out; omega, (by show St w0 w _ g s (i : Int) l e3 e4; (with_reducible repeat (first | apply St.drewN | apply St.drew)); exact ST.out)⟩
    case round =>
     obtain ⟨j, hh⟩ := hrel
     obtain ⟨hk, hsum, hle, hst⟩ := hh.out
     clear hh
     have HK2 := Aside0.mk hk
     have HSUM := Aside0.mk hsum
     have HLE := Aside0.mk hle
     have S2 := Aside0.mk hst
     clear hk hsum hle hst
     have d0 := S2.out.c0
     have d1 := S2.out.c1
     have g1 := S2.out.f 1
     cases hnb : atP (fun b => b.toNat != 10) s (i + j) with
     | true =>
      obtain ⟨hrun, hlt⟩ := runP_yes hnb
      obtain ⟨b2, hb2⟩ := byte_some s hlt
      have hbt := bt_of s hb2
      have hx2 : ∀ h : i + j < s.size, ((s[i + j]'h).toNat : Int) = (b2.toNat : Int) := fun h => (bt_at s ((i + j : Nat) : Int) h).trans hbt.1
      have hne : (b2.toNat : Int) ≠ 10 := by unfold atP at hnb; rw [hb2] at hnb; simp at hnb; omega
      generalize hcb : (b2.toNat : Int) = c2 at hx2 hne
      have HC2 := Aside0.mk hcb
      have HRUN := Aside0.mk hrun
      have HLT2 := Aside0.mk hlt
      have k2 : (c2 != 10) = true := bne_iff_ne.mpr hne
      clear hcb hbt hb2 hne hrun hnb
      have p6 : ((0 : Int) ≤ (i : Int) + (j : Int)) = True := eq_true (by omega)
      have q6 : ((i : Int) + (j : Int) < (s.size : Int)) = True := eq_true (by omega)
      have q7 : (i + j < s.size) = True := eq_true hlt
      clear hlt
      cases gk with
      | zero => exact absurd HK2.out (by omega)
      | succ k3 =>
      go_wp2
      go_quiet (fail)
      go_wp2
      go_roundg k3
      case measure => omega
      case rel =>
       have hi3 : ((i + (j + 1) : Nat) : Int) = wrap64 ((i : Int) + (j : Int) + 1) := by have := HS.out; have := HLE.out; unfold wrap64; omega
       have h1 := HK2.out
       have h2 := HSUM.out
       have h3 := HRUN.out
       have h4 := HLT2.out
       refine ⟨j + 1, ?_, ?_, ?_, ?_⟩
       ·rw [← Nat.add_assoc]; omega
       ·rw [← Nat.add_assoc]; omega
       ·omega
       ·rw [hi3]; exact (S2.out.drewN _).set1 _
     | false =>
      have hj : i + runP (fun b => b.toNat != 10) s i = i + j := by
       have h0 := runP_no hnb
       have := HSUM.out
       omega
      have HJ := Aside0.mk hj
      have HNB := Aside0.mk hnb
      clear hj hnb
      by_cases hlt : i + j < s.size
      ·obtain ⟨b2, hb2⟩ := byte_some s hlt
       have hbt := bt_of s hb2
       have hx2 : ∀ h : i + j < s.size, ((s[i + j]'h).toNat : Int) = (b2.toNat : Int) := fun h => (bt_at s ((i + j : Nat) : Int) h).trans hbt.1
       have heq : (b2.toNat : Int) = 10 := by have hnb := HNB.out; unfold atP at hnb; rw [hb2] at hnb; simp at hnb; omega
       rw [heq] at hx2
       clear hbt hb2 heq
       have p6 : ((0 : Int) ≤ (i : Int) + (j : Int)) = True := eq_true (by omega)
       have q6 : ((i : Int) + (j : Int) < (s.size : Int)) = True := eq_true (by omega)
       have q7 : (i + j < s.size) = True := eq_true hlt
       clear hlt
       go_wp2
       go_quiet (fail)
       go_wp2
       go_roundg k1
       case measure => omega
       case rel =>
        have h1 := HLT.out
        have h2 := HF.out
        have h3 := HLE.out
        have h5 : 0 < runP (fun b => b.toNat != 10) s i := by
         have h6 := (runP_yes (p := fun b => b.toNat != 10) (s := s) (i := i) (by unfold atP; rw [HBY.out]; have h7 := HC.out.trans H35.out; exact bne_iff_ne.mpr (by omega))).1
         omega
        have h8 := HJ.out
        refine ⟨i + j, ?_, ?_, ?_, ?_⟩
        ·rw [← HN.out]; conv => rhs; unfold skipB
         rw [HBY.out]; dsimp only; rw [if_neg (fun h => by rcases h with h | h; exact H32.out (HC.out.symm.trans h); exact H9.out (HC.out.symm.trans h)), if_pos (HC.out.trans H35.out), HJ.out]
        ·omega
        ·omega
        ·exact S2.out.drewN _
      ·have q6 : ((i : Int) + (j : Int) < (s.size : Int)) = False := eq_false (by omega)
       have q7 : (i + j < s.size) = False := eq_false hlt
       clear hlt
       go_wp2
       go_quiet (fail)
       go_wp2
       go_roundg k1
       case measure => omega
       case rel =>
        have h1 := HLT.out
        have h2 := HF.out
        have h3 := HLE.out
        have h5 : 0 < runP (fun b => b.toNat != 10) s i := by
         have h6 := (runP_yes (p := fun b => b.toNat != 10) (s := s) (i := i) (by unfold atP; rw [HBY.out]; have h7 := HC.out.trans H35.out; exact bne_iff_ne.mpr (by omega))).1
         omega
        have h8 := HJ.out
        refine ⟨i + j, ?_, ?_, ?_, ?_⟩
        ·rw [← HN.out]; conv => rhs; unfold skipB
         rw [HBY.out]; dsimp only; rw [if_neg (fun h => by rcases h with h | h; exact H32.out (HC.out.symm.trans h); exact H9.out (HC.out.symm.trans h)), if_pos (HC.out.trans H35.out), HJ.out]
        ·omega
        ·omega
        ·exact S2.out.drewN _
   have k35 : (c == 35) = false := beq_eq_false_iff_ne.mpr h35
   have H35 := Aside0.mk h35
   clear h35
   by_cases h10 : c = 10
   ·have k10 : (c == 10) = true := beq_iff_eq.mpr h10
    have H10 := Aside0.mk h10
    clear h10
    cases l with
    | false =>
     go_wp2
     go_quiet (fail)
     go_wp2
     go_quiet (fail)
     go_wp2
     go_roundg k1
     case measure => omega
     case rel =>
      have h1 := HLT.out
      have h2 := HF.out
      refine ⟨i + 1, ?_, ?_, ?_, ?_⟩
      ·rw [← HN.out]; conv => rhs; unfold skipB
       rw [HBY.out]; dsimp only; rw [if_neg (fun h => by rcases h with h | h; exact H32.out (HC.out.symm.trans h); exact H9.out (HC.out.symm.trans h)), if_neg (fun h => H35.out (HC.out.symm.trans h)), if_pos (HC.out.trans H10.out)]; rfl
      ·omega
      ·omega
      ·show St w0 w _ g s ((i : Int) + 1) _ e3 e4; (with_reducible repeat (first | apply St.set1 | apply St.drewN | apply St.drew)); exact ST.out
    | true =>
     go_wp2
     go_quiet (fail)
     go_wp2
     go_quiet (fail)
     go_wp2
     go_quiet (fail)
     have q0 : ∀ n u, ((wr.drewN n).setCell ⟨g, 2, none⟩ (.bool u)).cell? ⟨w.heap.size, 0, none⟩ = some (.int .i64 0) := fun n u => ((ST.out.drewN n).set2 u).q0
     have q1 : ∀ n u, ((wr.drewN n).setCell ⟨g, 2, none⟩ (.bool u)).cell? ⟨w.heap.size, 1, none⟩ = some (.int .i64 0) := fun n u => ((ST.out.drewN n).set2 u).q1
     have q2 : ∀ n u, ((wr.drewN n).setCell ⟨g, 2, none⟩ (.bool u)).cell? ⟨w.heap.size, 2, none⟩ = some (.string ⟨#[]⟩) := fun n u => ((ST.out.drewN n).set2 u).q2
     have q3 : ∀ n u, ((wr.drewN n).setCell ⟨g, 2, none⟩ (.bool u)).cell? ⟨w.heap.size, 3, none⟩ = some (.int .i64 0) := fun n u => ((ST.out.drewN n).set2 u).q3
     have q4 : ∀ n u, ((wr.drewN n).setCell ⟨g, 2, none⟩ (.bool u)).cell? ⟨w.heap.size, 4, none⟩ = some (.int .i64 0) := fun n u => ((ST.out.drewN n).set2 u).q4
     have z0 : ∀ n u j, ((wr.drewN n).setCell ⟨g, 2, none⟩ u).frozen? ⟨w.heap.size, j, none⟩ = false := fun n u j => by rw [World.frozen?_setCell]; exact (ST.out.drewN n).z j
     go_wp2
     have hp := fun n => ((ST.out.drewN n).set2 false).put (.int .i64 8) (.int .i64 (i : Int)) (.string ⟨#[]⟩) (.int .i64 0) (.int .i64 0)
     rw [Exit.noGoto_ret]
     refine bodyPost_ret (results_ct rfl _ _ w.heap.size 57 #[.int .i64 8, .int .i64 (i : Int), .string ⟨#[]⟩, .int .i64 0, .int .i64 0] (0, 0) _ rfl (hp _).2.2.2 Tryz.underlying57 rfl (by kernel_rfl)) rfl ?_
     have hsk : skipB s true (k1 + 1) i = i := by
      unfold skipB
      rw [HBY.out]; dsimp only
      rw [if_neg (fun h => by rcases h with h | h; exact H32.out (HC.out.symm.trans h); exact H9.out (HC.out.symm.trans h)), if_neg (fun h => H35.out (HC.out.symm.trans h)), if_pos (HC.out.trans H10.out), if_pos rfl]
     have hna : nextR s p true e3 e4 = lineR true i e3 e4 := by
      rw [← HN.out, hsk]
      unfold nextAt
      rw [HBY.out]; dsimp only
      rw [if_pos (HC.out.trans H10.out)]
     rw [hna]
     exact ⟨rfl, (hp _).1, (hp _).2.1, (hp _).2.2.1⟩
   have k10 : (c == 10) = false := beq_eq_false_iff_ne.mpr h10
   have H10 := Aside0.mk h10
   clear h10
   have hna : nextR s p l e3 e4 = ((wordR s i b e3 e4).1, (wordR s i b e3 e4).2.1, (wordR s i b e3 e4).2.2.1, true, (wordR s i b e3 e4).2.2.2.1, (wordR s i b e3 e4).2.2.2.2) := by
    have hsk : skipB s l (k1 + 1) i = i := by
     unfold skipB
     rw [HBY.out]; dsimp only
     rw [if_neg (fun h => by rcases h with h | h; exact H32.out (HC.out.symm.trans h); exact H9.out (HC.out.symm.trans h)), if_neg (fun h => H35.out (HC.out.symm.trans h)), if_neg (fun h => H10.out (HC.out.symm.trans h))]
    rw [← HN.out, hsk]
    unfold nextAt
    rw [HBY.out]; dsimp only
    rw [if_neg (fun h => H10.out (HC.out.symm.trans h))]
   have HNA := Aside0.mk hna
   clear hna
   have kL : (Go.bits .and .u8 (ofN b.toNat) 1 != 0) = isLt b := cls_1 b
   have kD : (Go.bits .and .u8 (ofN b.toNat) 2 != 0) = isDg b := cls_2 b
   have kS : (Go.bits .and .u8 (ofN b.toNat) 8 != 0) = isSg b := cls_8 b
   generalize ho : ofN b.toNat = o at kL kD kS HOF
   clear ho
   have q0 : ∀ n u, ((wr.drewN n).setCell ⟨g, 2, none⟩ (.bool u)).cell? ⟨w.heap.size, 0, none⟩ = some (.int .i64 0) := fun n u => ((ST.out.drewN n).set2 u).q0
   have q1 : ∀ n u, ((wr.drewN n).setCell ⟨g, 2, none⟩ (.bool u)).cell? ⟨w.heap.size, 1, none⟩ = some (.int .i64 0) := fun n u => ((ST.out.drewN n).set2 u).q1
   have q2 : ∀ n u, ((wr.drewN n).setCell ⟨g, 2, none⟩ (.bool u)).cell? ⟨w.heap.size, 2, none⟩ = some (.string ⟨#[]⟩) := fun n u => ((ST.out.drewN n).set2 u).q2
   have q3 : ∀ n u, ((wr.drewN n).setCell ⟨g, 2, none⟩ (.bool u)).cell? ⟨w.heap.size, 3, none⟩ = some (.int .i64 0) := fun n u => ((ST.out.drewN n).set2 u).q3
   have q4 : ∀ n u, ((wr.drewN n).setCell ⟨g, 2, none⟩ (.bool u)).cell? ⟨w.heap.size, 4, none⟩ = some (.int .i64 0) := fun n u => ((ST.out.drewN n).set2 u).q4
   have z0 : ∀ n u j, ((wr.drewN n).setCell ⟨g, 2, none⟩ u).frozen? ⟨w.heap.size, j, none⟩ = false := fun n u j => by rw [World.frozen?_setCell]; exact (ST.out.drewN n).z j
   cases hL : isLt b with
   | true =>
    have HL := Aside0.mk hL
    rw [hL] at kL
    clear hL
    obtain ⟨r, hr⟩ : ∃ r, nameR s i e3 e4 = r := ⟨_, rfl⟩
    have HRR := Aside0.mk hr
    clear hr
    have hw : wordR s i b e3 e4 = r := by
     unfold wordR
     rw [if_pos HL.out]
     exact HRR.out
    have HW := Aside0.mk hw
    clear hw
    go_wp2
    go_quiet (fail)
    go_wp2
    go_quiet (fail)
    go_wp2
    go_quiet (fail)
    go_wp2
    go_quiet (fail)
    go_wp2_with (first | (go_at_call 115; (with_reducible refine (words_of.calls c o _ ?sf1_ HOF.out).mono ?_); (case sf1_ => exact Tabs.below HT.out (show St w0 w _ g s (i : Int) true e3 e4 from by (with_reducible repeat (first | apply St.set2 | apply St.drewN | apply St.drew)); exact ST.out).b); rintro e w' ⟨rfl, ⟨nd, rfl⟩⟩) | (go_at_call 131; refine (name_st (w0 := w0) (w := w) (g := g) (s := s) (p := i) (l := true) (e3 := e3) (e4 := e4) HS.out HLT.out HT.out ?sc2_).mono ?_; (case sc2_ => (with_reducible repeat (first | apply St.set2 | apply St.drewN | apply St.drew)); exact ST.out); rw [HRR.out]; rintro e w7 ⟨rfl, s_⟩; have S7 := Aside0.mk s_; clear s_; have q9_0 := S7.out.q0; have q9_1 := S7.out.q1; have q9_2 := S7.out.q2; have q9_3 := S7.out.q3; have q9_4 := S7.out.q4; have z9_0 := S7.out.z 0; have z9_1 := S7.out.z 1; have z9_2 := S7.out.z 2; have z9_3 := S7.out.z 3; have z9_4 := S7.out.z 4))
    obtain ⟨a1, a2, a3, a4⟩ := S7.out.put (.int .i64 r.1.f0) (.int .i64 r.1.f1) (.string r.1.f2) (.int .i64 r.1.f3) (.int .i64 r.1.f4)
    rw [Exit.noGoto_ret]
    refine bodyPost_ret (results_ct rfl _ _ w.heap.size 57 #[.int .i64 r.1.f0, .int .i64 r.1.f1, .string r.1.f2, .int .i64 r.1.f3, .int .i64 r.1.f4] (0, 0) _ rfl a4 Tryz.underlying57 rfl (by kernel_rfl)) rfl ?_
    rw [HNA.out, HW.out]
    exact ⟨rfl, a1, a2, a3⟩
   | false =>
    have HL := Aside0.mk hL
    rw [hL] at kL
    clear hL
    have nL : ¬ isLt b = true := by rw [HL.out]; simp
    have NL := Aside0.mk nL
    clear nL
    cases hD : isDg b with
    | true =>
     have HD := Aside0.mk hD
     rw [hD] at kD
     clear hD
     obtain ⟨r, hr⟩ : ∃ r, numberR s i e3 e4 = r := ⟨_, rfl⟩
     have HRR := Aside0.mk hr
     clear hr
     have hw : wordR s i b e3 e4 = r := by
      unfold wordR
      rw [if_neg NL.out, if_pos HD.out]
      exact HRR.out
     have HW := Aside0.mk hw
     clear hw
     go_wp2
     go_quiet (fail)
     go_wp2
     go_quiet (fail)
     go_wp2
     go_quiet (fail)
     go_wp2
     go_quiet (fail)
     go_wp2_with (first | (go_at_call 115; (with_reducible refine (words_of.calls c o _ ?sf3_ HOF.out).mono ?_); (case sf3_ => exact Tabs.below HT.out (show St w0 w _ g s (i : Int) true e3 e4 from by (with_reducible repeat (first | apply St.set2 | apply St.drewN | apply St.drew)); exact ST.out).b); rintro e w' ⟨rfl, ⟨nd, rfl⟩⟩) | (go_at_call 132; refine (number_st (w0 := w0) (w := w) (g := g) (s := s) (p := i) (l := true) (e3 := e3) (e4 := e4) HS.out HLT.out HT.out ?sc4_).mono ?_; (case sc4_ => (with_reducible repeat (first | apply St.set2 | apply St.drewN | apply St.drew)); exact ST.out); rw [HRR.out]; rintro e w7 ⟨rfl, s_⟩; have S7 := Aside0.mk s_; clear s_; have q9_0 := S7.out.q0; have q9_1 := S7.out.q1; have q9_2 := S7.out.q2; have q9_3 := S7.out.q3; have q9_4 := S7.out.q4; have z9_0 := S7.out.z 0; have z9_1 := S7.out.z 1; have z9_2 := S7.out.z 2; have z9_3 := S7.out.z 3; have z9_4 := S7.out.z 4))
     obtain ⟨a1, a2, a3, a4⟩ := S7.out.put (.int .i64 r.1.f0) (.int .i64 r.1.f1) (.string r.1.f2) (.int .i64 r.1.f3) (.int .i64 r.1.f4)
     rw [Exit.noGoto_ret]
     refine bodyPost_ret (results_ct rfl _ _ w.heap.size 57 #[.int .i64 r.1.f0, .int .i64 r.1.f1, .string r.1.f2, .int .i64 r.1.f3, .int .i64 r.1.f4] (0, 0) _ rfl a4 Tryz.underlying57 rfl (by kernel_rfl)) rfl ?_
     rw [HNA.out, HW.out]
     exact ⟨rfl, a1, a2, a3⟩
    | false =>
     have HD := Aside0.mk hD
     rw [hD] at kD
     clear hD
     have nD : ¬ isDg b = true := by rw [HD.out]; simp
     have ND := Aside0.mk nD
     clear nD
     by_cases h34 : c = 34
     ·have k34 : (c == 34) = true := beq_iff_eq.mpr h34
      have H34 := Aside0.mk h34
      clear h34
      obtain ⟨r, hr⟩ : ∃ r, quotedR s i e3 e4 = r := ⟨_, rfl⟩
      have HRR := Aside0.mk hr
      clear hr
      have hw : wordR s i b e3 e4 = r := by
       unfold wordR
       rw [if_neg NL.out, if_neg ND.out, if_pos (HC.out.trans H34.out)]
       exact HRR.out
      have HW := Aside0.mk hw
      clear hw
      go_wp2
      go_quiet (fail)
      go_wp2
      go_quiet (fail)
      go_wp2
      go_quiet (fail)
      go_wp2
      go_quiet (fail)
      go_wp2_with (first | (go_at_call 115; (with_reducible refine (words_of.calls c o _ ?sf5_ HOF.out).mono ?_); (case sf5_ => exact Tabs.below HT.out (show St w0 w _ g s (i : Int) true e3 e4 from by (with_reducible repeat (first | apply St.set2 | apply St.drewN | apply St.drew)); exact ST.out).b); rintro e w' ⟨rfl, ⟨nd, rfl⟩⟩) | (go_at_call 133; refine (quoted_st (w0 := w0) (w := w) (g := g) (s := s) (p := i) (l := true) (e3 := e3) (e4 := e4) HS.out HLT.out HT.out ?sc6_).mono ?_; (case sc6_ => (with_reducible repeat (first | apply St.set2 | apply St.drewN | apply St.drew)); exact ST.out); rw [HRR.out]; rintro e w7 ⟨rfl, s_⟩; have S7 := Aside0.mk s_; clear s_; have q9_0 := S7.out.q0; have q9_1 := S7.out.q1; have q9_2 := S7.out.q2; have q9_3 := S7.out.q3; have q9_4 := S7.out.q4; have z9_0 := S7.out.z 0; have z9_1 := S7.out.z 1; have z9_2 := S7.out.z 2; have z9_3 := S7.out.z 3; have z9_4 := S7.out.z 4))
      obtain ⟨a1, a2, a3, a4⟩ := S7.out.put (.int .i64 r.1.f0) (.int .i64 r.1.f1) (.string r.1.f2) (.int .i64 r.1.f3) (.int .i64 r.1.f4)
      rw [Exit.noGoto_ret]
      refine bodyPost_ret (results_ct rfl _ _ w.heap.size 57 #[.int .i64 r.1.f0, .int .i64 r.1.f1, .string r.1.f2, .int .i64 r.1.f3, .int .i64 r.1.f4] (0, 0) _ rfl a4 Tryz.underlying57 rfl (by kernel_rfl)) rfl ?_
      rw [HNA.out, HW.out]
      exact ⟨rfl, a1, a2, a3⟩
     ·have k34 : (c == 34) = false := beq_eq_false_iff_ne.mpr h34
      have H34 := Aside0.mk h34
      clear h34
      cases hS : isSg b with
      | true =>
       have HSG := Aside0.mk hS
       rw [hS] at kS
       clear hS
       obtain ⟨r, hr⟩ : ∃ r, signR s i e3 e4 = r := ⟨_, rfl⟩
       have HRR := Aside0.mk hr
       clear hr
       have hw : wordR s i b e3 e4 = r := by
        unfold wordR
        rw [if_neg NL.out, if_neg ND.out, if_neg (fun h => H34.out (HC.out.symm.trans h)), if_pos HSG.out]
        exact HRR.out
       have HW := Aside0.mk hw
       clear hw
       go_wp2
       go_quiet (fail)
       go_wp2
       go_quiet (fail)
       go_wp2
       go_quiet (fail)
       go_wp2
       go_quiet (fail)
       go_wp2_with (first | (go_at_call 115; (with_reducible refine (words_of.calls c o _ ?sf7_ HOF.out).mono ?_); (case sf7_ => exact Tabs.below HT.out (show St w0 w _ g s (i : Int) true e3 e4 from by (with_reducible repeat (first | apply St.set2 | apply St.drewN | apply St.drew)); exact ST.out).b); rintro e w' ⟨rfl, ⟨nd, rfl⟩⟩) | (go_at_call 134; refine (sign_st (w0 := w0) (w := w) (g := g) (s := s) (p := i) (l := true) (e3 := e3) (e4 := e4) HS.out HLT.out HT.out ?sc8_).mono ?_; (case sc8_ => (with_reducible repeat (first | apply St.set2 | apply St.drewN | apply St.drew)); exact ST.out); rw [HRR.out]; rintro e w7 ⟨rfl, s_⟩; have S7 := Aside0.mk s_; clear s_; have q9_0 := S7.out.q0; have q9_1 := S7.out.q1; have q9_2 := S7.out.q2; have q9_3 := S7.out.q3; have q9_4 := S7.out.q4; have z9_0 := S7.out.z 0; have z9_1 := S7.out.z 1; have z9_2 := S7.out.z 2; have z9_3 := S7.out.z 3; have z9_4 := S7.out.z 4))
       obtain ⟨a1, a2, a3, a4⟩ := S7.out.put (.int .i64 r.1.f0) (.int .i64 r.1.f1) (.string r.1.f2) (.int .i64 r.1.f3) (.int .i64 r.1.f4)
       rw [Exit.noGoto_ret]
       refine bodyPost_ret (results_ct rfl _ _ w.heap.size 57 #[.int .i64 r.1.f0, .int .i64 r.1.f1, .string r.1.f2, .int .i64 r.1.f3, .int .i64 r.1.f4] (0, 0) _ rfl a4 Tryz.underlying57 rfl (by kernel_rfl)) rfl ?_
       rw [HNA.out, HW.out]
       exact ⟨rfl, a1, a2, a3⟩
      | false =>
       have HSG := Aside0.mk hS
       rw [hS] at kS
       clear hS
       have hw : wordR s i b e3 e4 = (⟨0, 0, ⟨#[]⟩, 0, 0⟩, false, i, 41, (i : Int)) := by
        unfold wordR
        rw [if_neg NL.out, if_neg ND.out, if_neg (fun h => H34.out (HC.out.symm.trans h)), if_neg (by rw [HSG.out]; simp)]
       have HW := Aside0.mk hw
       clear hw
       go_wp2
       go_quiet (fail)
       go_wp2
       go_quiet (fail)
       go_wp2
       go_quiet (fail)
       go_wp2
       go_quiet (fail)
       go_wp2_with (first | (go_at_call 115; (with_reducible refine (words_of.calls c o _ ?sf9_ HOF.out).mono ?_); (case sf9_ => exact Tabs.below HT.out (show St w0 w _ g s (i : Int) true e3 e4 from by (with_reducible repeat (first | apply St.set2 | apply St.drewN | apply St.drew)); exact ST.out).b); rintro e w' ⟨rfl, ⟨nd, rfl⟩⟩) | (go_at_call 135; refine (fail_st (w0 := w0) (w := w) (s := s) (x := (i : Int)) (l := true) (e3 := e3) (e4 := e4) ?sc10_ 41 (i : Int)).mono ?_; (case sc10_ => (with_reducible repeat (first | apply St.set2 | apply St.drewN | apply St.drew)); exact ST.out); rintro e w7 ⟨rfl, s_⟩; have S7 := Aside0.mk s_; clear s_; have q9_0 := S7.out.q0; have q9_1 := S7.out.q1; have q9_2 := S7.out.q2; have q9_3 := S7.out.q3; have q9_4 := S7.out.q4; have z9_0 := S7.out.z 0; have z9_1 := S7.out.z 1; have z9_2 := S7.out.z 2; have z9_3 := S7.out.z 3; have z9_4 := S7.out.z 4))
       obtain ⟨a1, a2, a3, a4⟩ := S7.out.put (.int .i64 0) (.int .i64 0) (.string ⟨#[]⟩) (.int .i64 0) (.int .i64 0)
       rw [Exit.noGoto_ret]
       refine bodyPost_ret (results_ct rfl _ _ w.heap.size 57 #[.int .i64 0, .int .i64 0, .string ⟨#[]⟩, .int .i64 0, .int .i64 0] (0, 0) _ rfl a4 Tryz.underlying57 rfl (by kernel_rfl)) rfl ?_
       rw [HNA.out, HW.out]
       exact ⟨rfl, a1, a2, a3⟩
  ·have hie : i = s.size := by have := HI.out; omega
   have HIE := Aside0.mk hie
   have q6 : ((i : Int) < (s.size : Int)) = False := eq_false (by omega)
   have q7 : (i < s.size) = False := eq_false hlt
   have q8 : ((i : Int) == (s.size : Int)) = true := beq_iff_eq.mpr (by omega)
   have q9 : ((i : Int) = (s.size : Int)) = True := eq_true (by omega)
   have q10 : (i = s.size) = True := eq_true hie
   have HNB := Aside0.mk (byte_none s hlt)
   clear hie hlt
   have hsk : skipB s l (k1 + 1) i = i := by
    unfold skipB
    rw [HNB.out]
   have hna : nextR s p l e3 e4 = lineR l i e3 e4 := by
    rw [← HN.out, hsk]
    unfold nextAt
    rw [HNB.out]
   have HNA := Aside0.mk hna
   clear hsk hna
   cases l with
   | false =>
    have y0 := ST.out.q0
    have y1 := ST.out.q1
    have y2 := ST.out.q2
    have y3 := ST.out.q3
    have y4 := ST.out.q4
    have x0 := ST.out.z 0
    have x1 := ST.out.z 1
    have x2 := ST.out.z 2
    have x3 := ST.out.z 3
    have x4 := ST.out.z 4
    go_wp2
    go_quiet (fail)
    go_wp2
    go_quiet (fail)
    go_wp2
    have hp := fun n => (ST.out.drewN n).put (.int .i64 0) (.int .i64 0) (.string ⟨#[]⟩) (.int .i64 0) (.int .i64 0)
    rw [Exit.noGoto_ret]
    refine bodyPost_ret (results_ct rfl _ _ w.heap.size 57 #[.int .i64 0, .int .i64 0, .string ⟨#[]⟩, .int .i64 0, .int .i64 0] (0, 0) _ rfl (hp _).2.2.2 Tryz.underlying57 rfl (by kernel_rfl)) rfl ?_
    rw [HNA.out]
    exact ⟨rfl, (hp _).1, (hp _).2.1, (hp _).2.2.1⟩
   | true =>
    have q0 : ∀ n u, ((wr.drewN n).setCell ⟨g, 2, none⟩ (.bool u)).cell? ⟨w.heap.size, 0, none⟩ = some (.int .i64 0) := fun n u => ((ST.out.drewN n).set2 u).q0
    have q1 : ∀ n u, ((wr.drewN n).setCell ⟨g, 2, none⟩ (.bool u)).cell? ⟨w.heap.size, 1, none⟩ = some (.int .i64 0) := fun n u => ((ST.out.drewN n).set2 u).q1
    have q2 : ∀ n u, ((wr.drewN n).setCell ⟨g, 2, none⟩ (.bool u)).cell? ⟨w.heap.size, 2, none⟩ = some (.string ⟨#[]⟩) := fun n u => ((ST.out.drewN n).set2 u).q2
    have q3 : ∀ n u, ((wr.drewN n).setCell ⟨g, 2, none⟩ (.bool u)).cell? ⟨w.heap.size, 3, none⟩ = some (.int .i64 0) := fun n u => ((ST.out.drewN n).set2 u).q3
    have q4 : ∀ n u, ((wr.drewN n).setCell ⟨g, 2, none⟩ (.bool u)).cell? ⟨w.heap.size, 4, none⟩ = some (.int .i64 0) := fun n u => ((ST.out.drewN n).set2 u).q4
    have z0 : ∀ n u j, ((wr.drewN n).setCell ⟨g, 2, none⟩ u).frozen? ⟨w.heap.size, j, none⟩ = false := fun n u j => by rw [World.frozen?_setCell]; exact (ST.out.drewN n).z j
    go_wp2
    go_quiet (fail)
    go_wp2
    go_quiet (fail)
    go_wp2
    have hp := fun n => ((ST.out.drewN n).set2 false).put (.int .i64 8) (.int .i64 (i : Int)) (.string ⟨#[]⟩) (.int .i64 0) (.int .i64 0)
    rw [Exit.noGoto_ret]
    refine bodyPost_ret (results_ct rfl _ _ w.heap.size 57 #[.int .i64 8, .int .i64 (i : Int), .string ⟨#[]⟩, .int .i64 0, .int .i64 0] (0, 0) _ rfl (hp _).2.2.2 Tryz.underlying57 rfl (by kernel_rfl)) rfl ?_
    rw [HNA.out]
    exact ⟨rfl, (hp _).1, (hp _).2.1, (hp _).2.2.1⟩
end Go.Proofs.YtjlclkenfmbahaaGreatDoor.PA
