/- The scanner's number where no date stands, walked by hand: a count, an amount or a percent. Conditions: the place lies in the text, the text is of at most 8000 bytes. -/
import Derived.Test.YtjlclkenfmbahaaGreatDoorVScNumber
import Derived.Deep.DeepCutAuto
import Derived.Test.YtjlclkenfmbahaaGreatDoorVPAx0
import Derived.Test.YtjlclkenfmbahaaGreatDoorVL
namespace Go.Proofs.YtjlclkenfmbahaaGreatDoor.PA
open Go.RowKit Go.Proofs.YtjlclkenfmbahaaGreatDoorW.PrintWords Go.Proofs.YtjlclkenfmbahaaGreatDoorW.PrintLast Go.Proofs.YtjlclkenfmbahaaGreatDoorW.PrintMore
set_option linter.unusedVariables false
set_option linter.unusedSimpArgs false
def ptB (s : ByteArray) (q : Nat) : Bool := atP (fun b => b.toNat == 46) s q && atP isDg s (q + 1)
def mB (s : ByteArray) (q : Nat) : Nat := if ptB s q then q + 1 + runP isDg s (q + 1) else q
def partB (s : ByteArray) (q : Nat) : ByteArray := if ptB s q then s.extract (q + 1) (q + 1 + runP isDg s (q + 1)) else ⟨#[]⟩
def pcB (s : ByteArray) (m : Nat) : Bool := atP (fun b => b.toNat == 37) s m
def m2B (s : ByteArray) (m : Nat) : Nat := if pcB s m then m + 1 else m
def resR (s : ByteArray) (p : Nat) : S57 × Bool :=
 let q := p + runP isDg s p
 let m := mB s q
 if atP isLu s (m2B s m) = true then (⟨0, 0, ⟨#[]⟩, 0, 0⟩, false)
 else if 1 < runP isDg s p ∧ bt s (p : Int) = 48 then (⟨0, 0, ⟨#[]⟩, 0, 0⟩, false)
 else if pcB s m = true then ratioR (Ls (s.extract p q)) (Ls (partB s q))
 else if ptB s q = true then amountR (Ls (s.extract p q)) (Ls (partB s q))
 else countR (Ls (s.extract p q))
def numR (s : ByteArray) (p : Nat) (e3 e4 : Int) : S57 × Bool × Nat × Int × Int :=
 if (resR s p).2 = true then (⟨(resR s p).1.f0, p, (resR s p).1.f2, (resR s p).1.f3, (resR s p).1.f4⟩, true, m2B s (mB s (p + runP isDg s p)), e3, e4)
 else (⟨0, 0, ⟨#[]⟩, 0, 0⟩, false, m2B s (mB s (p + runP isDg s p)), 42, p)
theorem mB_le {s : ByteArray} {q : Nat} (h : q ≤ s.size) : mB s q ≤ s.size := by
 unfold mB
 split
 ·next hp =>
  unfold ptB at hp
  have h2 := (Bool.and_eq_true _ _).mp hp
  exact runP_le isDg s (q + 1) (by have := (runP_yes h2.2).2; omega)
 ·exact h
theorem run_digits (s : ByteArray) (p : Nat) (hp : p ≤ s.size) : ∀ x ∈ Ls (s.extract p (p + runP isDg s p)), isDg x = true := by
 intro x hx
 have e : Ls (s.extract p (p + runP isDg s p)) = ((Ls s).drop p).takeWhile isDg := by
  show (s.extract p (p + runP isDg s p)).data.toList = _
  rw [ByteArray.data_extract, Array.toList_extract, List.extract_eq_take_drop, Nat.add_sub_cancel_left]
  unfold runP
  exact (List.prefix_iff_eq_take.1 (List.takeWhile_prefix isDg)).symm
 rw [e] at hx
 exact List.all_eq_true.1 List.all_takeWhile x hx
theorem is_quietX (g : Nat) (s : ByteArray) (i : Nat) (m x : Int) (W : World) (hx : x = (i : Int)) (hT : Tabs W) (hc : W.cell? ⟨g, 0, none⟩ = some (.string s)) :
  Calls Tryz.prog 201 #[.pointer (some ⟨g, 0, none⟩), .int .i64 x, .int .u8 m] W fun e w' => e = .returned (.bool (isC m s i)) ∧ ∃ n, w' = W.drewN n := by
 subst hx
 exact is_quiet g s i m W hT hc
set_option maxRecDepth 100000 in
set_option maxHeartbeats 1000000 in
theorem num_calls (g : Nat) (s : ByteArray) (p : Nat) (l : Bool) (e3 e4 : Int) (w0 w : World) (hs : s.size ≤ 8000) (hp : p ≤ s.size) (hd : datedB s p = false) (hT : Tabs w0) (hI : IsS88 w0 w g s (p : Int) l e3 e4) (hB : Below w0.heap.size w0 w) :
  Calls Tryz.prog 132 #[.pointer (some ⟨g, 0, none⟩)] w (Told w0 w g s l (numR s p e3 e4)) := by
 have HS := Aside0.mk hs
 have HP := Aside0.mk hp
 have HT := Aside0.mk hT
 have HD := Aside0.mk hd
 have S0 := Aside0.mk (St.start hI hB)
 have hc1 := S0.out.c1
 clear hs hp hd hT hI hB
 go_enter Tryz.func132, Tryz.ntmps132
 go_wp2_with (first | (go_at_call 202; refine (dated_st (w0 := w0) (w := w) S0.out HT.out p HS.out HP.out).mono ?_; rw [HD.out]; rintro e w1 ⟨rfl, s1_⟩; have S1 := Aside0.mk s1_; clear s1_))
 clear hc1 S0
 go_loopg [] (runP isDg s p + 1) (fun kq w' => ∃ j, Hid (kq = runP isDg s (p + j) + 1 ∧ p + j + runP isDg s (p + j) = p + runP isDg s p ∧ p + j ≤ s.size ∧ St w0 w w' g s ((p + j : Nat) : Int) l e3 e4))
 case atStart =>
  have hle := HP.out
  exact ⟨0, rfl, by rw [Nat.add_zero], by omega, S1.out⟩
 case round =>
  clear S1
  obtain ⟨j, hh⟩ := hrel
  obtain ⟨hk, hsum, hle, hst⟩ := hh.out
  clear hh
  have HK := Aside0.mk hk
  have HSUM := Aside0.mk hsum
  have HLE := Aside0.mk hle
  have ST := Aside0.mk hst
  have HTW := Aside0.mk (Tabs.below HT.out hst.b)
  have hc1 := hst.c1
  have hf1 := hst.f 1
  clear hk hsum hle hst
  cases hy : isC 2 s (p + j) with
  | true =>
   obtain ⟨hrun, hlt⟩ := runP_yes (p := isDg) (s := s) (i := p + j) (by rw [← isC_2]; exact hy)
   cases gk with
   | zero => exact absurd HK.out (by omega)
   | succ k1 =>
   have HY := Aside0.mk hy
   clear hy
   go_wp2_with (first | (go_at_call 201; refine (is_quiet g s (p + j) 2 _ HTW.out ST.out.c0).mono ?_; rw [HY.out]; rintro e w1 ⟨rfl, ⟨nd, rfl⟩⟩))
   go_roundg k1
   case measure => omega
   case rel =>
    have hi1 : ((p + (j + 1) : Nat) : Int) = wrap64 ((p : Int) + (j : Int) + 1) := by have := HS.out; have := HLE.out; unfold wrap64; omega
    refine ⟨j + 1, ?_, ?_, ?_, ?_⟩
    ·have := HK.out; rw [← Nat.add_assoc]; omega
    ·have := HSUM.out; rw [← Nat.add_assoc]; omega
    ·omega
    ·rw [hi1]; exact (ST.out.drewN nd).set1 _
  | false =>
   have hj : runP isDg s p = j := by
    have h0 := runP_no (p := isDg) (s := s) (i := p + j) (by rw [← isC_2]; exact hy)
    have := HSUM.out
    omega
   have HJ := Aside0.mk hj
   have HY := Aside0.mk hy
   clear hj hy HSUM HK hc1 hf1
   have d0 := ST.out.c0
   have d1 := ST.out.c1
   have n1 : (0 : Int) ≤ (p : Int) := by omega
   have n2 : (p : Int) ≤ (p : Int) + (j : Int) := by omega
   have n3 : (p : Int) + (j : Int) ≤ (s.size : Int) := by have := HLE.out; omega
   go_wp2_with (first | (go_at_call 201; refine (is_quiet g s (p + j) 2 _ HTW.out ST.out.c0).mono ?_; rw [HY.out]; rintro e w1 ⟨rfl, ⟨nd, rfl⟩⟩))
   go_quiet (fail)
   go_wp2
   have S1 := Aside0.mk ((ST.out.drewN nd).drewN nq)
   obtain ⟨W1, hW1⟩ : ∃ W1, (wr.drewN nd).drewN nq = W1 := ⟨_, rfl⟩
   rw [hW1] at S1 ⊢
   obtain ⟨q, hq⟩ : ∃ q, p + j = q := ⟨_, rfl⟩
   rw [hq] at S1 HLE ⊢
   have HQ := Aside0.mk hq
   clear hW1 hq ST HTW d0 d1 n1 n2 n3 HY
   have HT1 := Aside0.mk (Tabs.below HT.out S1.out.b)
   have hi1 : wrap64 ((q : Int) + 1) = (q : Int) + 1 := by have := HS.out; have := HLE.out; unfold wrap64; omega
   go_cut [10] from 85 to 115 (fun v10 wc => v10 = .bool (ptB s q) ∧ Aside0 (St w0 w wc g s (q : Int) l e3 e4))
   case first =>
    have d0 := S1.out.c0
    have d1 := S1.out.c1
    by_cases hlt : q < s.size
    ·skip
     obtain ⟨b, hb⟩ := byte_some s hlt
     have hbt := bt_of s hb
     have hx : ∀ h : q < s.size, ((s[q]'h).toNat : Int) = (b.toNat : Int) := fun h => (bt_at s (q : Int) h).trans hbt.1
     generalize hcb : (b.toNat : Int) = c at hx
     have HC := Aside0.mk hcb
     have HBY := Aside0.mk hb
     have HLT := Aside0.mk hlt
     clear hcb hbt hb
     have p6 : ((0 : Int) ≤ (q : Int)) = True := eq_true (by omega)
     have q6 : ((q : Int) < (s.size : Int)) = True := eq_true (by omega)
     have q7 : (q < s.size) = True := eq_true hlt
     clear hlt
     by_cases h46 : c = 46
     ·have k46 : (c == 46) = true := beq_iff_eq.mpr h46
      have H46 := Aside0.mk h46
      clear h46
      go_quiet (first | (go_at_call 201; refine Calls.quiet_of (is_quietX g s (q + 1) 2 _ (W1.drewN _) ?hxq (HT1.out.drewN _) (S1.out.drewN _).c0); case hxq => first | rfl | (rw [IntKind.wrap_i64]; have h1 := HS.out; have h2 := HLE.out; omega)))
      go_wp2
      go_meet
      case rel =>
       refine ⟨congrArg Value.bool ?_, ⟨S1.out.drewN _⟩⟩
       unfold ptB
       rw [← isC_2]; unfold atP; rw [HBY.out]
       have := HC.out.trans H46.out
       simp; omega
     ·have k46 : (c == 46) = false := beq_eq_false_iff_ne.mpr h46
      have H46 := Aside0.mk h46
      clear h46
      go_quiet (fail)
      go_wp2
      go_meet
      case rel =>
       refine ⟨congrArg Value.bool ?_, ⟨S1.out.drewN _⟩⟩
       unfold ptB atP; rw [HBY.out]
       have h1 := HC.out
       have h2 := H46.out
       have h3 : (b.toNat == 46) = false := beq_eq_false_iff_ne.mpr (by omega)
       simp [h3]
    ·have q6 : ((q : Int) < (s.size : Int)) = False := eq_false (by omega)
     have q7 : (q < s.size) = False := eq_false hlt
     have HLT := Aside0.mk hlt
     clear hlt
     go_quiet (fail)
     go_wp2
     go_meet
     case rel =>
      refine ⟨congrArg Value.bool ?_, ⟨S1.out.drewN _⟩⟩
      unfold ptB atP; rw [byte_none s HLT.out]
      rfl
   case rest =>
    obtain ⟨rfl, S2⟩ := hcut
    clear S1 HT1
    have HT2 := Aside0.mk (Tabs.below HT.out S2.out.b)
    go_upto_if 116 with fail
    go_cut [9, 10, 11] from 116 to 150 (fun v9 v10 v11 wc => v9 = .string (partB s q) ∧ v10 = .bool (ptB s q) ∧ Aside0 (St w0 w wc g s (mB s q : Int) l e3 e4))
    case first =>
     cases hpt : ptB s q with
     | true =>
      have HPT := Aside0.mk hpt
      have hq1 : q + 1 < s.size := by
       have h := hpt
       unfold ptB at h
       have h2 := (Bool.and_eq_true _ _).mp h
       exact (runP_yes h2.2).2
      have HQ1 := Aside0.mk hq1
      clear hpt hq1
      have d1 := S2.out.c1
      have f1 := S2.out.f 1
      go_wp2
      go_loopg [] (runP isDg s (q + 1) + 1) (fun kq w' => ∃ j, Hid (kq = runP isDg s (q + 1 + j) + 1 ∧ q + 1 + j + runP isDg s (q + 1 + j) = q + 1 + runP isDg s (q + 1) ∧ q + 1 + j ≤ s.size ∧ St w0 w w' g s ((q + 1 + j : Nat) : Int) l e3 e4))
      case atStart =>
       refine ⟨0, rfl, by rw [Nat.add_zero], by have := HQ1.out; omega, ?_⟩
       have h := S2.out.set1 ((q : Int) + 1)
       exact h
      case round =>
       clear d1 f1 HJ hi1
       obtain ⟨j2, hh⟩ := hrel
       obtain ⟨hk, hsum, hle, hst⟩ := hh.out
       clear hh
       have HK := Aside0.mk hk
       have HSUM := Aside0.mk hsum
       have HLE2 := Aside0.mk hle
       have ST := Aside0.mk hst
       have HTW := Aside0.mk (Tabs.below HT.out hst.b)
       have hc1 := hst.c1
       have hf1 := hst.f 1
       clear hk hsum hle hst
       cases hy : isC 2 s (q + 1 + j2) with
       | true =>
        obtain ⟨hrun, hlt⟩ := runP_yes (p := isDg) (s := s) (i := q + 1 + j2) (by rw [← isC_2]; exact hy)
        cases gk with
        | zero => exact absurd HK.out (by omega)
        | succ k1 =>
        have HY := Aside0.mk hy
        clear hy
        go_wp2_with (first | (go_at_call 201; refine (is_quietX g s (q + 1 + j2) 2 _ _ ?hxr HTW.out ST.out.c0).mono ?_; (case hxr => first | rfl | omega); rw [HY.out]; rintro e w1 ⟨rfl, ⟨nd, rfl⟩⟩))
        go_roundg k1
        case measure => omega
        case rel =>
         have hi3 : ((q + 1 + (j2 + 1) : Nat) : Int) = wrap64 ((q : Int) + 1 + (j2 : Int) + 1) := by have := HS.out; have := HLE2.out; unfold wrap64; omega
         refine ⟨j2 + 1, ?_, ?_, ?_, ?_⟩
         ·have := HK.out; rw [← Nat.add_assoc]; omega
         ·have := HSUM.out; rw [← Nat.add_assoc]; omega
         ·omega
         ·rw [hi3]; exact (ST.out.drewN nd).set1 _
       | false =>
        have hj : runP isDg s (q + 1) = j2 := by
         have h0 := runP_no (p := isDg) (s := s) (i := q + 1 + j2) (by rw [← isC_2]; exact hy)
         have := HSUM.out
         omega
        have HJ2 := Aside0.mk hj
        have HY := Aside0.mk hy
        clear hj hy HSUM HK hc1 hf1
        have d0 := ST.out.c0
        have d1 := ST.out.c1
        have n1 : (0 : Int) ≤ (q : Int) + 1 := by omega
        have n2 : (q : Int) + 1 ≤ (q : Int) + 1 + (j2 : Int) := by omega
        have n3 : (q : Int) + 1 + (j2 : Int) ≤ (s.size : Int) := by have := HLE2.out; omega
        go_wp2_with (first | (go_at_call 201; refine (is_quietX g s (q + 1 + j2) 2 _ _ ?hxs HTW.out ST.out.c0).mono ?_; (case hxs => first | rfl | omega); rw [HY.out]; rintro e w1 ⟨rfl, ⟨nd, rfl⟩⟩))
        go_quiet (fail)
        go_wp2
        go_meet
        case rel =>
         refine ⟨congrArg Value.string ?_, congrArg Value.bool HPT.out.symm, ⟨?_⟩⟩
         ·unfold partB
          rw [HPT.out, if_pos rfl, HJ2.out]
         ·unfold mB
          rw [HPT.out, if_pos rfl, HJ2.out]
          exact (ST.out.drewN _).drewN _
     | false =>
      have HPT := Aside0.mk hpt
      clear hpt
      go_wp2
      go_meet
      case rel =>
       refine ⟨congrArg Value.string ?_, congrArg Value.bool HPT.out.symm, ⟨?_⟩⟩
       ·unfold partB
        rw [HPT.out]; rfl
       ·unfold mB
        rw [HPT.out]
        exact S2.out
    case rest =>
     obtain ⟨rfl, rfl, S3⟩ := hcut
     have hmle := mB_le (s := s) (q := q) HLE.out
     obtain ⟨m, hm⟩ : ∃ m, mB s q = m := ⟨_, rfl⟩
     rw [hm] at S3 hmle
     have HM := Aside0.mk hm
     have HMLE := Aside0.mk hmle
     clear hm hmle S2 HT2 hi1
     go_upto_region 18 with fail
     go_cut [12] from 151 to 172 (fun v12 wc => v12 = .bool (pcB s m) ∧ Aside0 (St w0 w wc g s (m : Int) l e3 e4))
     case first =>
      have d0 := S3.out.c0
      have d1 := S3.out.c1
      by_cases hlt : m < s.size
      ·obtain ⟨b, hb⟩ := byte_some s hlt
       have hbt := bt_of s hb
       have hx : ∀ h : m < s.size, ((s[m]'h).toNat : Int) = (b.toNat : Int) := fun h => (bt_at s (m : Int) h).trans hbt.1
       generalize hcb : (b.toNat : Int) = c at hx
       have HC := Aside0.mk hcb
       have HBY := Aside0.mk hb
       have HLT := Aside0.mk hlt
       clear hcb hbt hb
       have p6 : ((0 : Int) ≤ (m : Int)) = True := eq_true (by omega)
       have q6 : ((m : Int) < (s.size : Int)) = True := eq_true (by omega)
       have q7 : (m < s.size) = True := eq_true hlt
       clear hlt
       by_cases h37 : c = 37
       ·have k37 : (c == 37) = true := beq_iff_eq.mpr h37
        have H37 := Aside0.mk h37
        clear h37
        go_quiet (fail)
        go_wp2
        go_meet
        case rel =>
         refine ⟨congrArg Value.bool ?_, ⟨S3.out.drewN _⟩⟩
         unfold pcB atP; rw [HBY.out]
         have := HC.out.trans H37.out
         simp; omega
       ·have k37 : (c == 37) = false := beq_eq_false_iff_ne.mpr h37
        have H37 := Aside0.mk h37
        clear h37
        go_quiet (fail)
        go_wp2
        go_meet
        case rel =>
         refine ⟨congrArg Value.bool ?_, ⟨S3.out.drewN _⟩⟩
         unfold pcB atP; rw [HBY.out]
         have h1 := HC.out
         have h2 := H37.out
         exact (beq_eq_false_iff_ne.mpr (by omega)).symm
      ·have q6 : ((m : Int) < (s.size : Int)) = False := eq_false (by omega)
       have q7 : (m < s.size) = False := eq_false hlt
       have HLT := Aside0.mk hlt
       clear hlt
       go_quiet (fail)
       go_wp2
       go_meet
       case rel =>
        refine ⟨congrArg Value.bool ?_, ⟨S3.out.drewN _⟩⟩
        unfold pcB atP; rw [byte_none s HLT.out]
     case rest =>
      obtain ⟨rfl, S4⟩ := hcut
      clear S3
      have hi1 : wrap64 ((m : Int) + 1) = (m : Int) + 1 := by have := HS.out; have := HMLE.out; unfold wrap64; omega
      go_upto_if 173 with fail
      go_cut [12] from 173 to 180 (fun v12 wc => v12 = .bool (pcB s m) ∧ Aside0 (St w0 w wc g s (m2B s m : Int) l e3 e4))
      case first =>
       have d1 := S4.out.c1
       have f1 := S4.out.f 1
       cases hpc : pcB s m with
       | true =>
        have HPC := Aside0.mk hpc
        clear hpc
        go_wp2
        go_meet
        case rel =>
         refine ⟨congrArg Value.bool HPC.out.symm, ⟨?_⟩⟩
         unfold m2B
         rw [HPC.out, if_pos rfl]
         exact S4.out.set1 _
       | false =>
        have HPC := Aside0.mk hpc
        clear hpc
        go_wp2
        go_meet
        case rel =>
         refine ⟨congrArg Value.bool HPC.out.symm, ⟨?_⟩⟩
         unfold m2B
         rw [HPC.out]
         exact S4.out
      case rest =>
       obtain ⟨rfl, S5⟩ := hcut
       obtain ⟨m2, hm2⟩ : ∃ m2, m2B s m = m2 := ⟨_, rfl⟩
       rw [hm2] at S5
       have HM2 := Aside0.mk hm2
       clear hm2 S4 hi1
       have hqj : p + runP isDg s p = q := by rw [HJ.out]; exact HQ.out
       have HQJ := Aside0.mk hqj
       clear hqj
       have hws : (s.extract p q).size = j := by
        have h1 := HQ.out
        have h2 := HLE.out
        rw [ByteArray.size_extract]
        omega
       have hda : ∀ y ∈ Ls (s.extract p q), isDg y = true := by
        have h := run_digits s p HP.out
        rw [HQJ.out] at h
        exact h
       have hdb : ∀ y ∈ Ls (partB s q), isDg y = true := by
        unfold partB
        split
        ·next hp =>
         unfold ptB at hp
         exact run_digits s (q + 1) (by have := (runP_yes ((Bool.and_eq_true _ _).mp hp).2).2; omega)
        ·intro y hy; cases hy
       have hsz : (s.extract p q).size + (partB s q).size ≤ 8000 := by
        have h1 := HQ.out
        have h2 := HLE.out
        have h3 := HS.out
        rw [hws]
        unfold partB
        split
        ·next hp =>
         unfold ptB at hp
         have h4 := runP_le isDg s (q + 1) (by have := (runP_yes ((Bool.and_eq_true _ _).mp hp).2).2; omega)
         rw [ByteArray.size_extract]
         omega
        ·show j + 0 ≤ 8000
         omega
       have hb0 : ∀ h : 0 < (s.extract p q).size, (((s.extract p q)[0]'h).toNat : Int) = bt s (p : Int) := by
        intro h
        rw [hws] at h
        have h1 := HQ.out
        have h2 := HLE.out
        rw [ByteArray.getElem_extract]
        exact bt_at s (p : Int) (by show p < s.size; omega)
       obtain ⟨wh, hwh⟩ : ∃ wh, s.extract p q = wh := ⟨_, rfl⟩
       rw [hwh] at hws hda hsz hb0 ⊢
       have HWH := Aside0.mk hwh
       have HWS := Aside0.mk hws
       have HDA := Aside0.mk hda
       have HDB := Aside0.mk hdb
       have HSZ := Aside0.mk hsz
       clear hwh hws hda hdb hsz
       generalize hc0 : bt s (p : Int) = c0 at hb0
       have HC0 := Aside0.mk hc0
       clear hc0
       have S6 := Aside0.mk (S5.out.alloc_ (.cells #[.int .i64 0, .int .i64 0, .string ⟨#[]⟩, .int .i64 0, .int .i64 0] 57))
       have HT6 := Aside0.mk (Tabs.below HT.out S6.out.b)
       have d1 := S6.out.c1
       have HBK := Aside0.mk (heap_alloc_new wc (.cells #[.int .i64 0, .int .i64 0, .string ⟨#[]⟩, .int .i64 0, .int .i64 0] 57))
       have HBL := Aside0.mk S5.out.size
       cases hlu : isC 5 s m2 with
       | true =>
        have HLU := Aside0.mk hlu
        clear hlu
        go_wp2_with (first | (go_at_call 201; refine (is_quietX g s m2 5 _ _ ?hxi1 HT6.out S6.out.c0).mono ?_; (case hxi1 => rfl); rw [HLU.out]; rintro e w1 ⟨rfl, ⟨nd, rfl⟩⟩) | (go_at_call 135; refine (fail_st (w0 := w0) (w := w) (s := s) (x := (m2 : Int)) (l := l) (e3 := e3) (e4 := e4) (S6.out.drewN _) 42 (p : Int)).mono ?_; rintro e wf ⟨rfl, s_⟩; have SF := Aside0.mk s_; clear s_; have q9_0 := SF.out.q0; have q9_1 := SF.out.q1; have q9_2 := SF.out.q2; have q9_3 := SF.out.q3; have q9_4 := SF.out.q4; have z9_0 := SF.out.z 0; have z9_1 := SF.out.z 1; have z9_2 := SF.out.z 2; have z9_3 := SF.out.z 3; have z9_4 := SF.out.z 4))
        obtain ⟨a1, a2, a3, a4⟩ := SF.out.put (.int .i64 0) (.int .i64 0) (.string ⟨#[]⟩) (.int .i64 0) (.int .i64 0)
        refine bodyPost_ret (results_ct rfl _ _ w.heap.size 57 #[.int .i64 0, .int .i64 0, .string ⟨#[]⟩, .int .i64 0, .int .i64 0] (0, 0) _ rfl a4 Tryz.underlying57 rfl (by kernel_rfl)) rfl ?_
        have hres : resR s p = (⟨0, 0, ⟨#[]⟩, 0, 0⟩, false) := by
         unfold resR
         dsimp only
         rw [HQJ.out, HM.out, HM2.out]
         exact if_pos (by rw [← isC_5]; exact HLU.out)
        have hN : numR s p e3 e4 = (⟨0, 0, ⟨#[]⟩, 0, 0⟩, false, m2, 42, (p : Int)) := by
         unfold numR
         rw [hres, HQJ.out, HM.out, HM2.out]
         exact if_neg (by simp)
        rw [hN]
        exact ⟨rfl, a1, a2, a3⟩
       | false =>
        have HLU := Aside0.mk hlu
        clear hlu
        by_cases h1 : 1 < wh.size
        ·have k1 : ((1 : Int) < (wh.size : Int)) = True := eq_true (by omega)
         have k1n : (1 < wh.size) = True := eq_true h1
         have k1m : (0 < wh.size) = True := eq_true (by omega)
         have H1 := Aside0.mk h1
         clear h1
         by_cases h48 : c0 = 48
         ·have k48 : (c0 == 48) = true := beq_iff_eq.mpr h48
          have H48 := Aside0.mk h48
          clear h48
          go_wp2_with (first | (go_at_call 201; refine (is_quietX g s m2 5 _ _ ?hxi2 HT6.out S6.out.c0).mono ?_; (case hxi2 => rfl); rw [HLU.out]; rintro e w1 ⟨rfl, ⟨nd, rfl⟩⟩) | (go_at_call 135; refine (fail_st (w0 := w0) (w := w) (s := s) (x := (m2 : Int)) (l := l) (e3 := e3) (e4 := e4) (S6.out.drewN _) 42 (p : Int)).mono ?_; rintro e wf ⟨rfl, s_⟩; have SF := Aside0.mk s_; clear s_; have q9_0 := SF.out.q0; have q9_1 := SF.out.q1; have q9_2 := SF.out.q2; have q9_3 := SF.out.q3; have q9_4 := SF.out.q4; have z9_0 := SF.out.z 0; have z9_1 := SF.out.z 1; have z9_2 := SF.out.z 2; have z9_3 := SF.out.z 3; have z9_4 := SF.out.z 4))
          obtain ⟨a1, a2, a3, a4⟩ := SF.out.put (.int .i64 0) (.int .i64 0) (.string ⟨#[]⟩) (.int .i64 0) (.int .i64 0)
          refine bodyPost_ret (results_ct rfl _ _ w.heap.size 57 #[.int .i64 0, .int .i64 0, .string ⟨#[]⟩, .int .i64 0, .int .i64 0] (0, 0) _ rfl a4 Tryz.underlying57 rfl (by kernel_rfl)) rfl ?_
          have hres : resR s p = (⟨0, 0, ⟨#[]⟩, 0, 0⟩, false) := by
           unfold resR
           dsimp only
           rw [HQJ.out, HM.out, HM2.out]
           rw [if_neg (by rw [← isC_5, HLU.out]; simp)]
           exact if_pos ⟨by rw [HJ.out, ← HWS.out]; exact H1.out, HC0.out.trans H48.out⟩
          have hN : numR s p e3 e4 = (⟨0, 0, ⟨#[]⟩, 0, 0⟩, false, m2, 42, (p : Int)) := by
           unfold numR
           rw [hres, HQJ.out, HM.out, HM2.out]
           exact if_neg (by simp)
          rw [hN]
          exact ⟨rfl, a1, a2, a3⟩
         ·have k48 : (c0 == 48) = false := beq_eq_false_iff_ne.mpr h48
          have H48 := Aside0.mk h48
          clear h48
          cases hpc : pcB s m with
          | true =>
           have HPC := Aside0.mk hpc
           clear hpc
           obtain ⟨tk, ok, hX⟩ : ∃ tk ok, ratioR (Ls wh) (Ls (partB s q)) = (tk, ok) := ⟨_, _, rfl⟩
           have HX := Aside0.mk hX
           clear hX
           have hres : resR s p = (tk, ok) := by
            unfold resR
            dsimp only
            rw [HQJ.out, HM.out, HM2.out, HWH.out]
            rw [if_neg (by rw [← isC_5, HLU.out]; simp), if_neg (fun h => H48.out (HC0.out.symm.trans h.2)), if_pos HPC.out]
            exact HX.out
           have HRES := Aside0.mk hres
           clear hres
           cases ok with
           | false =>
            go_wp2_with (first | (go_at_call 201; refine (is_quietX g s m2 5 _ _ ?hxi3 HT6.out S6.out.c0).mono ?_; (case hxi3 => rfl); rw [HLU.out]; rintro e w1 ⟨rfl, ⟨nd, rfl⟩⟩) | (go_at_call 204; refine (ratio_calls wh (partB s q) _ HSZ.out HDA.out HDB.out).mono ?_; rw [HX.out]; rintro e w7 ⟨rfl, hb7⟩; have HBK7 := Aside0.mk (blk_below (blk_drewN HBK.out _) hb7); have S7 := Aside0.mk ((S6.out.drewN _).step (hb7.mono (S6.out.drewN _).size) (S6.out.drewN _).size); clear hb7; have y0 := blk_cell HBK7.out 0; have x0 := blk_frozen HBK7.out 0; have y1 := blk_cell HBK7.out 1; have x1 := blk_frozen HBK7.out 1; have y2 := blk_cell HBK7.out 2; have x2 := blk_frozen HBK7.out 2; have y3 := blk_cell HBK7.out 3; have x3 := blk_frozen HBK7.out 3; have y4 := blk_cell HBK7.out 4; have x4 := blk_frozen HBK7.out 4; have r0 := S7.out.q0; have r1 := S7.out.q1; have r2 := S7.out.q2; have r3 := S7.out.q3; have r4 := S7.out.q4; have v0 := S7.out.z 0; have v1 := S7.out.z 1; have v2 := S7.out.z 2; have v3 := S7.out.z 3; have v4 := S7.out.z 4) | (go_at_call 135; refine (fail_st (w0 := w0) (w := w) (s := s) (x := (m2 : Int)) (l := l) (e3 := e3) (e4 := e4) (S7.out.step ((((((Below.refl (w.heap.size + 1) w7).setCell (p := ⟨wc.heap.size, 0, none⟩) HBL.out _).setCell (p := ⟨wc.heap.size, 1, none⟩) HBL.out _).setCell (p := ⟨wc.heap.size, 2, none⟩) HBL.out _).setCell (p := ⟨wc.heap.size, 3, none⟩) HBL.out _).setCell (p := ⟨wc.heap.size, 4, none⟩) HBL.out _) S7.out.size) 42 (p : Int)).mono ?_; rintro e wf ⟨rfl, s_⟩; have SF := Aside0.mk s_; clear s_; have q9_0 := SF.out.q0; have q9_1 := SF.out.q1; have q9_2 := SF.out.q2; have q9_3 := SF.out.q3; have q9_4 := SF.out.q4; have z9_0 := SF.out.z 0; have z9_1 := SF.out.z 1; have z9_2 := SF.out.z 2; have z9_3 := SF.out.z 3; have z9_4 := SF.out.z 4))
            obtain ⟨a1, a2, a3, a4⟩ := SF.out.put (.int .i64 0) (.int .i64 0) (.string ⟨#[]⟩) (.int .i64 0) (.int .i64 0)
            refine bodyPost_ret (results_ct rfl _ _ w.heap.size 57 #[.int .i64 0, .int .i64 0, .string ⟨#[]⟩, .int .i64 0, .int .i64 0] (0, 0) _ rfl a4 Tryz.underlying57 rfl (by kernel_rfl)) rfl ?_
            obtain ⟨tk0, htk⟩ : ∃ tk0, tk0 = tk := ⟨_, rfl⟩
            have hres := HRES.out
            have hN : numR s p e3 e4 = (⟨0, 0, ⟨#[]⟩, 0, 0⟩, false, m2, 42, (p : Int)) := by
             unfold numR
             rw [hres, HQJ.out, HM.out, HM2.out]
             exact if_neg (by simp)
            rw [hN]
            exact ⟨rfl, a1, a2, a3⟩
           | true =>
            go_wp2_with (first | (go_at_call 201; refine (is_quietX g s m2 5 _ _ ?hxi4 HT6.out S6.out.c0).mono ?_; (case hxi4 => rfl); rw [HLU.out]; rintro e w1 ⟨rfl, ⟨nd, rfl⟩⟩) | (go_at_call 204; refine (ratio_calls wh (partB s q) _ HSZ.out HDA.out HDB.out).mono ?_; rw [HX.out]; rintro e w7 ⟨rfl, hb7⟩; have HBK7 := Aside0.mk (blk_below (blk_drewN HBK.out _) hb7); have S7 := Aside0.mk ((S6.out.drewN _).step (hb7.mono (S6.out.drewN _).size) (S6.out.drewN _).size); clear hb7; have y0 := blk_cell HBK7.out 0; have x0 := blk_frozen HBK7.out 0; have y1 := blk_cell HBK7.out 1; have x1 := blk_frozen HBK7.out 1; have y2 := blk_cell HBK7.out 2; have x2 := blk_frozen HBK7.out 2; have y3 := blk_cell HBK7.out 3; have x3 := blk_frozen HBK7.out 3; have y4 := blk_cell HBK7.out 4; have x4 := blk_frozen HBK7.out 4; have r0 := S7.out.q0; have r1 := S7.out.q1; have r2 := S7.out.q2; have r3 := S7.out.q3; have r4 := S7.out.q4; have v0 := S7.out.z 0; have v1 := S7.out.z 1; have v2 := S7.out.z 2; have v3 := S7.out.z 3; have v4 := S7.out.z 4) | ((with_reducible refine gate_dst (N := 227) rfl ?_); refine wpList_load_row rfl 57 (.tmp 13) rfl wc.heap.size rfl 57 #[.int .i64 tk.f0, .int .i64 p, .string tk.f2, .int .i64 tk.f3, .int .i64 tk.f4] (0, 0) _ (blk_put (cs' := #[.int .i64 tk.f0, .int .i64 p, .string tk.f2, .int .i64 tk.f3, .int .i64 tk.f4]) (blk_put (cs' := #[.int .i64 tk.f0, .int .i64 tk.f1, .string tk.f2, .int .i64 tk.f3, .int .i64 tk.f4]) (blk_put (cs' := #[.int .i64 tk.f0, .int .i64 tk.f1, .string tk.f2, .int .i64 tk.f3, .int .i64 0]) (blk_put (cs' := #[.int .i64 tk.f0, .int .i64 tk.f1, .string tk.f2, .int .i64 0, .int .i64 0]) (blk_put (cs' := #[.int .i64 tk.f0, .int .i64 tk.f1, .string ⟨#[]⟩, .int .i64 0, .int .i64 0]) (blk_put (cs' := #[.int .i64 tk.f0, .int .i64 0, .string ⟨#[]⟩, .int .i64 0, .int .i64 0]) HBK7.out 0 _ rfl) 1 _ rfl) 2 _ rfl) 3 _ rfl) 4 _ rfl) 1 _ rfl) Tryz.underlying57 rfl (by kernel_rfl) ?_; have S9 := Aside0.mk (S7.out.step (((((((Below.refl (w.heap.size + 1) w7).setCell (p := ⟨wc.heap.size, 0, none⟩) HBL.out _).setCell (p := ⟨wc.heap.size, 1, none⟩) HBL.out _).setCell (p := ⟨wc.heap.size, 2, none⟩) HBL.out _).setCell (p := ⟨wc.heap.size, 3, none⟩) HBL.out _).setCell (p := ⟨wc.heap.size, 4, none⟩) HBL.out _).setCell (p := ⟨wc.heap.size, 1, none⟩) HBL.out _) S7.out.size : St w0 w ((((((w7.setCell ⟨wc.heap.size, 0, none⟩ (.int .i64 tk.f0)).setCell ⟨wc.heap.size, 1, none⟩ (.int .i64 tk.f1)).setCell ⟨wc.heap.size, 2, none⟩ (.string tk.f2)).setCell ⟨wc.heap.size, 3, none⟩ (.int .i64 tk.f3)).setCell ⟨wc.heap.size, 4, none⟩ (.int .i64 tk.f4)).setCell ⟨wc.heap.size, 1, none⟩ (.int .i64 p)) g s (m2 : Int) l e3 e4); have q9_0 := S9.out.q0; have q9_1 := S9.out.q1; have q9_2 := S9.out.q2; have q9_3 := S9.out.q3; have q9_4 := S9.out.q4; have z9_0 := S9.out.z 0; have z9_1 := S9.out.z 1; have z9_2 := S9.out.z 2; have z9_3 := S9.out.z 3; have z9_4 := S9.out.z 4))
            obtain ⟨a1, a2, a3, a4⟩ := S9.out.put (.int .i64 tk.f0) (.int .i64 p) (.string tk.f2) (.int .i64 tk.f3) (.int .i64 tk.f4)
            refine bodyPost_ret (results_ct rfl _ _ w.heap.size 57 #[.int .i64 tk.f0, .int .i64 p, .string tk.f2, .int .i64 tk.f3, .int .i64 tk.f4] (0, 0) _ rfl a4 Tryz.underlying57 rfl (by kernel_rfl)) rfl ?_
            have hN : numR s p e3 e4 = (⟨tk.f0, p, tk.f2, tk.f3, tk.f4⟩, true, m2, e3, e4) := by
             unfold numR
             rw [HRES.out, HQJ.out, HM.out, HM2.out]
             exact if_pos rfl
            rw [hN]
            exact ⟨rfl, a1, a2, a3⟩
          | false =>
           have HPC := Aside0.mk hpc
           clear hpc
           cases hpt : ptB s q with
           | true =>
            have HPT := Aside0.mk hpt
            clear hpt
            obtain ⟨tk, ok, hX⟩ : ∃ tk ok, amountR (Ls wh) (Ls (partB s q)) = (tk, ok) := ⟨_, _, rfl⟩
            have HX := Aside0.mk hX
            clear hX
            have hres : resR s p = (tk, ok) := by
             unfold resR
             dsimp only
             rw [HQJ.out, HM.out, HM2.out, HWH.out]
             rw [if_neg (by rw [← isC_5, HLU.out]; simp), if_neg (fun h => H48.out (HC0.out.symm.trans h.2)), if_neg (by rw [HPC.out]; simp), if_pos HPT.out]
             exact HX.out
            have HRES := Aside0.mk hres
            clear hres
            cases ok with
            | false =>
             go_wp2_with (first | (go_at_call 201; refine (is_quietX g s m2 5 _ _ ?hxi5 HT6.out S6.out.c0).mono ?_; (case hxi5 => rfl); rw [HLU.out]; rintro e w1 ⟨rfl, ⟨nd, rfl⟩⟩) | (go_at_call 205; refine (amount_calls wh (partB s q) _ HSZ.out HDA.out HDB.out).mono ?_; rw [HX.out]; rintro e w7 ⟨rfl, hb7⟩; have HBK7 := Aside0.mk (blk_below (blk_drewN HBK.out _) hb7); have S7 := Aside0.mk ((S6.out.drewN _).step (hb7.mono (S6.out.drewN _).size) (S6.out.drewN _).size); clear hb7; have y0 := blk_cell HBK7.out 0; have x0 := blk_frozen HBK7.out 0; have y1 := blk_cell HBK7.out 1; have x1 := blk_frozen HBK7.out 1; have y2 := blk_cell HBK7.out 2; have x2 := blk_frozen HBK7.out 2; have y3 := blk_cell HBK7.out 3; have x3 := blk_frozen HBK7.out 3; have y4 := blk_cell HBK7.out 4; have x4 := blk_frozen HBK7.out 4; have r0 := S7.out.q0; have r1 := S7.out.q1; have r2 := S7.out.q2; have r3 := S7.out.q3; have r4 := S7.out.q4; have v0 := S7.out.z 0; have v1 := S7.out.z 1; have v2 := S7.out.z 2; have v3 := S7.out.z 3; have v4 := S7.out.z 4) | (go_at_call 135; refine (fail_st (w0 := w0) (w := w) (s := s) (x := (m2 : Int)) (l := l) (e3 := e3) (e4 := e4) (S7.out.step ((((((Below.refl (w.heap.size + 1) w7).setCell (p := ⟨wc.heap.size, 0, none⟩) HBL.out _).setCell (p := ⟨wc.heap.size, 1, none⟩) HBL.out _).setCell (p := ⟨wc.heap.size, 2, none⟩) HBL.out _).setCell (p := ⟨wc.heap.size, 3, none⟩) HBL.out _).setCell (p := ⟨wc.heap.size, 4, none⟩) HBL.out _) S7.out.size) 42 (p : Int)).mono ?_; rintro e wf ⟨rfl, s_⟩; have SF := Aside0.mk s_; clear s_; have q9_0 := SF.out.q0; have q9_1 := SF.out.q1; have q9_2 := SF.out.q2; have q9_3 := SF.out.q3; have q9_4 := SF.out.q4; have z9_0 := SF.out.z 0; have z9_1 := SF.out.z 1; have z9_2 := SF.out.z 2; have z9_3 := SF.out.z 3; have z9_4 := SF.out.z 4))
             obtain ⟨a1, a2, a3, a4⟩ := SF.out.put (.int .i64 0) (.int .i64 0) (.string ⟨#[]⟩) (.int .i64 0) (.int .i64 0)
             refine bodyPost_ret (results_ct rfl _ _ w.heap.size 57 #[.int .i64 0, .int .i64 0, .string ⟨#[]⟩, .int .i64 0, .int .i64 0] (0, 0) _ rfl a4 Tryz.underlying57 rfl (by kernel_rfl)) rfl ?_
             obtain ⟨tk0, htk⟩ : ∃ tk0, tk0 = tk := ⟨_, rfl⟩
             have hres := HRES.out
             have hN : numR s p e3 e4 = (⟨0, 0, ⟨#[]⟩, 0, 0⟩, false, m2, 42, (p : Int)) := by
              unfold numR
              rw [hres, HQJ.out, HM.out, HM2.out]
              exact if_neg (by simp)
             rw [hN]
             exact ⟨rfl, a1, a2, a3⟩
            | true =>
             go_wp2_with (first | (go_at_call 201; refine (is_quietX g s m2 5 _ _ ?hxi6 HT6.out S6.out.c0).mono ?_; (case hxi6 => rfl); rw [HLU.out]; rintro e w1 ⟨rfl, ⟨nd, rfl⟩⟩) | (go_at_call 205; refine (amount_calls wh (partB s q) _ HSZ.out HDA.out HDB.out).mono ?_; rw [HX.out]; rintro e w7 ⟨rfl, hb7⟩; have HBK7 := Aside0.mk (blk_below (blk_drewN HBK.out _) hb7); have S7 := Aside0.mk ((S6.out.drewN _).step (hb7.mono (S6.out.drewN _).size) (S6.out.drewN _).size); clear hb7; have y0 := blk_cell HBK7.out 0; have x0 := blk_frozen HBK7.out 0; have y1 := blk_cell HBK7.out 1; have x1 := blk_frozen HBK7.out 1; have y2 := blk_cell HBK7.out 2; have x2 := blk_frozen HBK7.out 2; have y3 := blk_cell HBK7.out 3; have x3 := blk_frozen HBK7.out 3; have y4 := blk_cell HBK7.out 4; have x4 := blk_frozen HBK7.out 4; have r0 := S7.out.q0; have r1 := S7.out.q1; have r2 := S7.out.q2; have r3 := S7.out.q3; have r4 := S7.out.q4; have v0 := S7.out.z 0; have v1 := S7.out.z 1; have v2 := S7.out.z 2; have v3 := S7.out.z 3; have v4 := S7.out.z 4) | ((with_reducible refine gate_dst (N := 227) rfl ?_); refine wpList_load_row rfl 57 (.tmp 13) rfl wc.heap.size rfl 57 #[.int .i64 tk.f0, .int .i64 p, .string tk.f2, .int .i64 tk.f3, .int .i64 tk.f4] (0, 0) _ (blk_put (cs' := #[.int .i64 tk.f0, .int .i64 p, .string tk.f2, .int .i64 tk.f3, .int .i64 tk.f4]) (blk_put (cs' := #[.int .i64 tk.f0, .int .i64 tk.f1, .string tk.f2, .int .i64 tk.f3, .int .i64 tk.f4]) (blk_put (cs' := #[.int .i64 tk.f0, .int .i64 tk.f1, .string tk.f2, .int .i64 tk.f3, .int .i64 0]) (blk_put (cs' := #[.int .i64 tk.f0, .int .i64 tk.f1, .string tk.f2, .int .i64 0, .int .i64 0]) (blk_put (cs' := #[.int .i64 tk.f0, .int .i64 tk.f1, .string ⟨#[]⟩, .int .i64 0, .int .i64 0]) (blk_put (cs' := #[.int .i64 tk.f0, .int .i64 0, .string ⟨#[]⟩, .int .i64 0, .int .i64 0]) HBK7.out 0 _ rfl) 1 _ rfl) 2 _ rfl) 3 _ rfl) 4 _ rfl) 1 _ rfl) Tryz.underlying57 rfl (by kernel_rfl) ?_; have S9 := Aside0.mk (S7.out.step (((((((Below.refl (w.heap.size + 1) w7).setCell (p := ⟨wc.heap.size, 0, none⟩) HBL.out _).setCell (p := ⟨wc.heap.size, 1, none⟩) HBL.out _).setCell (p := ⟨wc.heap.size, 2, none⟩) HBL.out _).setCell (p := ⟨wc.heap.size, 3, none⟩) HBL.out _).setCell (p := ⟨wc.heap.size, 4, none⟩) HBL.out _).setCell (p := ⟨wc.heap.size, 1, none⟩) HBL.out _) S7.out.size : St w0 w ((((((w7.setCell ⟨wc.heap.size, 0, none⟩ (.int .i64 tk.f0)).setCell ⟨wc.heap.size, 1, none⟩ (.int .i64 tk.f1)).setCell ⟨wc.heap.size, 2, none⟩ (.string tk.f2)).setCell ⟨wc.heap.size, 3, none⟩ (.int .i64 tk.f3)).setCell ⟨wc.heap.size, 4, none⟩ (.int .i64 tk.f4)).setCell ⟨wc.heap.size, 1, none⟩ (.int .i64 p)) g s (m2 : Int) l e3 e4); have q9_0 := S9.out.q0; have q9_1 := S9.out.q1; have q9_2 := S9.out.q2; have q9_3 := S9.out.q3; have q9_4 := S9.out.q4; have z9_0 := S9.out.z 0; have z9_1 := S9.out.z 1; have z9_2 := S9.out.z 2; have z9_3 := S9.out.z 3; have z9_4 := S9.out.z 4))
             obtain ⟨a1, a2, a3, a4⟩ := S9.out.put (.int .i64 tk.f0) (.int .i64 p) (.string tk.f2) (.int .i64 tk.f3) (.int .i64 tk.f4)
             refine bodyPost_ret (results_ct rfl _ _ w.heap.size 57 #[.int .i64 tk.f0, .int .i64 p, .string tk.f2, .int .i64 tk.f3, .int .i64 tk.f4] (0, 0) _ rfl a4 Tryz.underlying57 rfl (by kernel_rfl)) rfl ?_
             have hN : numR s p e3 e4 = (⟨tk.f0, p, tk.f2, tk.f3, tk.f4⟩, true, m2, e3, e4) := by
              unfold numR
              rw [HRES.out, HQJ.out, HM.out, HM2.out]
              exact if_pos rfl
             rw [hN]
             exact ⟨rfl, a1, a2, a3⟩
           | false =>
            have HPT := Aside0.mk hpt
            clear hpt
            obtain ⟨tk, ok, hX⟩ : ∃ tk ok, countR (Ls wh) = (tk, ok) := ⟨_, _, rfl⟩
            have HX := Aside0.mk hX
            clear hX
            have hres : resR s p = (tk, ok) := by
             unfold resR
             dsimp only
             rw [HQJ.out, HM.out, HM2.out, HWH.out]
             rw [if_neg (by rw [← isC_5, HLU.out]; simp), if_neg (fun h => H48.out (HC0.out.symm.trans h.2)), if_neg (by rw [HPC.out]; simp), if_neg (by rw [HPT.out]; simp)]
             exact HX.out
            have HRES := Aside0.mk hres
            clear hres
            cases ok with
            | false =>
             go_wp2_with (first | (go_at_call 201; refine (is_quietX g s m2 5 _ _ ?hxi7 HT6.out S6.out.c0).mono ?_; (case hxi7 => rfl); rw [HLU.out]; rintro e w1 ⟨rfl, ⟨nd, rfl⟩⟩) | (go_at_call 206; refine (count_calls wh _ HDA.out).mono ?_; rw [HX.out]; rintro e w7 ⟨rfl, hb7⟩; have HBK7 := Aside0.mk (blk_below (blk_drewN HBK.out _) hb7); have S7 := Aside0.mk ((S6.out.drewN _).step (hb7.mono (S6.out.drewN _).size) (S6.out.drewN _).size); clear hb7; have y0 := blk_cell HBK7.out 0; have x0 := blk_frozen HBK7.out 0; have y1 := blk_cell HBK7.out 1; have x1 := blk_frozen HBK7.out 1; have y2 := blk_cell HBK7.out 2; have x2 := blk_frozen HBK7.out 2; have y3 := blk_cell HBK7.out 3; have x3 := blk_frozen HBK7.out 3; have y4 := blk_cell HBK7.out 4; have x4 := blk_frozen HBK7.out 4; have r0 := S7.out.q0; have r1 := S7.out.q1; have r2 := S7.out.q2; have r3 := S7.out.q3; have r4 := S7.out.q4; have v0 := S7.out.z 0; have v1 := S7.out.z 1; have v2 := S7.out.z 2; have v3 := S7.out.z 3; have v4 := S7.out.z 4) | (go_at_call 135; refine (fail_st (w0 := w0) (w := w) (s := s) (x := (m2 : Int)) (l := l) (e3 := e3) (e4 := e4) (S7.out.step ((((((Below.refl (w.heap.size + 1) w7).setCell (p := ⟨wc.heap.size, 0, none⟩) HBL.out _).setCell (p := ⟨wc.heap.size, 1, none⟩) HBL.out _).setCell (p := ⟨wc.heap.size, 2, none⟩) HBL.out _).setCell (p := ⟨wc.heap.size, 3, none⟩) HBL.out _).setCell (p := ⟨wc.heap.size, 4, none⟩) HBL.out _) S7.out.size) 42 (p : Int)).mono ?_; rintro e wf ⟨rfl, s_⟩; have SF := Aside0.mk s_; clear s_; have q9_0 := SF.out.q0; have q9_1 := SF.out.q1; have q9_2 := SF.out.q2; have q9_3 := SF.out.q3; have q9_4 := SF.out.q4; have z9_0 := SF.out.z 0; have z9_1 := SF.out.z 1; have z9_2 := SF.out.z 2; have z9_3 := SF.out.z 3; have z9_4 := SF.out.z 4))
             obtain ⟨a1, a2, a3, a4⟩ := SF.out.put (.int .i64 0) (.int .i64 0) (.string ⟨#[]⟩) (.int .i64 0) (.int .i64 0)
             refine bodyPost_ret (results_ct rfl _ _ w.heap.size 57 #[.int .i64 0, .int .i64 0, .string ⟨#[]⟩, .int .i64 0, .int .i64 0] (0, 0) _ rfl a4 Tryz.underlying57 rfl (by kernel_rfl)) rfl ?_
             obtain ⟨tk0, htk⟩ : ∃ tk0, tk0 = tk := ⟨_, rfl⟩
             have hres := HRES.out
             have hN : numR s p e3 e4 = (⟨0, 0, ⟨#[]⟩, 0, 0⟩, false, m2, 42, (p : Int)) := by
              unfold numR
              rw [hres, HQJ.out, HM.out, HM2.out]
              exact if_neg (by simp)
             rw [hN]
             exact ⟨rfl, a1, a2, a3⟩
            | true =>
             go_wp2_with (first | (go_at_call 201; refine (is_quietX g s m2 5 _ _ ?hxi8 HT6.out S6.out.c0).mono ?_; (case hxi8 => rfl); rw [HLU.out]; rintro e w1 ⟨rfl, ⟨nd, rfl⟩⟩) | (go_at_call 206; refine (count_calls wh _ HDA.out).mono ?_; rw [HX.out]; rintro e w7 ⟨rfl, hb7⟩; have HBK7 := Aside0.mk (blk_below (blk_drewN HBK.out _) hb7); have S7 := Aside0.mk ((S6.out.drewN _).step (hb7.mono (S6.out.drewN _).size) (S6.out.drewN _).size); clear hb7; have y0 := blk_cell HBK7.out 0; have x0 := blk_frozen HBK7.out 0; have y1 := blk_cell HBK7.out 1; have x1 := blk_frozen HBK7.out 1; have y2 := blk_cell HBK7.out 2; have x2 := blk_frozen HBK7.out 2; have y3 := blk_cell HBK7.out 3; have x3 := blk_frozen HBK7.out 3; have y4 := blk_cell HBK7.out 4; have x4 := blk_frozen HBK7.out 4; have r0 := S7.out.q0; have r1 := S7.out.q1; have r2 := S7.out.q2; have r3 := S7.out.q3; have r4 := S7.out.q4; have v0 := S7.out.z 0; have v1 := S7.out.z 1; have v2 := S7.out.z 2; have v3 := S7.out.z 3; have v4 := S7.out.z 4) | ((with_reducible refine gate_dst (N := 227) rfl ?_); refine wpList_load_row rfl 57 (.tmp 13) rfl wc.heap.size rfl 57 #[.int .i64 tk.f0, .int .i64 p, .string tk.f2, .int .i64 tk.f3, .int .i64 tk.f4] (0, 0) _ (blk_put (cs' := #[.int .i64 tk.f0, .int .i64 p, .string tk.f2, .int .i64 tk.f3, .int .i64 tk.f4]) (blk_put (cs' := #[.int .i64 tk.f0, .int .i64 tk.f1, .string tk.f2, .int .i64 tk.f3, .int .i64 tk.f4]) (blk_put (cs' := #[.int .i64 tk.f0, .int .i64 tk.f1, .string tk.f2, .int .i64 tk.f3, .int .i64 0]) (blk_put (cs' := #[.int .i64 tk.f0, .int .i64 tk.f1, .string tk.f2, .int .i64 0, .int .i64 0]) (blk_put (cs' := #[.int .i64 tk.f0, .int .i64 tk.f1, .string ⟨#[]⟩, .int .i64 0, .int .i64 0]) (blk_put (cs' := #[.int .i64 tk.f0, .int .i64 0, .string ⟨#[]⟩, .int .i64 0, .int .i64 0]) HBK7.out 0 _ rfl) 1 _ rfl) 2 _ rfl) 3 _ rfl) 4 _ rfl) 1 _ rfl) Tryz.underlying57 rfl (by kernel_rfl) ?_; have S9 := Aside0.mk (S7.out.step (((((((Below.refl (w.heap.size + 1) w7).setCell (p := ⟨wc.heap.size, 0, none⟩) HBL.out _).setCell (p := ⟨wc.heap.size, 1, none⟩) HBL.out _).setCell (p := ⟨wc.heap.size, 2, none⟩) HBL.out _).setCell (p := ⟨wc.heap.size, 3, none⟩) HBL.out _).setCell (p := ⟨wc.heap.size, 4, none⟩) HBL.out _).setCell (p := ⟨wc.heap.size, 1, none⟩) HBL.out _) S7.out.size : St w0 w ((((((w7.setCell ⟨wc.heap.size, 0, none⟩ (.int .i64 tk.f0)).setCell ⟨wc.heap.size, 1, none⟩ (.int .i64 tk.f1)).setCell ⟨wc.heap.size, 2, none⟩ (.string tk.f2)).setCell ⟨wc.heap.size, 3, none⟩ (.int .i64 tk.f3)).setCell ⟨wc.heap.size, 4, none⟩ (.int .i64 tk.f4)).setCell ⟨wc.heap.size, 1, none⟩ (.int .i64 p)) g s (m2 : Int) l e3 e4); have q9_0 := S9.out.q0; have q9_1 := S9.out.q1; have q9_2 := S9.out.q2; have q9_3 := S9.out.q3; have q9_4 := S9.out.q4; have z9_0 := S9.out.z 0; have z9_1 := S9.out.z 1; have z9_2 := S9.out.z 2; have z9_3 := S9.out.z 3; have z9_4 := S9.out.z 4))
             obtain ⟨a1, a2, a3, a4⟩ := S9.out.put (.int .i64 tk.f0) (.int .i64 p) (.string tk.f2) (.int .i64 tk.f3) (.int .i64 tk.f4)
             refine bodyPost_ret (results_ct rfl _ _ w.heap.size 57 #[.int .i64 tk.f0, .int .i64 p, .string tk.f2, .int .i64 tk.f3, .int .i64 tk.f4] (0, 0) _ rfl a4 Tryz.underlying57 rfl (by kernel_rfl)) rfl ?_
             have hN : numR s p e3 e4 = (⟨tk.f0, p, tk.f2, tk.f3, tk.f4⟩, true, m2, e3, e4) := by
              unfold numR
              rw [HRES.out, HQJ.out, HM.out, HM2.out]
              exact if_pos rfl
             rw [hN]
             exact ⟨rfl, a1, a2, a3⟩
        ·have k1 : ((1 : Int) < (wh.size : Int)) = False := eq_false (by omega)
         have k1n : (1 < wh.size) = False := eq_false h1
         have H1 := Aside0.mk h1
         clear h1
         cases hpc : pcB s m with
         | true =>
          have HPC := Aside0.mk hpc
          clear hpc
          obtain ⟨tk, ok, hX⟩ : ∃ tk ok, ratioR (Ls wh) (Ls (partB s q)) = (tk, ok) := ⟨_, _, rfl⟩
          have HX := Aside0.mk hX
          clear hX
          have hres : resR s p = (tk, ok) := by
           unfold resR
           dsimp only
           rw [HQJ.out, HM.out, HM2.out, HWH.out]
           rw [if_neg (by rw [← isC_5, HLU.out]; simp), if_neg (fun h => H1.out (by rw [HWS.out, ← HJ.out]; exact h.1)), if_pos HPC.out]
           exact HX.out
          have HRES := Aside0.mk hres
          clear hres
          cases ok with
          | false =>
           go_wp2_with (first | (go_at_call 201; refine (is_quietX g s m2 5 _ _ ?hxi9 HT6.out S6.out.c0).mono ?_; (case hxi9 => rfl); rw [HLU.out]; rintro e w1 ⟨rfl, ⟨nd, rfl⟩⟩) | (go_at_call 204; refine (ratio_calls wh (partB s q) _ HSZ.out HDA.out HDB.out).mono ?_; rw [HX.out]; rintro e w7 ⟨rfl, hb7⟩; have HBK7 := Aside0.mk (blk_below (blk_drewN HBK.out _) hb7); have S7 := Aside0.mk ((S6.out.drewN _).step (hb7.mono (S6.out.drewN _).size) (S6.out.drewN _).size); clear hb7; have y0 := blk_cell HBK7.out 0; have x0 := blk_frozen HBK7.out 0; have y1 := blk_cell HBK7.out 1; have x1 := blk_frozen HBK7.out 1; have y2 := blk_cell HBK7.out 2; have x2 := blk_frozen HBK7.out 2; have y3 := blk_cell HBK7.out 3; have x3 := blk_frozen HBK7.out 3; have y4 := blk_cell HBK7.out 4; have x4 := blk_frozen HBK7.out 4; have r0 := S7.out.q0; have r1 := S7.out.q1; have r2 := S7.out.q2; have r3 := S7.out.q3; have r4 := S7.out.q4; have v0 := S7.out.z 0; have v1 := S7.out.z 1; have v2 := S7.out.z 2; have v3 := S7.out.z 3; have v4 := S7.out.z 4) | (go_at_call 135; refine (fail_st (w0 := w0) (w := w) (s := s) (x := (m2 : Int)) (l := l) (e3 := e3) (e4 := e4) (S7.out.step ((((((Below.refl (w.heap.size + 1) w7).setCell (p := ⟨wc.heap.size, 0, none⟩) HBL.out _).setCell (p := ⟨wc.heap.size, 1, none⟩) HBL.out _).setCell (p := ⟨wc.heap.size, 2, none⟩) HBL.out _).setCell (p := ⟨wc.heap.size, 3, none⟩) HBL.out _).setCell (p := ⟨wc.heap.size, 4, none⟩) HBL.out _) S7.out.size) 42 (p : Int)).mono ?_; rintro e wf ⟨rfl, s_⟩; have SF := Aside0.mk s_; clear s_; have q9_0 := SF.out.q0; have q9_1 := SF.out.q1; have q9_2 := SF.out.q2; have q9_3 := SF.out.q3; have q9_4 := SF.out.q4; have z9_0 := SF.out.z 0; have z9_1 := SF.out.z 1; have z9_2 := SF.out.z 2; have z9_3 := SF.out.z 3; have z9_4 := SF.out.z 4))
           obtain ⟨a1, a2, a3, a4⟩ := SF.out.put (.int .i64 0) (.int .i64 0) (.string ⟨#[]⟩) (.int .i64 0) (.int .i64 0)
           refine bodyPost_ret (results_ct rfl _ _ w.heap.size 57 #[.int .i64 0, .int .i64 0, .string ⟨#[]⟩, .int .i64 0, .int .i64 0] (0, 0) _ rfl a4 Tryz.underlying57 rfl (by kernel_rfl)) rfl ?_
           obtain ⟨tk0, htk⟩ : ∃ tk0, tk0 = tk := ⟨_, rfl⟩
           have hres := HRES.out
           have hN : numR s p e3 e4 = (⟨0, 0, ⟨#[]⟩, 0, 0⟩, false, m2, 42, (p : Int)) := by
            unfold numR
            rw [hres, HQJ.out, HM.out, HM2.out]
            exact if_neg (by simp)
           rw [hN]
           exact ⟨rfl, a1, a2, a3⟩
          | true =>
           go_wp2_with (first | (go_at_call 201; refine (is_quietX g s m2 5 _ _ ?hxi10 HT6.out S6.out.c0).mono ?_; (case hxi10 => rfl); rw [HLU.out]; rintro e w1 ⟨rfl, ⟨nd, rfl⟩⟩) | (go_at_call 204; refine (ratio_calls wh (partB s q) _ HSZ.out HDA.out HDB.out).mono ?_; rw [HX.out]; rintro e w7 ⟨rfl, hb7⟩; have HBK7 := Aside0.mk (blk_below (blk_drewN HBK.out _) hb7); have S7 := Aside0.mk ((S6.out.drewN _).step (hb7.mono (S6.out.drewN _).size) (S6.out.drewN _).size); clear hb7; have y0 := blk_cell HBK7.out 0; have x0 := blk_frozen HBK7.out 0; have y1 := blk_cell HBK7.out 1; have x1 := blk_frozen HBK7.out 1; have y2 := blk_cell HBK7.out 2; have x2 := blk_frozen HBK7.out 2; have y3 := blk_cell HBK7.out 3; have x3 := blk_frozen HBK7.out 3; have y4 := blk_cell HBK7.out 4; have x4 := blk_frozen HBK7.out 4; have r0 := S7.out.q0; have r1 := S7.out.q1; have r2 := S7.out.q2; have r3 := S7.out.q3; have r4 := S7.out.q4; have v0 := S7.out.z 0; have v1 := S7.out.z 1; have v2 := S7.out.z 2; have v3 := S7.out.z 3; have v4 := S7.out.z 4) | ((with_reducible refine gate_dst (N := 227) rfl ?_); refine wpList_load_row rfl 57 (.tmp 13) rfl wc.heap.size rfl 57 #[.int .i64 tk.f0, .int .i64 p, .string tk.f2, .int .i64 tk.f3, .int .i64 tk.f4] (0, 0) _ (blk_put (cs' := #[.int .i64 tk.f0, .int .i64 p, .string tk.f2, .int .i64 tk.f3, .int .i64 tk.f4]) (blk_put (cs' := #[.int .i64 tk.f0, .int .i64 tk.f1, .string tk.f2, .int .i64 tk.f3, .int .i64 tk.f4]) (blk_put (cs' := #[.int .i64 tk.f0, .int .i64 tk.f1, .string tk.f2, .int .i64 tk.f3, .int .i64 0]) (blk_put (cs' := #[.int .i64 tk.f0, .int .i64 tk.f1, .string tk.f2, .int .i64 0, .int .i64 0]) (blk_put (cs' := #[.int .i64 tk.f0, .int .i64 tk.f1, .string ⟨#[]⟩, .int .i64 0, .int .i64 0]) (blk_put (cs' := #[.int .i64 tk.f0, .int .i64 0, .string ⟨#[]⟩, .int .i64 0, .int .i64 0]) HBK7.out 0 _ rfl) 1 _ rfl) 2 _ rfl) 3 _ rfl) 4 _ rfl) 1 _ rfl) Tryz.underlying57 rfl (by kernel_rfl) ?_; have S9 := Aside0.mk (S7.out.step (((((((Below.refl (w.heap.size + 1) w7).setCell (p := ⟨wc.heap.size, 0, none⟩) HBL.out _).setCell (p := ⟨wc.heap.size, 1, none⟩) HBL.out _).setCell (p := ⟨wc.heap.size, 2, none⟩) HBL.out _).setCell (p := ⟨wc.heap.size, 3, none⟩) HBL.out _).setCell (p := ⟨wc.heap.size, 4, none⟩) HBL.out _).setCell (p := ⟨wc.heap.size, 1, none⟩) HBL.out _) S7.out.size : St w0 w ((((((w7.setCell ⟨wc.heap.size, 0, none⟩ (.int .i64 tk.f0)).setCell ⟨wc.heap.size, 1, none⟩ (.int .i64 tk.f1)).setCell ⟨wc.heap.size, 2, none⟩ (.string tk.f2)).setCell ⟨wc.heap.size, 3, none⟩ (.int .i64 tk.f3)).setCell ⟨wc.heap.size, 4, none⟩ (.int .i64 tk.f4)).setCell ⟨wc.heap.size, 1, none⟩ (.int .i64 p)) g s (m2 : Int) l e3 e4); have q9_0 := S9.out.q0; have q9_1 := S9.out.q1; have q9_2 := S9.out.q2; have q9_3 := S9.out.q3; have q9_4 := S9.out.q4; have z9_0 := S9.out.z 0; have z9_1 := S9.out.z 1; have z9_2 := S9.out.z 2; have z9_3 := S9.out.z 3; have z9_4 := S9.out.z 4))
           obtain ⟨a1, a2, a3, a4⟩ := S9.out.put (.int .i64 tk.f0) (.int .i64 p) (.string tk.f2) (.int .i64 tk.f3) (.int .i64 tk.f4)
           refine bodyPost_ret (results_ct rfl _ _ w.heap.size 57 #[.int .i64 tk.f0, .int .i64 p, .string tk.f2, .int .i64 tk.f3, .int .i64 tk.f4] (0, 0) _ rfl a4 Tryz.underlying57 rfl (by kernel_rfl)) rfl ?_
           have hN : numR s p e3 e4 = (⟨tk.f0, p, tk.f2, tk.f3, tk.f4⟩, true, m2, e3, e4) := by
            unfold numR
            rw [HRES.out, HQJ.out, HM.out, HM2.out]
            exact if_pos rfl
           rw [hN]
           exact ⟨rfl, a1, a2, a3⟩
         | false =>
          have HPC := Aside0.mk hpc
          clear hpc
          cases hpt : ptB s q with
          | true =>
           have HPT := Aside0.mk hpt
           clear hpt
           obtain ⟨tk, ok, hX⟩ : ∃ tk ok, amountR (Ls wh) (Ls (partB s q)) = (tk, ok) := ⟨_, _, rfl⟩
           have HX := Aside0.mk hX
           clear hX
           have hres : resR s p = (tk, ok) := by
            unfold resR
            dsimp only
            rw [HQJ.out, HM.out, HM2.out, HWH.out]
            rw [if_neg (by rw [← isC_5, HLU.out]; simp), if_neg (fun h => H1.out (by rw [HWS.out, ← HJ.out]; exact h.1)), if_neg (by rw [HPC.out]; simp), if_pos HPT.out]
            exact HX.out
           have HRES := Aside0.mk hres
           clear hres
           cases ok with
           | false =>
            go_wp2_with (first | (go_at_call 201; refine (is_quietX g s m2 5 _ _ ?hxi11 HT6.out S6.out.c0).mono ?_; (case hxi11 => rfl); rw [HLU.out]; rintro e w1 ⟨rfl, ⟨nd, rfl⟩⟩) | (go_at_call 205; refine (amount_calls wh (partB s q) _ HSZ.out HDA.out HDB.out).mono ?_; rw [HX.out]; rintro e w7 ⟨rfl, hb7⟩; have HBK7 := Aside0.mk (blk_below (blk_drewN HBK.out _) hb7); have S7 := Aside0.mk ((S6.out.drewN _).step (hb7.mono (S6.out.drewN _).size) (S6.out.drewN _).size); clear hb7; have y0 := blk_cell HBK7.out 0; have x0 := blk_frozen HBK7.out 0; have y1 := blk_cell HBK7.out 1; have x1 := blk_frozen HBK7.out 1; have y2 := blk_cell HBK7.out 2; have x2 := blk_frozen HBK7.out 2; have y3 := blk_cell HBK7.out 3; have x3 := blk_frozen HBK7.out 3; have y4 := blk_cell HBK7.out 4; have x4 := blk_frozen HBK7.out 4; have r0 := S7.out.q0; have r1 := S7.out.q1; have r2 := S7.out.q2; have r3 := S7.out.q3; have r4 := S7.out.q4; have v0 := S7.out.z 0; have v1 := S7.out.z 1; have v2 := S7.out.z 2; have v3 := S7.out.z 3; have v4 := S7.out.z 4) | (go_at_call 135; refine (fail_st (w0 := w0) (w := w) (s := s) (x := (m2 : Int)) (l := l) (e3 := e3) (e4 := e4) (S7.out.step ((((((Below.refl (w.heap.size + 1) w7).setCell (p := ⟨wc.heap.size, 0, none⟩) HBL.out _).setCell (p := ⟨wc.heap.size, 1, none⟩) HBL.out _).setCell (p := ⟨wc.heap.size, 2, none⟩) HBL.out _).setCell (p := ⟨wc.heap.size, 3, none⟩) HBL.out _).setCell (p := ⟨wc.heap.size, 4, none⟩) HBL.out _) S7.out.size) 42 (p : Int)).mono ?_; rintro e wf ⟨rfl, s_⟩; have SF := Aside0.mk s_; clear s_; have q9_0 := SF.out.q0; have q9_1 := SF.out.q1; have q9_2 := SF.out.q2; have q9_3 := SF.out.q3; have q9_4 := SF.out.q4; have z9_0 := SF.out.z 0; have z9_1 := SF.out.z 1; have z9_2 := SF.out.z 2; have z9_3 := SF.out.z 3; have z9_4 := SF.out.z 4))
            obtain ⟨a1, a2, a3, a4⟩ := SF.out.put (.int .i64 0) (.int .i64 0) (.string ⟨#[]⟩) (.int .i64 0) (.int .i64 0)
            refine bodyPost_ret (results_ct rfl _ _ w.heap.size 57 #[.int .i64 0, .int .i64 0, .string ⟨#[]⟩, .int .i64 0, .int .i64 0] (0, 0) _ rfl a4 Tryz.underlying57 rfl (by kernel_rfl)) rfl ?_
            obtain ⟨tk0, htk⟩ : ∃ tk0, tk0 = tk := ⟨_, rfl⟩
            have hres := HRES.out
            have hN : numR s p e3 e4 = (⟨0, 0, ⟨#[]⟩, 0, 0⟩, false, m2, 42, (p : Int)) := by
             unfold numR
             rw [hres, HQJ.out, HM.out, HM2.out]
             exact if_neg (by simp)
            rw [hN]
            exact ⟨rfl, a1, a2, a3⟩
           | true =>
            go_wp2_with (first | (go_at_call 201; refine (is_quietX g s m2 5 _ _ ?hxi12 HT6.out S6.out.c0).mono ?_; (case hxi12 => rfl); rw [HLU.out]; rintro e w1 ⟨rfl, ⟨nd, rfl⟩⟩) | (go_at_call 205; refine (amount_calls wh (partB s q) _ HSZ.out HDA.out HDB.out).mono ?_; rw [HX.out]; rintro e w7 ⟨rfl, hb7⟩; have HBK7 := Aside0.mk (blk_below (blk_drewN HBK.out _) hb7); have S7 := Aside0.mk ((S6.out.drewN _).step (hb7.mono (S6.out.drewN _).size) (S6.out.drewN _).size); clear hb7; have y0 := blk_cell HBK7.out 0; have x0 := blk_frozen HBK7.out 0; have y1 := blk_cell HBK7.out 1; have x1 := blk_frozen HBK7.out 1; have y2 := blk_cell HBK7.out 2; have x2 := blk_frozen HBK7.out 2; have y3 := blk_cell HBK7.out 3; have x3 := blk_frozen HBK7.out 3; have y4 := blk_cell HBK7.out 4; have x4 := blk_frozen HBK7.out 4; have r0 := S7.out.q0; have r1 := S7.out.q1; have r2 := S7.out.q2; have r3 := S7.out.q3; have r4 := S7.out.q4; have v0 := S7.out.z 0; have v1 := S7.out.z 1; have v2 := S7.out.z 2; have v3 := S7.out.z 3; have v4 := S7.out.z 4) | ((with_reducible refine gate_dst (N := 227) rfl ?_); refine wpList_load_row rfl 57 (.tmp 13) rfl wc.heap.size rfl 57 #[.int .i64 tk.f0, .int .i64 p, .string tk.f2, .int .i64 tk.f3, .int .i64 tk.f4] (0, 0) _ (blk_put (cs' := #[.int .i64 tk.f0, .int .i64 p, .string tk.f2, .int .i64 tk.f3, .int .i64 tk.f4]) (blk_put (cs' := #[.int .i64 tk.f0, .int .i64 tk.f1, .string tk.f2, .int .i64 tk.f3, .int .i64 tk.f4]) (blk_put (cs' := #[.int .i64 tk.f0, .int .i64 tk.f1, .string tk.f2, .int .i64 tk.f3, .int .i64 0]) (blk_put (cs' := #[.int .i64 tk.f0, .int .i64 tk.f1, .string tk.f2, .int .i64 0, .int .i64 0]) (blk_put (cs' := #[.int .i64 tk.f0, .int .i64 tk.f1, .string ⟨#[]⟩, .int .i64 0, .int .i64 0]) (blk_put (cs' := #[.int .i64 tk.f0, .int .i64 0, .string ⟨#[]⟩, .int .i64 0, .int .i64 0]) HBK7.out 0 _ rfl) 1 _ rfl) 2 _ rfl) 3 _ rfl) 4 _ rfl) 1 _ rfl) Tryz.underlying57 rfl (by kernel_rfl) ?_; have S9 := Aside0.mk (S7.out.step (((((((Below.refl (w.heap.size + 1) w7).setCell (p := ⟨wc.heap.size, 0, none⟩) HBL.out _).setCell (p := ⟨wc.heap.size, 1, none⟩) HBL.out _).setCell (p := ⟨wc.heap.size, 2, none⟩) HBL.out _).setCell (p := ⟨wc.heap.size, 3, none⟩) HBL.out _).setCell (p := ⟨wc.heap.size, 4, none⟩) HBL.out _).setCell (p := ⟨wc.heap.size, 1, none⟩) HBL.out _) S7.out.size : St w0 w ((((((w7.setCell ⟨wc.heap.size, 0, none⟩ (.int .i64 tk.f0)).setCell ⟨wc.heap.size, 1, none⟩ (.int .i64 tk.f1)).setCell ⟨wc.heap.size, 2, none⟩ (.string tk.f2)).setCell ⟨wc.heap.size, 3, none⟩ (.int .i64 tk.f3)).setCell ⟨wc.heap.size, 4, none⟩ (.int .i64 tk.f4)).setCell ⟨wc.heap.size, 1, none⟩ (.int .i64 p)) g s (m2 : Int) l e3 e4); have q9_0 := S9.out.q0; have q9_1 := S9.out.q1; have q9_2 := S9.out.q2; have q9_3 := S9.out.q3; have q9_4 := S9.out.q4; have z9_0 := S9.out.z 0; have z9_1 := S9.out.z 1; have z9_2 := S9.out.z 2; have z9_3 := S9.out.z 3; have z9_4 := S9.out.z 4))
            obtain ⟨a1, a2, a3, a4⟩ := S9.out.put (.int .i64 tk.f0) (.int .i64 p) (.string tk.f2) (.int .i64 tk.f3) (.int .i64 tk.f4)
            refine bodyPost_ret (results_ct rfl _ _ w.heap.size 57 #[.int .i64 tk.f0, .int .i64 p, .string tk.f2, .int .i64 tk.f3, .int .i64 tk.f4] (0, 0) _ rfl a4 Tryz.underlying57 rfl (by kernel_rfl)) rfl ?_
            have hN : numR s p e3 e4 = (⟨tk.f0, p, tk.f2, tk.f3, tk.f4⟩, true, m2, e3, e4) := by
             unfold numR
             rw [HRES.out, HQJ.out, HM.out, HM2.out]
             exact if_pos rfl
            rw [hN]
            exact ⟨rfl, a1, a2, a3⟩
          | false =>
           have HPT := Aside0.mk hpt
           clear hpt
           obtain ⟨tk, ok, hX⟩ : ∃ tk ok, countR (Ls wh) = (tk, ok) := ⟨_, _, rfl⟩
           have HX := Aside0.mk hX
           clear hX
           have hres : resR s p = (tk, ok) := by
            unfold resR
            dsimp only
            rw [HQJ.out, HM.out, HM2.out, HWH.out]
            rw [if_neg (by rw [← isC_5, HLU.out]; simp), if_neg (fun h => H1.out (by rw [HWS.out, ← HJ.out]; exact h.1)), if_neg (by rw [HPC.out]; simp), if_neg (by rw [HPT.out]; simp)]
            exact HX.out
           have HRES := Aside0.mk hres
           clear hres
           cases ok with
           | false =>
            go_wp2_with (first | (go_at_call 201; refine (is_quietX g s m2 5 _ _ ?hxi13 HT6.out S6.out.c0).mono ?_; (case hxi13 => rfl); rw [HLU.out]; rintro e w1 ⟨rfl, ⟨nd, rfl⟩⟩) | (go_at_call 206; refine (count_calls wh _ HDA.out).mono ?_; rw [HX.out]; rintro e w7 ⟨rfl, hb7⟩; have HBK7 := Aside0.mk (blk_below (blk_drewN HBK.out _) hb7); have S7 := Aside0.mk ((S6.out.drewN _).step (hb7.mono (S6.out.drewN _).size) (S6.out.drewN _).size); clear hb7; have y0 := blk_cell HBK7.out 0; have x0 := blk_frozen HBK7.out 0; have y1 := blk_cell HBK7.out 1; have x1 := blk_frozen HBK7.out 1; have y2 := blk_cell HBK7.out 2; have x2 := blk_frozen HBK7.out 2; have y3 := blk_cell HBK7.out 3; have x3 := blk_frozen HBK7.out 3; have y4 := blk_cell HBK7.out 4; have x4 := blk_frozen HBK7.out 4; have r0 := S7.out.q0; have r1 := S7.out.q1; have r2 := S7.out.q2; have r3 := S7.out.q3; have r4 := S7.out.q4; have v0 := S7.out.z 0; have v1 := S7.out.z 1; have v2 := S7.out.z 2; have v3 := S7.out.z 3; have v4 := S7.out.z 4) | (go_at_call 135; refine (fail_st (w0 := w0) (w := w) (s := s) (x := (m2 : Int)) (l := l) (e3 := e3) (e4 := e4) (S7.out.step ((((((Below.refl (w.heap.size + 1) w7).setCell (p := ⟨wc.heap.size, 0, none⟩) HBL.out _).setCell (p := ⟨wc.heap.size, 1, none⟩) HBL.out _).setCell (p := ⟨wc.heap.size, 2, none⟩) HBL.out _).setCell (p := ⟨wc.heap.size, 3, none⟩) HBL.out _).setCell (p := ⟨wc.heap.size, 4, none⟩) HBL.out _) S7.out.size) 42 (p : Int)).mono ?_; rintro e wf ⟨rfl, s_⟩; have SF := Aside0.mk s_; clear s_; have q9_0 := SF.out.q0; have q9_1 := SF.out.q1; have q9_2 := SF.out.q2; have q9_3 := SF.out.q3; have q9_4 := SF.out.q4; have z9_0 := SF.out.z 0; have z9_1 := SF.out.z 1; have z9_2 := SF.out.z 2; have z9_3 := SF.out.z 3; have z9_4 := SF.out.z 4))
            obtain ⟨a1, a2, a3, a4⟩ := SF.out.put (.int .i64 0) (.int .i64 0) (.string ⟨#[]⟩) (.int .i64 0) (.int .i64 0)
            refine bodyPost_ret (results_ct rfl _ _ w.heap.size 57 #[.int .i64 0, .int .i64 0, .string ⟨#[]⟩, .int .i64 0, .int .i64 0] (0, 0) _ rfl a4 Tryz.underlying57 rfl (by kernel_rfl)) rfl ?_
            obtain ⟨tk0, htk⟩ : ∃ tk0, tk0 = tk := ⟨_, rfl⟩
            have hres := HRES.out
            have hN : numR s p e3 e4 = (⟨0, 0, ⟨#[]⟩, 0, 0⟩, false, m2, 42, (p : Int)) := by
             unfold numR
             rw [hres, HQJ.out, HM.out, HM2.out]
             exact if_neg (by simp)
            rw [hN]
            exact ⟨rfl, a1, a2, a3⟩
           | true =>
            go_wp2_with (first | (go_at_call 201; refine (is_quietX g s m2 5 _ _ ?hxi14 HT6.out S6.out.c0).mono ?_; (case hxi14 => rfl); rw [HLU.out]; rintro e w1 ⟨rfl, ⟨nd, rfl⟩⟩) | (go_at_call 206; refine (count_calls wh _ HDA.out).mono ?_; rw [HX.out]; rintro e w7 ⟨rfl, hb7⟩; have HBK7 := Aside0.mk (blk_below (blk_drewN HBK.out _) hb7); have S7 := Aside0.mk ((S6.out.drewN _).step (hb7.mono (S6.out.drewN _).size) (S6.out.drewN _).size); clear hb7; have y0 := blk_cell HBK7.out 0; have x0 := blk_frozen HBK7.out 0; have y1 := blk_cell HBK7.out 1; have x1 := blk_frozen HBK7.out 1; have y2 := blk_cell HBK7.out 2; have x2 := blk_frozen HBK7.out 2; have y3 := blk_cell HBK7.out 3; have x3 := blk_frozen HBK7.out 3; have y4 := blk_cell HBK7.out 4; have x4 := blk_frozen HBK7.out 4; have r0 := S7.out.q0; have r1 := S7.out.q1; have r2 := S7.out.q2; have r3 := S7.out.q3; have r4 := S7.out.q4; have v0 := S7.out.z 0; have v1 := S7.out.z 1; have v2 := S7.out.z 2; have v3 := S7.out.z 3; have v4 := S7.out.z 4) | ((with_reducible refine gate_dst (N := 227) rfl ?_); refine wpList_load_row rfl 57 (.tmp 13) rfl wc.heap.size rfl 57 #[.int .i64 tk.f0, .int .i64 p, .string tk.f2, .int .i64 tk.f3, .int .i64 tk.f4] (0, 0) _ (blk_put (cs' := #[.int .i64 tk.f0, .int .i64 p, .string tk.f2, .int .i64 tk.f3, .int .i64 tk.f4]) (blk_put (cs' := #[.int .i64 tk.f0, .int .i64 tk.f1, .string tk.f2, .int .i64 tk.f3, .int .i64 tk.f4]) (blk_put (cs' := #[.int .i64 tk.f0, .int .i64 tk.f1, .string tk.f2, .int .i64 tk.f3, .int .i64 0]) (blk_put (cs' := #[.int .i64 tk.f0, .int .i64 tk.f1, .string tk.f2, .int .i64 0, .int .i64 0]) (blk_put (cs' := #[.int .i64 tk.f0, .int .i64 tk.f1, .string ⟨#[]⟩, .int .i64 0, .int .i64 0]) (blk_put (cs' := #[.int .i64 tk.f0, .int .i64 0, .string ⟨#[]⟩, .int .i64 0, .int .i64 0]) HBK7.out 0 _ rfl) 1 _ rfl) 2 _ rfl) 3 _ rfl) 4 _ rfl) 1 _ rfl) Tryz.underlying57 rfl (by kernel_rfl) ?_; have S9 := Aside0.mk (S7.out.step (((((((Below.refl (w.heap.size + 1) w7).setCell (p := ⟨wc.heap.size, 0, none⟩) HBL.out _).setCell (p := ⟨wc.heap.size, 1, none⟩) HBL.out _).setCell (p := ⟨wc.heap.size, 2, none⟩) HBL.out _).setCell (p := ⟨wc.heap.size, 3, none⟩) HBL.out _).setCell (p := ⟨wc.heap.size, 4, none⟩) HBL.out _).setCell (p := ⟨wc.heap.size, 1, none⟩) HBL.out _) S7.out.size : St w0 w ((((((w7.setCell ⟨wc.heap.size, 0, none⟩ (.int .i64 tk.f0)).setCell ⟨wc.heap.size, 1, none⟩ (.int .i64 tk.f1)).setCell ⟨wc.heap.size, 2, none⟩ (.string tk.f2)).setCell ⟨wc.heap.size, 3, none⟩ (.int .i64 tk.f3)).setCell ⟨wc.heap.size, 4, none⟩ (.int .i64 tk.f4)).setCell ⟨wc.heap.size, 1, none⟩ (.int .i64 p)) g s (m2 : Int) l e3 e4); have q9_0 := S9.out.q0; have q9_1 := S9.out.q1; have q9_2 := S9.out.q2; have q9_3 := S9.out.q3; have q9_4 := S9.out.q4; have z9_0 := S9.out.z 0; have z9_1 := S9.out.z 1; have z9_2 := S9.out.z 2; have z9_3 := S9.out.z 3; have z9_4 := S9.out.z 4))
            obtain ⟨a1, a2, a3, a4⟩ := S9.out.put (.int .i64 tk.f0) (.int .i64 p) (.string tk.f2) (.int .i64 tk.f3) (.int .i64 tk.f4)
            refine bodyPost_ret (results_ct rfl _ _ w.heap.size 57 #[.int .i64 tk.f0, .int .i64 p, .string tk.f2, .int .i64 tk.f3, .int .i64 tk.f4] (0, 0) _ rfl a4 Tryz.underlying57 rfl (by kernel_rfl)) rfl ?_
            have hN : numR s p e3 e4 = (⟨tk.f0, p, tk.f2, tk.f3, tk.f4⟩, true, m2, e3, e4) := by
             unfold numR
             rw [HRES.out, HQJ.out, HM.out, HM2.out]
             exact if_pos rfl
            rw [hN]
            exact ⟨rfl, a1, a2, a3⟩
end Go.Proofs.YtjlclkenfmbahaaGreatDoor.PA
