/- The scanner's number, walked by hand: a date, a count, an amount or a percent. Conditions: the place lies in the text, the text is of at most 8000 bytes. -/
import Derived.Test.YtjlclkenfmbahaaGreatDoorVScNumB
import Derived.Deep.RegionWith
import Derived.Deep.DeepCutAuto
import Derived.Test.YtjlclkenfmbahaaGreatDoorVPAx0
import Derived.Test.YtjlclkenfmbahaaGreatDoorVL
namespace Go.Proofs.YtjlclkenfmbahaaGreatDoor.PA
open Go.RowKit Go.Proofs.YtjlclkenfmbahaaGreatDoorW.PrintWords Go.Proofs.YtjlclkenfmbahaaGreatDoorW.PrintLast Go.Proofs.YtjlclkenfmbahaaGreatDoorW.PrintMore
set_option linter.unusedVariables false
set_option linter.unusedSimpArgs false
def dateR (s : ByteArray) (p : Nat) (e3 e4 : Int) : S57 × Bool × Nat × Int × Int :=
 if (parseS (s.extract p (p + 10))).2.2 ≠ 0 ∨ atP isWd s (p + 10) = true then (⟨0, 0, ⟨#[]⟩, 0, 0⟩, false, p + 10, 44, p)
 else (⟨5, p, ⟨#[]⟩, (parseS (s.extract p (p + 10))).1, 0⟩, true, p + 10, e3, e4)
theorem datedT_lt {s : ByteArray} {p i : Nat} (h : datedT s p i = true) : p + i < s.size := by
 unfold datedT at h
 rcases Nat.lt_or_ge (p + i) s.size with h1 | h1
 ·exact h1
 ·have hn := byte_none s (i := p + i) (by omega)
  split at h <;> · unfold atP at h; rw [hn] at h; cases h
theorem datedGo_at {s : ByteArray} {p : Nat} (d : Nat) : ∀ i, datedGo s p d i = true → ∀ j, i ≤ j → j < i + d → datedT s p j = true := by
 induction d with
 | zero => intro i _ j h1 h2; omega
 | succ d ih =>
  intro i h j h1 h2
  unfold datedGo at h
  split at h
  ·next ht =>
   rcases Nat.lt_or_ge i j with h3 | h3
   ·exact ih (i + 1) h j (by omega) (by omega)
   ·obtain rfl : i = j := by omega
    exact ht
  ·cases h
theorem datedB_le {s : ByteArray} {p : Nat} (h : datedB s p = true) : p + 10 ≤ s.size := by
 have := datedT_lt (datedGo_at 10 0 h 9 (by omega) (by omega))
 omega
set_option maxRecDepth 100000 in
set_option maxHeartbeats 1000000 in
theorem date_calls (g : Nat) (s : ByteArray) (p : Nat) (l : Bool) (e3 e4 : Int) (w0 w : World) (hs : s.size ≤ 8000) (hd : datedB s p = true) (hT : Tabs w0) (hI : IsS88 w0 w g s (p : Int) l e3 e4) (hB : Below w0.heap.size w0 w) :
  Calls Tryz.prog 132 #[.pointer (some ⟨g, 0, none⟩)] w (Told w0 w g s l (dateR s p e3 e4)) := by
 have HS := Aside0.mk hs
 have HP := Aside0.mk (datedB_le hd)
 have HT := Aside0.mk hT
 have HD := Aside0.mk hd
 have S0 := Aside0.mk (St.start hI hB)
 have hi1 : wrap64 ((p : Int) + 10) = (p : Int) + 10 := by have := datedB_le hd; unfold wrap64; omega
 have hc1 := S0.out.c1
 clear hs hd hT hI hB
 go_enter Tryz.func132, Tryz.ntmps132
 go_upto_region 4 with (first | (go_at_call 202; refine (dated_st (w0 := w0) (w := w) S0.out HT.out p HS.out (by have := HP.out; omega)).mono ?_; rw [HD.out]; rintro e w1 ⟨rfl, s1_⟩; have S1 := Aside0.mk s1_; clear s1_; have d1 := S1.out.c1; have f1 := S1.out.f 1))
 have S2 := Aside0.mk (S1.out.set1 ((p : Int) + 10))
 obtain ⟨W2, hW2⟩ : ∃ W2, w1.setCell ⟨g, 1, none⟩ (.int .i64 ((p : Int) + 10)) = W2 := ⟨_, rfl⟩
 rw [hW2] at S2 ⊢
 clear hc1 d1 f1 hW2 S0 S1
 have e0 := S2.out.c0
 have e1 := S2.out.c1
 have n1 : (0 : Int) ≤ (p : Int) := by omega
 have n2 : (p : Int) ≤ (p : Int) + 10 := by omega
 have n3 : (p : Int) + 10 ≤ (s.size : Int) := by have := HP.out; omega
 obtain ⟨r1, r2, r3, hr⟩ : ∃ r1 r2 r3, parseS (s.extract p (p + 10)) = (r1, r2, r3) := ⟨_, _, _, rfl⟩
 have HR := Aside0.mk hr
 have HF := Aside0.mk (show days_Parse.f (s.extract p (p + 10)) = some (r1, r2, r3) from congrArg some hr)
 have HT2 := Aside0.mk (Tabs.below HT.out S2.out.b)
 clear hr
 refine start_ (n := 18) (S := fun w' => w'.cell? ⟨g, 0, none⟩ = some (.string s) ∧ w'.cell? ⟨g, 1, none⟩ = some (.int .i64 ((p : Int) + 10))) (ds := []) #[false, false, false, false, false, false, false, false, false, false, false, false, false, false, false, false, false, false] (by kernel_rfl) rfl rfl ⟨S2.out.drew.c0, S2.out.drew.c1⟩ (fun hHeld => ?_)
 refine pure_ (i := 0) (N := some 30) (v := ?_) (a' := ?_) #[true, false, false, false, false, false, false, false, false, false, false, false, false, false, false, false, false, false] rfl rfl (by kernel_rfl) (fun _ _ _ h => h) (Or.inl ⟨by rfl, ?_⟩) ?_ ?_
 rotate_left
 ·intro w'
  go_simp
  with_reducible rfl
 rotate_left
 ·simp only [Act.put, List.setIfInBounds_toArray, List.set_cons_zero, List.set_cons_succ, i64_w, i32_w]
  rfl
 refine pure_ (i := 1) (N := some 31) (v := ?_) (a' := ?_) #[true, true, false, false, false, false, false, false, false, false, false, false, false, false, false, false, false, false] rfl rfl (by kernel_rfl) (fun _ _ _ h => h) (Or.inl ⟨by rfl, ?_⟩) ?_ ?_
 rotate_left
 ·intro w'
  go_simp
  with_reducible rfl
 rotate_left
 ·simp only [Act.put, List.setIfInBounds_toArray, List.set_cons_zero, List.set_cons_succ, i64_w, i32_w]
  rfl
 refine pure_ (i := 2) (N := some 32) (v := ?_) (a' := ?_) #[true, true, true, false, false, false, false, false, false, false, false, false, false, false, false, false, false, false] rfl rfl (by kernel_rfl) (fun _ _ _ h => h) (Or.inl ⟨by rfl, ?_⟩) ?_ ?_
 rotate_left
 ·intro w'
  go_simp
  with_reducible rfl
 rotate_left
 ·simp only [Act.put, List.setIfInBounds_toArray, List.set_cons_zero, List.set_cons_succ, i64_w, i32_w]
  rfl
 refine pure_ (i := 4) (N := some 34) (v := ?_) (a' := ?_) #[true, true, true, false, true, false, false, false, false, false, false, false, false, false, false, false, false, false] rfl rfl (by kernel_rfl) (fun _ _ _ h => h) (Or.inl ⟨by rfl, ?_⟩) ?_ ?_
 rotate_left
 ·intro w'
  go_simp
  with_reducible rfl
 rotate_left
 ·simp only [Act.put, List.setIfInBounds_toArray, List.set_cons_zero, List.set_cons_succ, i64_w, i32_w]
  rfl
 refine pure_ (i := 5) (N := some 35) (v := ?_) (a' := ?_) #[true, true, true, false, true, true, false, false, false, false, false, false, false, false, false, false, false, false] rfl rfl (by kernel_rfl) (fun _ _ _ h => h) (Or.inl ⟨by rfl, ?_⟩) ?_ ?_
 rotate_left
 ·intro w'
  go_simp
  with_reducible rfl
 rotate_left
 ·simp only [Act.put, List.setIfInBounds_toArray, List.set_cons_zero, List.set_cons_succ, i64_w, i32_w]
  rfl
 refine pure_ (i := 6) (N := some 36) (v := ?_) (a' := ?_) #[true, true, true, false, true, true, true, false, false, false, false, false, false, false, false, false, false, false] rfl rfl (by kernel_rfl) (fun _ _ _ h => h) (Or.inl ⟨by rfl, ?_⟩) ?_ ?_
 rotate_left
 ·intro w'
  go_simp
  with_reducible rfl
 rotate_left
 ·simp only [Act.put, List.setIfInBounds_toArray, List.set_cons_zero, List.set_cons_succ, i64_w, i32_w]
  rfl
 refine pure_ (i := 7) (N := some 37) (v := ?_) (a' := ?_) #[true, true, true, false, true, true, true, true, false, false, false, false, false, false, false, false, false, false] rfl rfl (by kernel_rfl) (fun _ _ _ h => h) (Or.inl ⟨by rfl, ?_⟩) ?_ ?_
 rotate_left
 ·intro w'
  go_simp
  with_reducible rfl
 rotate_left
 ·simp only [Act.put, List.setIfInBounds_toArray, List.set_cons_zero, List.set_cons_succ, i64_w, i32_w]
  rfl
 refine take_ (i := 3) (N := some 33) (v := ?_) (a' := ?_) #[true, true, true, true, true, true, true, true, false, false, false, false, false, false, false, false, false, false] rfl rfl (by kernel_rfl) (fun _ _ _ h => h) (Or.inl ⟨by rfl, ?_⟩) hHeld ?_ ?_
 rotate_left
 ·rintro w' ⟨s0, s1⟩
  go_simp
  with_reducible rfl
 rotate_left
 ·simp only [Act.put, List.setIfInBounds_toArray, List.set_cons_zero, List.set_cons_succ, i64_w, i32_w]
  rfl
 refine take_ (i := 8) (N := some 38) (v := ?_) (a' := ?_) #[true, true, true, true, true, true, true, true, true, false, false, false, false, false, false, false, false, false] rfl rfl (by kernel_rfl) (fun _ _ _ h => h) (Or.inl ⟨by rfl, ?_⟩) hHeld ?_ ?_
 rotate_left
 ·rintro w' ⟨s0, s1⟩
  go_simp
  with_reducible rfl
 rotate_left
 ·simp only [Act.put, List.setIfInBounds_toArray, List.set_cons_zero, List.set_cons_succ, i64_w, i32_w]
  rfl
 refine pure_ (i := 9) (N := some 39) (v := ?_) (a' := ?_) #[true, true, true, true, true, true, true, true, true, true, false, false, false, false, false, false, false, false] rfl rfl (by kernel_rfl) (fun _ _ _ h => h) (Or.inl ⟨by rfl, ?_⟩) ?_ ?_
 rotate_left
 ·intro w'
  go_simp
  with_reducible rfl
 rotate_left
 ·simp only [Act.put, List.setIfInBounds_toArray, List.set_cons_zero, List.set_cons_succ, i64_w, i32_w]
  rfl
 refine one_ (i := 10) (N := some 40) #[true, true, true, true, true, true, true, true, true, true, true, false, false, false, false, false, false, false] rfl rfl (by kernel_rfl) (by decide) (fun K hK => ?_)
 refine goes_ Tryz.func203 (by kernel_rfl) rfl #[.string (s.extract p (p + 10))] (by rfl) rfl rfl (by simp only [List.map_toArray, List.map_cons, List.map_nil]; rfl) ?_
 with_reducible refine ((days_Parse.calls (s.extract p (p + 10)) r1 r2 r3 _ HT2.out.drew HF.out)).mono ?_
 rintro e w3 ⟨rfl, hb3⟩
 refine ⟨_, rfl, ?_⟩
 have S3 := Aside0.mk (S2.out.drew.step (hb3.mono (blk_lt S2.out.r)) (blk_lt S2.out.r))
 clear hb3
 refine hK.out _ _ ⟨S3.out.c0, S3.out.c1⟩ (fun hHeld => ?_)
 clear hK K
 refine norm_ (a' := ?_) ?_ ?_
 rotate_left
 ·show Act.put _ (some 40) _ = _
  simp only [Act.put, List.setIfInBounds_toArray, List.set_cons_zero, List.set_cons_succ, i64_w, i32_w]
  rfl
 refine pure_ (i := 11) (N := some 29) (v := ?_) (a' := ?_) #[true, true, true, true, true, true, true, true, true, true, true, true, false, false, false, false, false, false] rfl rfl (by kernel_rfl) (fun _ _ _ h => h) (Or.inl ⟨by rfl, ?_⟩) ?_ ?_
 rotate_left
 ·intro w'
  go_simp
  with_reducible rfl
 rotate_left
 ·simp only [Act.put, List.setIfInBounds_toArray, List.set_cons_zero, List.set_cons_succ, i64_w, i32_w]
  rfl
 refine pure_ (i := 12) (N := some 41) (v := ?_) (a' := ?_) #[true, true, true, true, true, true, true, true, true, true, true, true, true, false, false, false, false, false] rfl rfl (by kernel_rfl) (fun _ _ _ h => h) (Or.inl ⟨by rfl, ?_⟩) ?_ ?_
 rotate_left
 ·intro w'
  go_simp
  with_reducible rfl
 rotate_left
 ·simp only [Act.put, List.setIfInBounds_toArray, List.set_cons_zero, List.set_cons_succ, i64_w, i32_w]
  rfl
 refine pure_ (i := 13) (N := some 42) (v := ?_) (a' := ?_) #[true, true, true, true, true, true, true, true, true, true, true, true, true, true, false, false, false, false] rfl rfl (by kernel_rfl) (fun _ _ _ h => h) (Or.inl ⟨by rfl, ?_⟩) ?_ ?_
 rotate_left
 ·intro w'
  go_simp
  with_reducible rfl
 rotate_left
 ·simp only [Act.put, List.setIfInBounds_toArray, List.set_cons_zero, List.set_cons_succ, i64_w, i32_w]
  rfl
 refine pure_ (i := 14) (N := some 43) (v := ?_) (a' := ?_) #[true, true, true, true, true, true, true, true, true, true, true, true, true, true, true, false, false, false] rfl rfl (by kernel_rfl) (fun _ _ _ h => h) (Or.inl ⟨by rfl, ?_⟩) ?_ ?_
 rotate_left
 ·intro w'
  go_simp
  with_reducible rfl
 rotate_left
 ·simp only [Act.put, List.setIfInBounds_toArray, List.set_cons_zero, List.set_cons_succ, i64_w, i32_w]
  rfl
 refine pure_ (i := 15) (N := some 5) (v := ?_) (a' := ?_) #[true, true, true, true, true, true, true, true, true, true, true, true, true, true, true, true, false, false] rfl rfl (by kernel_rfl) (fun _ _ _ h => h) (Or.inl ⟨by rfl, ?_⟩) ?_ ?_
 rotate_left
 ·intro w'
  go_simp
  with_reducible rfl
 rotate_left
 ·simp only [Act.put, List.setIfInBounds_toArray, List.set_cons_zero, List.set_cons_succ, i64_w, i32_w]
  rfl
 refine pure_ (i := 16) (N := some 6) (v := ?_) (a' := ?_) #[true, true, true, true, true, true, true, true, true, true, true, true, true, true, true, true, true, false] rfl rfl (by kernel_rfl) (fun _ _ _ h => h) (Or.inl ⟨by rfl, ?_⟩) ?_ ?_
 rotate_left
 ·intro w'
  go_simp
  with_reducible rfl
 rotate_left
 ·simp only [Act.put, List.setIfInBounds_toArray, List.set_cons_zero, List.set_cons_succ, i64_w, i32_w]
  rfl
 refine pure_ (i := 17) (N := some 7) (v := ?_) (a' := ?_) #[true, true, true, true, true, true, true, true, true, true, true, true, true, true, true, true, true, true] rfl rfl (by kernel_rfl) (fun _ _ _ h => h) (Or.inl ⟨by rfl, ?_⟩) ?_ ?_
 rotate_left
 ·intro w'
  go_simp
  with_reducible rfl
 rotate_left
 ·simp only [Act.put, List.setIfInBounds_toArray, List.set_cons_zero, List.set_cons_succ, i64_w, i32_w]
  rfl
 refine done_ (by kernel_rfl) ?_
 clear e0 e1 n1 n2 n3 HT2
 have f1 := S3.out.c1
 by_cases h3 : r3 = 0
 ·have k3 : (r3 != 0) = false := bne_eq_false_iff_eq.mpr h3
  have H3 := Aside0.mk h3
  clear h3
  cases hw : atP isWd s (p + 10) with
  | true =>
   have HW := Aside0.mk hw
   clear hw
   go_wp2_with (first | (go_at_call 201; refine (is_st (w0 := w0) (w := w) S3.out HT.out (p + 10) 7).mono ?_; rw [isC_7]; rw [HW.out]; rintro e w4 ⟨rfl, s_⟩; have S4 := Aside0.mk s_; clear s_; have q0 := S4.out.q0; have q1 := S4.out.q1; have q2 := S4.out.q2; have q3 := S4.out.q3; have q4 := S4.out.q4; have z0 := S4.out.z 0; have z1 := S4.out.z 1; have z2 := S4.out.z 2; have z3 := S4.out.z 3; have z4 := S4.out.z 4) | (go_at_call 135; refine (fail_st (w0 := w0) (w := w) (s := s) (x := ((p : Int) + 10)) (l := l) (e3 := e3) (e4 := e4) S4.out 44 (p : Int)).mono ?_; rintro e w5 ⟨rfl, s_⟩; have S5 := Aside0.mk s_; clear s_; have q0 := S5.out.q0; have q1 := S5.out.q1; have q2 := S5.out.q2; have q3 := S5.out.q3; have q4 := S5.out.q4; have z0 := S5.out.z 0; have z1 := S5.out.z 1; have z2 := S5.out.z 2; have z3 := S5.out.z 3; have z4 := S5.out.z 4))
   obtain ⟨a1, a2, a3, a4⟩ := S5.out.put (.int .i64 0) (.int .i64 0) (.string ⟨#[]⟩) (.int .i64 0) (.int .i64 0)
   refine bodyPost_ret (results_ct rfl _ _ w.heap.size 57 #[.int .i64 0, .int .i64 0, .string ⟨#[]⟩, .int .i64 0, .int .i64 0] (0, 0) _ rfl a4 Tryz.underlying57 rfl (by kernel_rfl)) rfl ?_
   unfold dateR
   rw [if_pos (Or.inr HW.out)]
   exact ⟨rfl, a1, a2, a3⟩
  | false =>
   have HW := Aside0.mk hw
   clear hw
   go_wp2_with (first | (go_at_call 201; refine (is_st (w0 := w0) (w := w) S3.out HT.out (p + 10) 7).mono ?_; rw [isC_7]; rw [HW.out]; rintro e w4 ⟨rfl, s_⟩; have S4 := Aside0.mk s_; clear s_; have q0 := S4.out.q0; have q1 := S4.out.q1; have q2 := S4.out.q2; have q3 := S4.out.q3; have q4 := S4.out.q4; have z0 := S4.out.z 0; have z1 := S4.out.z 1; have z2 := S4.out.z 2; have z3 := S4.out.z 3; have z4 := S4.out.z 4))
   obtain ⟨a1, a2, a3, a4⟩ := S4.out.put (.int .i64 5) (.int .i64 p) (.string ⟨#[]⟩) (.int .i64 r1) (.int .i64 0)
   refine bodyPost_ret (results_ct rfl _ _ w.heap.size 57 #[.int .i64 5, .int .i64 p, .string ⟨#[]⟩, .int .i64 r1, .int .i64 0] (0, 0) _ rfl a4 Tryz.underlying57 rfl (by kernel_rfl)) rfl ?_
   unfold dateR
   rw [HR.out, if_neg (fun h => by rcases h with h | h; exact h H3.out; (rw [HW.out] at h; cases h))]
   exact ⟨rfl, a1, a2, a3⟩
 ·have k3 : (r3 != 0) = true := bne_iff_ne.mpr h3
  have H3 := Aside0.mk h3
  clear h3
  go_wp2_with (first | (go_at_call 135; refine (fail_st (w0 := w0) (w := w) (s := s) (x := ((p : Int) + 10)) (l := l) (e3 := e3) (e4 := e4) S3.out 44 (p : Int)).mono ?_; rintro e w5 ⟨rfl, s_⟩; have S5 := Aside0.mk s_; clear s_; have q0 := S5.out.q0; have q1 := S5.out.q1; have q2 := S5.out.q2; have q3 := S5.out.q3; have q4 := S5.out.q4; have z0 := S5.out.z 0; have z1 := S5.out.z 1; have z2 := S5.out.z 2; have z3 := S5.out.z 3; have z4 := S5.out.z 4))
  obtain ⟨a1, a2, a3, a4⟩ := S5.out.put (.int .i64 0) (.int .i64 0) (.string ⟨#[]⟩) (.int .i64 0) (.int .i64 0)
  refine bodyPost_ret (results_ct rfl _ _ w.heap.size 57 #[.int .i64 0, .int .i64 0, .string ⟨#[]⟩, .int .i64 0, .int .i64 0] (0, 0) _ rfl a4 Tryz.underlying57 rfl (by kernel_rfl)) rfl ?_
  unfold dateR
  rw [HR.out, if_pos (Or.inl H3.out)]
  exact ⟨rfl, a1, a2, a3⟩
end Go.Proofs.YtjlclkenfmbahaaGreatDoor.PA
