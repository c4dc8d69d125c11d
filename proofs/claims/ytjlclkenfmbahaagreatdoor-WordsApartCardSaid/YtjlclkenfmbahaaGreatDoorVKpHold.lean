/- The book's due, holdTokens and Hold. Condition: the book is as KpSt has it; every list out and every list that waits holds what its note says. -/
import Derived.Test.YtjlclkenfmbahaaGreatDoorVK
import Derived.BigRegion
import Derived.RegionTactic
import Derived.BigQuiet
namespace Go.Proofs.YtjlclkenfmbahaaGreatDoor.PA
open Go.RowKit Go.Maps Go.Proofs.YtjlclkenfmbahaaGreatDoorW.PrintWords Go.Proofs.YtjlclkenfmbahaaGreatDoorW.PrintLast Go.Proofs.YtjlclkenfmbahaaGreatDoorW.PrintMore
set_option linter.unusedVariables false
set_option linter.unusedSimpArgs false
set_option maxRecDepth 100000
set_option maxHeartbeats 4000000
variable {PS : List (Value × List S57)}
theorem due_calls {b : Nat} {W : World} {col : Col} {G : Nat} {cg : Array Value} {deep turn seen : Int} {rs : Nat → List Value} (h : RB b W col G cg deep turn seen rs) (n : Int) :
  Calls Tryz.prog 44 #[.pointer (some ⟨G, 0, none⟩), .int .i64 n] W fun e w' => (∃ d, e = .returned (.int .i64 d)) ∧ Below W.heap.size W w' := by
 have x0 := h.bo.cell h.c0
 have x2 := h.bo.cell h.c2
 clear h
 by_cases c0 : Int.tmod n 3 = 0
 ·have k0 : (Int.tmod n 3 == 0) = true := beq_iff_eq.mpr c0
  clear c0
  go_enter Tryz.func44, Tryz.ntmps44
  go_wp2
  refine bodyPost_ret (results_tmp rfl _ _ _) rfl ⟨⟨_, rfl⟩, Below.refl _ _⟩
 ·have k0 : (Int.tmod n 3 == 0) = false := beq_eq_false_iff_ne.mpr c0
  by_cases c1 : Int.tmod n 3 = 1
  ·have k1 : (Int.tmod n 3 == 1) = true := beq_iff_eq.mpr c1
   clear c0 c1
   go_enter Tryz.func44, Tryz.ntmps44
   go_wp2
   refine bodyPost_ret (results_tmp rfl _ _ _) rfl ⟨⟨_, rfl⟩, Below.refl _ _⟩
  ·have k1 : (Int.tmod n 3 == 1) = false := beq_eq_false_iff_ne.mpr c1
   clear c0 c1
   go_enter Tryz.func44, Tryz.ntmps44
   go_wp2
   refine bodyPost_ret (results_tmp rfl _ _ _) rfl ⟨⟨_, rfl⟩, Below.refl _ _⟩
theorem two_cells {b : Nat} {W : World} {col : Col} {t s e1 e2 g1 g2 n1 n2 cap1 cap2 i : Nat} {xs ys : List Value} {u v : Value} (h1 : KRow b W col t e1 (.slice (some ⟨g1, 0, none⟩) n1 cap1) xs) (h2 : KRow b W col s e2 (.slice (some ⟨g2, 0, none⟩) n2 cap2) ys) (hu : xs[i]? = some u) (hv : ys[i]? = some v) :
  ∀ w', Below W.heap.size W w' → w'.cell? ⟨g1, i, none⟩ = some u ∧ w'.cell? ⟨g2, i, none⟩ = some v := fun w' hb =>
 ⟨(hb.cell (World.block_lt_of_cell? _ _ (h1.cell hu))).trans (h1.cell hu), (hb.cell (World.block_lt_of_cell? _ _ (h2.cell hv))).trans (h2.cell hv)⟩
theorem holdT_calls {b : Nat} {W : World} {col : Col} {G : Nat} {cg : Array Value} {deep turn seen : Int} {os : List Ot} {ws : List Wt} (h : RB b W col G cg deep turn seen (stdR os ws [])) (hc : Ct PS b W col os ws []) (hlo : os.length ≤ 1000) (hlw : ws.length ≤ 1000) :
  Calls Tryz.prog 53 #[.pointer (some ⟨G, 0, none⟩)] W fun e w' => e = .returned (.bool true) ∧ Below W.heap.size W w' := by
 obtain ⟨v0, a0, r0⟩ := h.row 0 (by omega)
 obtain ⟨v1, a1, r1⟩ := h.row 1 (by omega)
 obtain ⟨v2, a2, r2⟩ := h.row 2 (by omega)
 obtain ⟨v3, a3, r3⟩ := h.row 3 (by omega)
 obtain ⟨A0, k0, rfl, f0⟩ := r0.form
 obtain ⟨A1, k1, rfl, f1⟩ := r1.form
 obtain ⟨A2, k2, rfl, f2⟩ := r2.form
 obtain ⟨A3, k3, rfl, f3⟩ := r3.form
 have x0 : W.cell? ⟨G, 67, none⟩ = _ := h.bo.cell a0
 have x1 : W.cell? ⟨G, 68, none⟩ = _ := h.bo.cell a1
 have x2 : W.cell? ⟨G, 69, none⟩ = _ := h.bo.cell a2
 have x3 : W.cell? ⟨G, 70, none⟩ = _ := h.bo.cell a3
 have e0 : (stdR os ws [] 0).length = os.length := by simp [stdR]
 have e1 : (stdR os ws [] 1).length = os.length := by simp [stdR]
 have e2 : (stdR os ws [] 2).length = ws.length := by simp [stdR]
 have e3 : (stdR os ws [] 3).length = ws.length := by simp [stdR]
 rw [e0] at x0 f0 r0
 rw [e1] at x1 f1 r1
 rw [e2] at x2 f2 r2
 rw [e3] at x3 f3 r3
 have X0 := Aside0.mk x0
 have X1 := Aside0.mk x1
 have X2 := Aside0.mk x2
 have X3 := Aside0.mk x3
 have R0 := Aside0.mk r0
 have R1 := Aside0.mk r1
 have R2 := Aside0.mk r2
 have R3 := Aside0.mk r3
 have HC := Aside0.mk hc
 have F0 := Aside0.mk f0
 have F1 := Aside0.mk f1
 have F2 := Aside0.mk f2
 have F3 := Aside0.mk f3
 clear h hc a0 a1 a2 a3 x0 x1 x2 x3 r0 r1 r2 r3 f0 f1 f2 f3 e0 e1 e2 e3
 go_enter Tryz.func53, Tryz.ntmps53
 go_wp2_with fail
 go_loopw [3] (fun v3 wr => ∃ i : Nat, i ≤ os.length ∧ v3 = .int .i64 i ∧ Hid (Below W.heap.size W wr)) (fun v3 _ => os.length - (intOf v3).toNat)
 case atStart => exact ⟨0, by omega, rfl, Below.refl _ _⟩
 case round =>
  obtain ⟨i, hi, rfl, hbr⟩ := hrel
  have xa := (hbr.out.cell (World.block_lt_of_cell? _ _ X0.out)).trans X0.out
  by_cases hin : i < os.length
  ·have cin : ((i : Int) < (os.length : Int)) := by omega
   have ci0 : (0 : Int) ≤ (i : Int) := by omega
   have hi1 : wrap64 ((i : Int) + 1) = (i : Int) + 1 := Go.Proofs.YtjlclkenfmbahaaGreatDoor.Days.wr (by omega) (by omega)
   obtain ⟨g1, rfl⟩ := F0.out (by omega)
   obtain ⟨g2, rfl⟩ := F1.out (by omega)
   obtain ⟨y, hy⟩ : ∃ y, os[i]? = some y := ⟨_, List.getElem?_eq_getElem hin⟩
   have hm : y ∈ os := List.mem_of_getElem? hy
   obtain ⟨q1, q2, q3, q4⟩ := HC.out.out y hm
   have SM : Aside0 (∀ w', Below W.heap.size W w' → Calls Tryz.prog 95 #[y.v, y.td] w' fun e w2 => e = .returned (.bool true) ∧ Below w'.heap.size w' w2) := ⟨fun w' hb => sameK_calls (q1.mv (Mv.of_below (t := 30) hb (Nat.zero_le _)) (by omega)) (q2.mv (Mv.of_below (t := 30) hb (Nat.zero_le _)) (by omega)) (by omega)⟩
   have FC := Aside0.mk (two_cells R0.out R1.out (i := i) (u := y.v) (v := y.td) (by simp [stdR, hy]) (by simp [stdR, hy]))
   obtain ⟨u1, hu1⟩ : ∃ u1, y.v = u1 := ⟨_, rfl⟩
   obtain ⟨u2, hu2⟩ : ∃ u2, y.td = u2 := ⟨_, rfl⟩
   rw [hu1, hu2] at SM FC
   have FA : Aside0 (∀ w', Below W.heap.size W w' → w'.cell? ⟨G, 67, none⟩ = _) := ⟨fun w' hb => (hb.cell (World.block_lt_of_cell? _ _ X0.out)).trans X0.out⟩
   have FB : Aside0 (∀ w', Below W.heap.size W w' → w'.cell? ⟨G, 68, none⟩ = _) := ⟨fun w' hb => (hb.cell (World.block_lt_of_cell? _ _ X1.out)).trans X1.out⟩
   clear q1 q2 q3 q4 hm hy hu1 hu2
   go_upto_region 4 with fail
   refine start_ (n := 16) (S := fun w' => w'.cell? ⟨G, 67, none⟩ = some (.slice (some ⟨g1, 0, none⟩) os.length k0) ∧ w'.cell? ⟨G, 68, none⟩ = some (.slice (some ⟨g2, 0, none⟩) os.length k1) ∧ w'.cell? ⟨g1, i, none⟩ = some u1 ∧ w'.cell? ⟨g2, i, none⟩ = some u2 ∧ Below W.heap.size W w') (ds := []) #[false, false, false, false, false, false, false, false, false, false, false, false, false, false, false, false] (by kernel_rfl) rfl rfl ⟨(FA.out _ (below_drew hbr.out)), (FB.out _ (below_drew hbr.out)), (FC.out _ (below_drew hbr.out)).1, (FC.out _ (below_drew hbr.out)).2, (below_drew hbr.out)⟩ (fun hHeld => ?_)
   refine pure_ (i := 0) (N := some 14) (v := ?_) (a' := ?_) #[true, false, false, false, false, false, false, false, false, false, false, false, false, false, false, false] rfl rfl (by kernel_rfl) (fun _ _ _ h => h) (Or.inl ⟨by rfl, ?_⟩) ?_ ?_
   rotate_left
   ·intro w'
    go_simp
    with_reducible rfl
   rotate_left
   ·simp only [Act.put, List.setIfInBounds_toArray, List.set_cons_zero, List.set_cons_succ, i64_w, i32_w]
    rfl
   refine pure_ (i := 1) (N := some 15) (v := ?_) (a' := ?_) #[true, true, false, false, false, false, false, false, false, false, false, false, false, false, false, false] rfl rfl (by kernel_rfl) (fun _ _ _ h => h) (Or.inl ⟨by rfl, ?_⟩) ?_ ?_
   rotate_left
   ·intro w'
    go_simp
    with_reducible rfl
   rotate_left
   ·simp only [Act.put, List.setIfInBounds_toArray, List.set_cons_zero, List.set_cons_succ, i64_w, i32_w]
    rfl
   refine pure_ (i := 2) (N := some 16) (v := ?_) (a' := ?_) #[true, true, true, false, false, false, false, false, false, false, false, false, false, false, false, false] rfl rfl (by kernel_rfl) (fun _ _ _ h => h) (Or.inl ⟨by rfl, ?_⟩) ?_ ?_
   rotate_left
   ·intro w'
    go_simp
    with_reducible rfl
   rotate_left
   ·simp only [Act.put, List.setIfInBounds_toArray, List.set_cons_zero, List.set_cons_succ, i64_w, i32_w]
    rfl
   refine pure_ (i := 4) (N := some 18) (v := ?_) (a' := ?_) #[true, true, true, false, true, false, false, false, false, false, false, false, false, false, false, false] rfl rfl (by kernel_rfl) (fun _ _ _ h => h) (Or.inl ⟨by rfl, ?_⟩) ?_ ?_
   rotate_left
   ·intro w'
    go_simp
    with_reducible rfl
   rotate_left
   ·simp only [Act.put, List.setIfInBounds_toArray, List.set_cons_zero, List.set_cons_succ, i64_w, i32_w]
    rfl
   refine pure_ (i := 7) (N := some 21) (v := ?_) (a' := ?_) #[true, true, true, false, true, false, false, true, false, false, false, false, false, false, false, false] rfl rfl (by kernel_rfl) (fun _ _ _ h => h) (Or.inl ⟨by rfl, ?_⟩) ?_ ?_
   rotate_left
   ·intro w'
    go_simp
    with_reducible rfl
   rotate_left
   ·simp only [Act.put, List.setIfInBounds_toArray, List.set_cons_zero, List.set_cons_succ, i64_w, i32_w]
    rfl
   refine pure_ (i := 8) (N := some 22) (v := ?_) (a' := ?_) #[true, true, true, false, true, false, false, true, true, false, false, false, false, false, false, false] rfl rfl (by kernel_rfl) (fun _ _ _ h => h) (Or.inl ⟨by rfl, ?_⟩) ?_ ?_
   rotate_left
   ·intro w'
    go_simp
    with_reducible rfl
   rotate_left
   ·simp only [Act.put, List.setIfInBounds_toArray, List.set_cons_zero, List.set_cons_succ, i64_w, i32_w]
    rfl
   refine pure_ (i := 9) (N := some 23) (v := ?_) (a' := ?_) #[true, true, true, false, true, false, false, true, true, true, false, false, false, false, false, false] rfl rfl (by kernel_rfl) (fun _ _ _ h => h) (Or.inl ⟨by rfl, ?_⟩) ?_ ?_
   rotate_left
   ·intro w'
    go_simp
    with_reducible rfl
   rotate_left
   ·simp only [Act.put, List.setIfInBounds_toArray, List.set_cons_zero, List.set_cons_succ, i64_w, i32_w]
    rfl
   refine pure_ (i := 11) (N := some 25) (v := ?_) (a' := ?_) #[true, true, true, false, true, false, false, true, true, true, false, true, false, false, false, false] rfl rfl (by kernel_rfl) (fun _ _ _ h => h) (Or.inl ⟨by rfl, ?_⟩) ?_ ?_
   rotate_left
   ·intro w'
    go_simp
    with_reducible rfl
   rotate_left
   ·simp only [Act.put, List.setIfInBounds_toArray, List.set_cons_zero, List.set_cons_succ, i64_w, i32_w]
    rfl
   refine take_ (i := 3) (N := some 17) (v := ?_) (a' := ?_) #[true, true, true, true, true, false, false, true, true, true, false, true, false, false, false, false] rfl rfl (by kernel_rfl) (fun _ _ _ h => h) (Or.inl ⟨by rfl, ?_⟩) hHeld ?_ ?_
   rotate_left
   ·rintro w' ⟨s0, s1, s2, s3, s4⟩
    go_simp
    with_reducible rfl
   rotate_left
   ·simp only [Act.put, List.setIfInBounds_toArray, List.set_cons_zero, List.set_cons_succ, i64_w, i32_w]
    rfl
   refine pure_ (i := 5) (N := some 19) (v := ?_) (a' := ?_) #[true, true, true, true, true, true, false, true, true, true, false, true, false, false, false, false] rfl rfl (by kernel_rfl) (fun _ _ _ h => h) (Or.inl ⟨by rfl, ?_⟩) ?_ ?_
   rotate_left
   ·intro w'
    go_simp
    with_reducible rfl
   rotate_left
   ·simp only [Act.put, List.setIfInBounds_toArray, List.set_cons_zero, List.set_cons_succ, i64_w, i32_w]
    rfl
   refine take_ (i := 6) (N := some 20) (v := ?_) (a' := ?_) #[true, true, true, true, true, true, true, true, true, true, false, true, false, false, false, false] rfl rfl (by kernel_rfl) (fun _ _ _ h => h) (Or.inl ⟨by rfl, ?_⟩) hHeld ?_ ?_
   rotate_left
   ·rintro w' ⟨s0, s1, s2, s3, s4⟩
    go_simp
    with_reducible rfl
   rotate_left
   ·simp only [Act.put, List.setIfInBounds_toArray, List.set_cons_zero, List.set_cons_succ, i64_w, i32_w]
    rfl
   refine take_ (i := 10) (N := some 24) (v := ?_) (a' := ?_) #[true, true, true, true, true, true, true, true, true, true, true, true, false, false, false, false] rfl rfl (by kernel_rfl) (fun _ _ _ h => h) (Or.inl ⟨by rfl, ?_⟩) hHeld ?_ ?_
   rotate_left
   ·rintro w' ⟨s0, s1, s2, s3, s4⟩
    go_simp
    with_reducible rfl
   rotate_left
   ·simp only [Act.put, List.setIfInBounds_toArray, List.set_cons_zero, List.set_cons_succ, i64_w, i32_w]
    rfl
   refine pure_ (i := 12) (N := some 26) (v := ?_) (a' := ?_) #[true, true, true, true, true, true, true, true, true, true, true, true, true, false, false, false] rfl rfl (by kernel_rfl) (fun _ _ _ h => h) (Or.inl ⟨by rfl, ?_⟩) ?_ ?_
   rotate_left
   ·intro w'
    go_simp
    with_reducible rfl
   rotate_left
   ·simp only [Act.put, List.setIfInBounds_toArray, List.set_cons_zero, List.set_cons_succ, i64_w, i32_w]
    rfl
   refine take_ (i := 13) (N := some 27) (v := ?_) (a' := ?_) #[true, true, true, true, true, true, true, true, true, true, true, true, true, true, false, false] rfl rfl (by kernel_rfl) (fun _ _ _ h => h) (Or.inl ⟨by rfl, ?_⟩) hHeld ?_ ?_
   rotate_left
   ·rintro w' ⟨s0, s1, s2, s3, s4⟩
    go_simp
    with_reducible rfl
   rotate_left
   ·simp only [Act.put, List.setIfInBounds_toArray, List.set_cons_zero, List.set_cons_succ, i64_w, i32_w]
    rfl
   refine one_ (i := 14) (N := some 28) #[true, true, true, true, true, true, true, true, true, true, true, true, true, true, true, false] rfl rfl (by kernel_rfl) (by decide) (fun K hK => ?_)
   refine goes_ Tryz.func95 (by kernel_rfl) rfl #[u1, u2] (by rfl) rfl rfl (by simp only [List.map_toArray, List.map_cons, List.map_nil]; rfl) ?_
   with_reducible refine ((SM.out _ hHeld.2.2.2.2)).mono ?_
   rintro e w4 ⟨rfl, hb2⟩
   refine ⟨_, rfl, ?_⟩
   refine hK.out _ _ ⟨(FA.out _ (hHeld.2.2.2.2.trans (hb2.mono hHeld.2.2.2.2.size))), (FB.out _ (hHeld.2.2.2.2.trans (hb2.mono hHeld.2.2.2.2.size))), (FC.out _ (hHeld.2.2.2.2.trans (hb2.mono hHeld.2.2.2.2.size))).1, (FC.out _ (hHeld.2.2.2.2.trans (hb2.mono hHeld.2.2.2.2.size))).2, (hHeld.2.2.2.2.trans (hb2.mono hHeld.2.2.2.2.size))⟩ (fun hHeld => ?_)
   clear hK K
   refine norm_ (a' := ?_) ?_ ?_
   rotate_left
   ·show Act.put _ (some 28) _ = _
    simp only [Act.put, List.setIfInBounds_toArray, List.set_cons_zero, List.set_cons_succ, i64_w, i32_w]
    rfl
   refine pure_ (i := 15) (N := some 29) (v := ?_) (a' := ?_) #[true, true, true, true, true, true, true, true, true, true, true, true, true, true, true, true] rfl rfl (by kernel_rfl) (fun _ _ _ h => h) (Or.inl ⟨by rfl, ?_⟩) ?_ ?_
   rotate_left
   ·intro w'
    go_simp
    with_reducible rfl
   rotate_left
   ·simp only [Act.put, List.setIfInBounds_toArray, List.set_cons_zero, List.set_cons_succ, i64_w, i32_w]
    rfl
   refine done_ (by kernel_rfl) ?_
   go_wp2_with fail
   first | rw [hi1] | skip
   exact ⟨⟨i + 1, by omega, congrArg (Value.int .i64) (by omega), hHeld.2.2.2.2⟩, by simp [intOf]; omega⟩
  ·obtain rfl : i = os.length := by omega
   have cin : ¬ ((os.length : Int) < (os.length : Int)) := by omega
   have HBR := Aside0.mk hbr.out
   clear hbr
   go_wp2_with fail
   clear xa
   go_loopw [4] (fun v4 wr => ∃ i : Nat, i ≤ ws.length ∧ v4 = .int .i64 i ∧ Hid (Below W.heap.size W wr)) (fun v4 _ => ws.length - (intOf v4).toNat)
   case atStart => exact ⟨0, by omega, rfl, HBR.out⟩
   case round =>
    clear HBR
    obtain ⟨i, hi, rfl, hbr⟩ := hrel
    have xa := (hbr.out.cell (World.block_lt_of_cell? _ _ X2.out)).trans X2.out
    by_cases hin : i < ws.length
    ·have cin : ((i : Int) < (ws.length : Int)) := by omega
     have ci0 : (0 : Int) ≤ (i : Int) := by omega
     have hi1 : wrap64 ((i : Int) + 1) = (i : Int) + 1 := Go.Proofs.YtjlclkenfmbahaaGreatDoor.Days.wr (by omega) (by omega)
     obtain ⟨g1, rfl⟩ := F2.out (by omega)
     obtain ⟨g2, rfl⟩ := F3.out (by omega)
     obtain ⟨y, hy⟩ : ∃ y, ws[i]? = some y := ⟨_, List.getElem?_eq_getElem hin⟩
     have hm : y ∈ ws := List.mem_of_getElem? hy
     obtain ⟨q0, q2, q3, q4⟩ := HC.out.wait y hm
     have q1 := tk_rd q0
     have SM : Aside0 (∀ w', Below W.heap.size W w' → Calls Tryz.prog 95 #[y.v, y.nt] w' fun e w2 => e = .returned (.bool true) ∧ Below w'.heap.size w' w2) := ⟨fun w' hb => sameK_calls (q1.mv (Mv.of_below (t := 30) hb (Nat.zero_le _)) (by omega)) (q2.mv (Mv.of_below (t := 30) hb (Nat.zero_le _)) (by omega)) (by omega)⟩
     have FC := Aside0.mk (two_cells R2.out R3.out (i := i) (u := y.v) (v := y.nt) (by simp [stdR, hy]) (by simp [stdR, hy]))
     obtain ⟨u1, hu1⟩ : ∃ u1, y.v = u1 := ⟨_, rfl⟩
     obtain ⟨u2, hu2⟩ : ∃ u2, y.nt = u2 := ⟨_, rfl⟩
     rw [hu1, hu2] at SM FC
     have FA : Aside0 (∀ w', Below W.heap.size W w' → w'.cell? ⟨G, 69, none⟩ = _) := ⟨fun w' hb => (hb.cell (World.block_lt_of_cell? _ _ X2.out)).trans X2.out⟩
     have FB : Aside0 (∀ w', Below W.heap.size W w' → w'.cell? ⟨G, 70, none⟩ = _) := ⟨fun w' hb => (hb.cell (World.block_lt_of_cell? _ _ X3.out)).trans X3.out⟩
     clear q1 q2 q3 q4 hm hy hu1 hu2 q0
     go_upto_region 9 with fail
     refine start_ (n := 16) (S := fun w' => w'.cell? ⟨G, 69, none⟩ = some (.slice (some ⟨g1, 0, none⟩) ws.length k2) ∧ w'.cell? ⟨G, 70, none⟩ = some (.slice (some ⟨g2, 0, none⟩) ws.length k3) ∧ w'.cell? ⟨g1, i, none⟩ = some u1 ∧ w'.cell? ⟨g2, i, none⟩ = some u2 ∧ Below W.heap.size W w') (ds := []) #[false, false, false, false, false, false, false, false, false, false, false, false, false, false, false, false] (by kernel_rfl) rfl rfl ⟨(FA.out _ (below_drew hbr.out)), (FB.out _ (below_drew hbr.out)), (FC.out _ (below_drew hbr.out)).1, (FC.out _ (below_drew hbr.out)).2, (below_drew hbr.out)⟩ (fun hHeld => ?_)
     refine pure_ (i := 0) (N := some 39) (v := ?_) (a' := ?_) #[true, false, false, false, false, false, false, false, false, false, false, false, false, false, false, false] rfl rfl (by kernel_rfl) (fun _ _ _ h => h) (Or.inl ⟨by rfl, ?_⟩) ?_ ?_
     rotate_left
     ·intro w'
      go_simp
      with_reducible rfl
     rotate_left
     ·simp only [Act.put, List.setIfInBounds_toArray, List.set_cons_zero, List.set_cons_succ, i64_w, i32_w]
      rfl
     refine pure_ (i := 1) (N := some 40) (v := ?_) (a' := ?_) #[true, true, false, false, false, false, false, false, false, false, false, false, false, false, false, false] rfl rfl (by kernel_rfl) (fun _ _ _ h => h) (Or.inl ⟨by rfl, ?_⟩) ?_ ?_
     rotate_left
     ·intro w'
      go_simp
      with_reducible rfl
     rotate_left
     ·simp only [Act.put, List.setIfInBounds_toArray, List.set_cons_zero, List.set_cons_succ, i64_w, i32_w]
      rfl
     refine pure_ (i := 2) (N := some 41) (v := ?_) (a' := ?_) #[true, true, true, false, false, false, false, false, false, false, false, false, false, false, false, false] rfl rfl (by kernel_rfl) (fun _ _ _ h => h) (Or.inl ⟨by rfl, ?_⟩) ?_ ?_
     rotate_left
     ·intro w'
      go_simp
      with_reducible rfl
     rotate_left
     ·simp only [Act.put, List.setIfInBounds_toArray, List.set_cons_zero, List.set_cons_succ, i64_w, i32_w]
      rfl
     refine pure_ (i := 4) (N := some 43) (v := ?_) (a' := ?_) #[true, true, true, false, true, false, false, false, false, false, false, false, false, false, false, false] rfl rfl (by kernel_rfl) (fun _ _ _ h => h) (Or.inl ⟨by rfl, ?_⟩) ?_ ?_
     rotate_left
     ·intro w'
      go_simp
      with_reducible rfl
     rotate_left
     ·simp only [Act.put, List.setIfInBounds_toArray, List.set_cons_zero, List.set_cons_succ, i64_w, i32_w]
      rfl
     refine pure_ (i := 7) (N := some 46) (v := ?_) (a' := ?_) #[true, true, true, false, true, false, false, true, false, false, false, false, false, false, false, false] rfl rfl (by kernel_rfl) (fun _ _ _ h => h) (Or.inl ⟨by rfl, ?_⟩) ?_ ?_
     rotate_left
     ·intro w'
      go_simp
      with_reducible rfl
     rotate_left
     ·simp only [Act.put, List.setIfInBounds_toArray, List.set_cons_zero, List.set_cons_succ, i64_w, i32_w]
      rfl
     refine pure_ (i := 8) (N := some 47) (v := ?_) (a' := ?_) #[true, true, true, false, true, false, false, true, true, false, false, false, false, false, false, false] rfl rfl (by kernel_rfl) (fun _ _ _ h => h) (Or.inl ⟨by rfl, ?_⟩) ?_ ?_
     rotate_left
     ·intro w'
      go_simp
      with_reducible rfl
     rotate_left
     ·simp only [Act.put, List.setIfInBounds_toArray, List.set_cons_zero, List.set_cons_succ, i64_w, i32_w]
      rfl
     refine pure_ (i := 9) (N := some 48) (v := ?_) (a' := ?_) #[true, true, true, false, true, false, false, true, true, true, false, false, false, false, false, false] rfl rfl (by kernel_rfl) (fun _ _ _ h => h) (Or.inl ⟨by rfl, ?_⟩) ?_ ?_
     rotate_left
     ·intro w'
      go_simp
      with_reducible rfl
     rotate_left
     ·simp only [Act.put, List.setIfInBounds_toArray, List.set_cons_zero, List.set_cons_succ, i64_w, i32_w]
      rfl
     refine pure_ (i := 11) (N := some 50) (v := ?_) (a' := ?_) #[true, true, true, false, true, false, false, true, true, true, false, true, false, false, false, false] rfl rfl (by kernel_rfl) (fun _ _ _ h => h) (Or.inl ⟨by rfl, ?_⟩) ?_ ?_
     rotate_left
     ·intro w'
      go_simp
      with_reducible rfl
     rotate_left
     ·simp only [Act.put, List.setIfInBounds_toArray, List.set_cons_zero, List.set_cons_succ, i64_w, i32_w]
      rfl
     refine take_ (i := 3) (N := some 42) (v := ?_) (a' := ?_) #[true, true, true, true, true, false, false, true, true, true, false, true, false, false, false, false] rfl rfl (by kernel_rfl) (fun _ _ _ h => h) (Or.inl ⟨by rfl, ?_⟩) hHeld ?_ ?_
     rotate_left
     ·rintro w' ⟨s0, s1, s2, s3, s4⟩
      go_simp
      with_reducible rfl
     rotate_left
     ·simp only [Act.put, List.setIfInBounds_toArray, List.set_cons_zero, List.set_cons_succ, i64_w, i32_w]
      rfl
     refine pure_ (i := 5) (N := some 44) (v := ?_) (a' := ?_) #[true, true, true, true, true, true, false, true, true, true, false, true, false, false, false, false] rfl rfl (by kernel_rfl) (fun _ _ _ h => h) (Or.inl ⟨by rfl, ?_⟩) ?_ ?_
     rotate_left
     ·intro w'
      go_simp
      with_reducible rfl
     rotate_left
     ·simp only [Act.put, List.setIfInBounds_toArray, List.set_cons_zero, List.set_cons_succ, i64_w, i32_w]
      rfl
     refine take_ (i := 6) (N := some 45) (v := ?_) (a' := ?_) #[true, true, true, true, true, true, true, true, true, true, false, true, false, false, false, false] rfl rfl (by kernel_rfl) (fun _ _ _ h => h) (Or.inl ⟨by rfl, ?_⟩) hHeld ?_ ?_
     rotate_left
     ·rintro w' ⟨s0, s1, s2, s3, s4⟩
      go_simp
      with_reducible rfl
     rotate_left
     ·simp only [Act.put, List.setIfInBounds_toArray, List.set_cons_zero, List.set_cons_succ, i64_w, i32_w]
      rfl
     refine take_ (i := 10) (N := some 49) (v := ?_) (a' := ?_) #[true, true, true, true, true, true, true, true, true, true, true, true, false, false, false, false] rfl rfl (by kernel_rfl) (fun _ _ _ h => h) (Or.inl ⟨by rfl, ?_⟩) hHeld ?_ ?_
     rotate_left
     ·rintro w' ⟨s0, s1, s2, s3, s4⟩
      go_simp
      with_reducible rfl
     rotate_left
     ·simp only [Act.put, List.setIfInBounds_toArray, List.set_cons_zero, List.set_cons_succ, i64_w, i32_w]
      rfl
     refine pure_ (i := 12) (N := some 51) (v := ?_) (a' := ?_) #[true, true, true, true, true, true, true, true, true, true, true, true, true, false, false, false] rfl rfl (by kernel_rfl) (fun _ _ _ h => h) (Or.inl ⟨by rfl, ?_⟩) ?_ ?_
     rotate_left
     ·intro w'
      go_simp
      with_reducible rfl
     rotate_left
     ·simp only [Act.put, List.setIfInBounds_toArray, List.set_cons_zero, List.set_cons_succ, i64_w, i32_w]
      rfl
     refine take_ (i := 13) (N := some 52) (v := ?_) (a' := ?_) #[true, true, true, true, true, true, true, true, true, true, true, true, true, true, false, false] rfl rfl (by kernel_rfl) (fun _ _ _ h => h) (Or.inl ⟨by rfl, ?_⟩) hHeld ?_ ?_
     rotate_left
     ·rintro w' ⟨s0, s1, s2, s3, s4⟩
      go_simp
      with_reducible rfl
     rotate_left
     ·simp only [Act.put, List.setIfInBounds_toArray, List.set_cons_zero, List.set_cons_succ, i64_w, i32_w]
      rfl
     refine one_ (i := 14) (N := some 53) #[true, true, true, true, true, true, true, true, true, true, true, true, true, true, true, false] rfl rfl (by kernel_rfl) (by decide) (fun K hK => ?_)
     refine goes_ Tryz.func95 (by kernel_rfl) rfl #[u1, u2] (by rfl) rfl rfl (by simp only [List.map_toArray, List.map_cons, List.map_nil]; rfl) ?_
     with_reducible refine ((SM.out _ hHeld.2.2.2.2)).mono ?_
     rintro e w4 ⟨rfl, hb2⟩
     refine ⟨_, rfl, ?_⟩
     refine hK.out _ _ ⟨(FA.out _ (hHeld.2.2.2.2.trans (hb2.mono hHeld.2.2.2.2.size))), (FB.out _ (hHeld.2.2.2.2.trans (hb2.mono hHeld.2.2.2.2.size))), (FC.out _ (hHeld.2.2.2.2.trans (hb2.mono hHeld.2.2.2.2.size))).1, (FC.out _ (hHeld.2.2.2.2.trans (hb2.mono hHeld.2.2.2.2.size))).2, (hHeld.2.2.2.2.trans (hb2.mono hHeld.2.2.2.2.size))⟩ (fun hHeld => ?_)
     clear hK K
     refine norm_ (a' := ?_) ?_ ?_
     rotate_left
     ·show Act.put _ (some 53) _ = _
      simp only [Act.put, List.setIfInBounds_toArray, List.set_cons_zero, List.set_cons_succ, i64_w, i32_w]
      rfl
     refine pure_ (i := 15) (N := some 54) (v := ?_) (a' := ?_) #[true, true, true, true, true, true, true, true, true, true, true, true, true, true, true, true] rfl rfl (by kernel_rfl) (fun _ _ _ h => h) (Or.inl ⟨by rfl, ?_⟩) ?_ ?_
     rotate_left
     ·intro w'
      go_simp
      with_reducible rfl
     rotate_left
     ·simp only [Act.put, List.setIfInBounds_toArray, List.set_cons_zero, List.set_cons_succ, i64_w, i32_w]
      rfl
     refine done_ (by kernel_rfl) ?_
     go_wp2_with fail
     first | rw [hi1] | skip
     exact ⟨⟨i + 1, by omega, congrArg (Value.int .i64) (by omega), hHeld.2.2.2.2⟩, by simp [intOf]; omega⟩
    ·obtain rfl : i = ws.length := by omega
     have cin : ¬ ((ws.length : Int) < (ws.length : Int)) := by omega
     go_wp2_with fail
     refine bodyPost_ret (results_tmp rfl _ _ _) rfl ⟨rfl, hbr.out⟩
theorem bookHold_calls {b : Nat} {W : World} {col : Col} {G : Nat} {cg : Array Value} {deep turn seen : Int} {os : List Ot} {ws : List Wt} (h : RB b W col G cg deep turn seen (stdR os ws [])) (hc : Ct PS b W col os ws []) (hlo : os.length ≤ 1000) (hlw : ws.length ≤ 1000) (hl0 : b ≤ W.heap.size) :
  Calls Tryz.prog 14 #[.pointer (some ⟨G, 0, none⟩)] W fun e w' => e = .returned (.bool true) ∧ Below W.heap.size W w' := by
 have x1 := h.bo.cell h.c1
 have HR := Aside0.mk h
 have HC := Aside0.mk hc
 have HL0 := Aside0.mk hl0
 have HB := Aside0.mk (Below.refl W.heap.size W)
 clear h hc hl0
 go_enter Tryz.func14, Tryz.ntmps14
 go_wp2_with (first
  | (go_at_call 46; (with_reducible refine (holdBytes_calls G cg _ (HR.out.go HL0.out HB.out).bo.blk HR.out.nils).mono ?_); rintro e w2 ⟨rfl, hb⟩; have n0_ := Aside0.mk (HB.out.trans (hb.mono HB.out.size)); clear HB hb; have HB := n0_; clear n0_)
  | (go_at_call 47; (with_reducible refine (holdInts_calls G cg _ (HR.out.go HL0.out HB.out).bo.blk HR.out.nils).mono ?_); rintro e w2 ⟨rfl, hb⟩; have n0_ := Aside0.mk (HB.out.trans (hb.mono HB.out.size)); clear HB hb; have HB := n0_; clear n0_)
  | (go_at_call 48; (with_reducible refine (holdCells_calls G cg _ (HR.out.go HL0.out HB.out).bo.blk HR.out.nils).mono ?_); rintro e w2 ⟨rfl, hb⟩; have n0_ := Aside0.mk (HB.out.trans (hb.mono HB.out.size)); clear HB hb; have HB := n0_; clear n0_)
  | (go_at_call 49; (with_reducible refine (holdBools_calls G cg _ (HR.out.go HL0.out HB.out).bo.blk HR.out.nils).mono ?_); rintro e w2 ⟨rfl, hb⟩; have n0_ := Aside0.mk (HB.out.trans (hb.mono HB.out.size)); clear HB hb; have HB := n0_; clear n0_)
  | (go_at_call 50; (with_reducible refine (holdTexts_calls G cg _ (HR.out.go HL0.out HB.out).bo.blk HR.out.nils).mono ?_); rintro e w2 ⟨rfl, hb⟩; have n0_ := Aside0.mk (HB.out.trans (hb.mono HB.out.size)); clear HB hb; have HB := n0_; clear n0_)
  | (go_at_call 51; (with_reducible refine (holdValues_calls G cg _ (HR.out.go HL0.out HB.out).bo.blk HR.out.nils).mono ?_); rintro e w2 ⟨rfl, hb⟩; have n0_ := Aside0.mk (HB.out.trans (hb.mono HB.out.size)); clear HB hb; have HB := n0_; clear n0_)
  | (go_at_call 52; (with_reducible refine (holdBands_calls G cg _ (HR.out.go HL0.out HB.out).bo.blk HR.out.nils).mono ?_); rintro e w2 ⟨rfl, hb⟩; have n0_ := Aside0.mk (HB.out.trans (hb.mono HB.out.size)); clear HB hb; have HB := n0_; clear n0_)
  | (go_at_call 53; (with_reducible refine (holdT_calls (HR.out.go HL0.out HB.out) (HC.out.mv (Mv.of_below (t := 30) HB.out HL0.out) (by omega) (by omega)) hlo hlw).mono ?_); rintro e w2 ⟨rfl, hb⟩; have n0_ := Aside0.mk (HB.out.trans (hb.mono HB.out.size)); clear HB hb; have HB := n0_; clear n0_)
  | (go_at_call 54; (with_reducible refine (holdEntries_calls G cg _ (HR.out.go HL0.out HB.out).bo.blk HR.out.nils).mono ?_); rintro e w2 ⟨rfl, hb⟩; have n0_ := Aside0.mk (HB.out.trans (hb.mono HB.out.size)); clear HB hb; have HB := n0_; clear n0_)
  | (go_at_call 55; (with_reducible refine (holdChanges_calls G cg _ (HR.out.go HL0.out HB.out).bo.blk HR.out.nils).mono ?_); rintro e w2 ⟨rfl, hb⟩; have n0_ := Aside0.mk (HB.out.trans (hb.mono HB.out.size)); clear HB hb; have HB := n0_; clear n0_)
  | (go_at_call 56; (with_reducible refine (holdReads_calls G cg _ (HR.out.go HL0.out HB.out).bo.blk HR.out.nils).mono ?_); rintro e w2 ⟨rfl, hb⟩; have n0_ := Aside0.mk (HB.out.trans (hb.mono HB.out.size)); clear HB hb; have HB := n0_; clear n0_)
  | (go_at_call 57; (with_reducible refine (holdFindings_calls G cg _ (HR.out.go HL0.out HB.out).bo.blk HR.out.nils).mono ?_); rintro e w2 ⟨rfl, hb⟩; have n0_ := Aside0.mk (HB.out.trans (hb.mono HB.out.size)); clear HB hb; have HB := n0_; clear n0_)
  | (go_at_call 58; (with_reducible refine (holdConflicts_calls G cg _ (HR.out.go HL0.out HB.out).bo.blk HR.out.nils).mono ?_); rintro e w2 ⟨rfl, hb⟩; have n0_ := Aside0.mk (HB.out.trans (hb.mono HB.out.size)); clear HB hb; have HB := n0_; clear n0_)
  | (go_at_call 59; (with_reducible refine (holdPoints_calls G cg _ (HR.out.go HL0.out HB.out).bo.blk HR.out.nils).mono ?_); rintro e w2 ⟨rfl, hb⟩; have n0_ := Aside0.mk (HB.out.trans (hb.mono HB.out.size)); clear HB hb; have HB := n0_; clear n0_)
  | (go_at_call 60; (with_reducible refine (holdNodes_calls G cg _ (HR.out.go HL0.out HB.out).bo.blk HR.out.nils).mono ?_); rintro e w2 ⟨rfl, hb⟩; have n0_ := Aside0.mk (HB.out.trans (hb.mono HB.out.size)); clear HB hb; have HB := n0_; clear n0_)
  | (go_at_call 61; (with_reducible refine (holdRecords_calls G cg _ (HR.out.go HL0.out HB.out).bo.blk HR.out.nils).mono ?_); rintro e w2 ⟨rfl, hb⟩; have n0_ := Aside0.mk (HB.out.trans (hb.mono HB.out.size)); clear HB hb; have HB := n0_; clear n0_)
  | (go_at_call 62; (with_reducible refine (holdFiles_calls G cg _ (HR.out.go HL0.out HB.out).bo.blk HR.out.nils).mono ?_); rintro e w2 ⟨rfl, hb⟩; have n0_ := Aside0.mk (HB.out.trans (hb.mono HB.out.size)); clear HB hb; have HB := n0_; clear n0_)
  | (go_at_call 63; (with_reducible refine (holdExprs_calls G cg _ (HR.out.go HL0.out HB.out).bo.blk HR.out.nils).mono ?_); rintro e w2 ⟨rfl, hb⟩; have n0_ := Aside0.mk (HB.out.trans (hb.mono HB.out.size)); clear HB hb; have HB := n0_; clear n0_)
  | (go_at_call 64; (with_reducible refine (holdClauses_calls G cg _ (HR.out.go HL0.out HB.out).bo.blk HR.out.nils).mono ?_); rintro e w2 ⟨rfl, hb⟩; have n0_ := Aside0.mk (HB.out.trans (hb.mono HB.out.size)); clear HB hb; have HB := n0_; clear n0_)
  | (go_at_call 65; (with_reducible refine (holdLines_calls G cg _ (HR.out.go HL0.out HB.out).bo.blk HR.out.nils).mono ?_); rintro e w2 ⟨rfl, hb⟩; have n0_ := Aside0.mk (HB.out.trans (hb.mono HB.out.size)); clear HB hb; have HB := n0_; clear n0_)
  | (go_at_call 66; (with_reducible refine (holdChecks_calls G cg _ (HR.out.go HL0.out HB.out).bo.blk HR.out.nils).mono ?_); rintro e w2 ⟨rfl, hb⟩; have n0_ := Aside0.mk (HB.out.trans (hb.mono HB.out.size)); clear HB hb; have HB := n0_; clear n0_)
  | (go_at_call 67; (with_reducible refine (holdOptions_calls G cg _ (HR.out.go HL0.out HB.out).bo.blk HR.out.nils).mono ?_); rintro e w2 ⟨rfl, hb⟩; have n0_ := Aside0.mk (HB.out.trans (hb.mono HB.out.size)); clear HB hb; have HB := n0_; clear n0_)
  | (go_at_call 68; (with_reducible refine (holdTables_calls G cg _ (HR.out.go HL0.out HB.out).bo.blk HR.out.nils).mono ?_); rintro e w2 ⟨rfl, hb⟩; have n0_ := Aside0.mk (HB.out.trans (hb.mono HB.out.size)); clear HB hb; have HB := n0_; clear n0_)
  | (go_at_call 69; (with_reducible refine (holdGroups_calls G cg _ (HR.out.go HL0.out HB.out).bo.blk HR.out.nils).mono ?_); rintro e w2 ⟨rfl, hb⟩; have n0_ := Aside0.mk (HB.out.trans (hb.mono HB.out.size)); clear HB hb; have HB := n0_; clear n0_))
 refine bodyPost_ret (results_tmp rfl _ _ _) rfl ⟨rfl, HB.out⟩
end Go.Proofs.YtjlclkenfmbahaaGreatDoor.PA
