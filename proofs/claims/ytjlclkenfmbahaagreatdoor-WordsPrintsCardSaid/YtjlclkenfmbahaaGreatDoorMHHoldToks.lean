/- The room's hold of tokens, where the room has handed out one list, and the room's Hold. Condition: the marks stand behind the list, the other lists are empty. -/
import Derived.Test.YtjlclkenfmbahaaGreatDoorMHHoldT
import Derived.Test.YtjlclkenfmbahaaGreatDoorMC
import Derived.Test.YtjlclkenfmbahaaGreatDoorMPAx0
import Derived.Test.YtjlclkenfmbahaaGreatDoorML
namespace Go.Proofs.YtjlclkenfmbahaaGreatDoor.PA
open Go.RowKit Go.Proofs.YtjlclkenfmbahaaGreatDoorW.PrintWords Go.Proofs.YtjlclkenfmbahaaGreatDoorW.PrintLast Go.Proofs.YtjlclkenfmbahaaGreatDoorW.PrintMore
attribute [local go_sem high] eqA57
set_option linter.unusedVariables false
set_option linter.unusedSimpArgs false
def markS (k : Nat) : Int := if k % 2 = 0 then -7701 else -7702
structure TokAt (w : World) (F q : Nat) (n : Int) : Prop where
 c0 : w.cell? ⟨F, q, none⟩ = some (.int .i64 n)
 c1 : w.cell? ⟨F, q + 1, none⟩ = some (.int .i64 0)
 c2 : w.cell? ⟨F, q + 2, none⟩ = some (.string ⟨#[]⟩)
 c3 : w.cell? ⟨F, q + 3, none⟩ = some (.int .i64 0)
 c4 : w.cell? ⟨F, q + 4, none⟩ = some (.int .i64 0)
theorem TokAt.below {B : Nat} {w w' : World} {F q : Nat} {n : Int} (h : TokAt w F q n) (hb : Below B w w') (hF : F < B) : TokAt w' F q n :=
 ⟨(hb.cell hF).trans h.c0, (hb.cell hF).trans h.c1, (hb.cell hF).trans h.c2, (hb.cell hF).trans h.c3, (hb.cell hF).trans h.c4⟩
abbrev marksO : Obj := .cells #[.int .i64 (-7701), .int .i64 0, .string ⟨#[]⟩, .int .i64 0, .int .i64 0, .int .i64 (-7702), .int .i64 0, .string ⟨#[]⟩, .int .i64 0, .int .i64 0] 57
set_option maxRecDepth 100000 in
set_option maxHeartbeats 4000000 in
theorem holdTokens_calls (G B2 F N c2 cap : Nat) (w : World) (hN : N < 1000000) (hG : w.cell? ⟨G, 7, none⟩ = some (.slice (some ⟨B2, 0, none⟩) 1 c2)) (hI : w.cell? ⟨B2, 0, none⟩ = some (.slice (some ⟨F, 0, none⟩) (N + 40) cap))
  (hF : ∀ k, k < 40 → TokAt w F ((N + k) * 5) (markS k)) :
  Calls Tryz.prog 28 #[.pointer (some ⟨G, 0, none⟩)] w fun e w' => e = .returned (.bool true) ∧ Below w.heap.size w w' := by
 have hb := below_alloc (Below.refl w.heap.size w) marksO
 have hG1 := (hb.cell (World.block_lt_of_cell? _ _ hG)).trans hG
 have hI1 := (hb.cell (World.block_lt_of_cell? _ _ hI)).trans hI
 have hF1 : ∀ k, k < 40 → TokAt (w.alloc marksO) F ((N + k) * 5) (markS k) := fun k hk => (hF k hk).below hb (World.block_lt_of_cell? _ _ (hF k hk).c0)
 have bM := blk_new w marksO
 obtain ⟨W1, hW1⟩ : ∃ W1, w.alloc marksO = W1 := ⟨_, rfl⟩
 rw [hW1] at hb hG1 hI1 hF1 bM
 have HW := Aside0.mk hW1
 have HB := Aside0.mk hb
 have HF := Aside0.mk hF1
 have HG := Aside0.mk hG1
 have HI := Aside0.mk hI1
 have HM := Aside0.mk bM
 have lG := World.block_lt_of_cell? _ _ hG1
 have lI := World.block_lt_of_cell? _ _ hI1
 have lM : w.heap.size < W1.heap.size := blk_lt bM
 clear hW1 hb hF1 hG hI hF hG1 hI1 bM
 go_enter Tryz.func28, Tryz.ntmps28
 go_wp2
 rw [HW.out]
 go_loopw [4] (fun v4 wr => ∃ i : Nat, i ≤ 1 ∧ v4 = .int .i64 i ∧ Hid (Below W1.heap.size W1 wr)) (fun v4 _ => 1 - (intOf v4).toNat)
 case atStart => exact ⟨0, by omega, rfl, Below.refl _ _⟩
 case round =>
  obtain ⟨i, hi, rfl, hbr⟩ := hrel
  have hG2 := (hbr.out.cell lG).trans HG.out
  by_cases h1 : i = 0
  ·subst h1
   have hI2 := (hbr.out.cell lI).trans HI.out
   go_wp2
   go_loopw [6] (fun v6 wr2 => ∃ k : Nat, k ≤ 40 ∧ v6 = .int .i64 k ∧ Hid (Below W1.heap.size W1 wr2)) (fun v6 _ => 40 - (intOf v6).toNat)
   case atStart => exact ⟨0, by omega, rfl, hbr⟩
   case round =>
    clear hG2 hI2 hbr
    obtain ⟨k, hk, rfl, hbr⟩ := hrel
    have hG2 := (hbr.out.cell lG).trans HG.out
    have hI2 := (hbr.out.cell lI).trans HI.out
    by_cases h40 : k < 40
    ·have c40 : (k : Int) < 40 := by omega
     obtain ⟨x0, x1, x2, x3, x4⟩ := (HF.out k h40).below hbr.out (World.block_lt_of_cell? _ _ (HF.out k h40).c0)
     have hbm := (hbr.out.block _ lM).trans HM.out
     have m0 := (blk_cell hbm 0).trans rfl
     have m1 := (blk_cell hbm 1).trans rfl
     have m2 := (blk_cell hbm 2).trans rfl
     have m3 := (blk_cell hbm 3).trans rfl
     have m4 := (blk_cell hbm 4).trans rfl
     have m5 := (blk_cell hbm 5).trans rfl
     have m6 := (blk_cell hbm 6).trans rfl
     have m7 := (blk_cell hbm 7).trans rfl
     have m8 := (blk_cell hbm 8).trans rfl
     have m9 := (blk_cell hbm 9).trans rfl
     have ma0 : ∀ o, (wr.alloc o).cell? _ = _ := fun o => ((below_alloc (Below.refl wr.heap.size wr) o).cell (World.block_lt_of_cell? _ _ m0)).trans m0
     have ma1 : ∀ o, (wr.alloc o).cell? _ = _ := fun o => ((below_alloc (Below.refl wr.heap.size wr) o).cell (World.block_lt_of_cell? _ _ m1)).trans m1
     have ma2 : ∀ o, (wr.alloc o).cell? _ = _ := fun o => ((below_alloc (Below.refl wr.heap.size wr) o).cell (World.block_lt_of_cell? _ _ m2)).trans m2
     have ma3 : ∀ o, (wr.alloc o).cell? _ = _ := fun o => ((below_alloc (Below.refl wr.heap.size wr) o).cell (World.block_lt_of_cell? _ _ m3)).trans m3
     have ma4 : ∀ o, (wr.alloc o).cell? _ = _ := fun o => ((below_alloc (Below.refl wr.heap.size wr) o).cell (World.block_lt_of_cell? _ _ m4)).trans m4
     have ma5 : ∀ o, (wr.alloc o).cell? _ = _ := fun o => ((below_alloc (Below.refl wr.heap.size wr) o).cell (World.block_lt_of_cell? _ _ m5)).trans m5
     have ma6 : ∀ o, (wr.alloc o).cell? _ = _ := fun o => ((below_alloc (Below.refl wr.heap.size wr) o).cell (World.block_lt_of_cell? _ _ m6)).trans m6
     have ma7 : ∀ o, (wr.alloc o).cell? _ = _ := fun o => ((below_alloc (Below.refl wr.heap.size wr) o).cell (World.block_lt_of_cell? _ _ m7)).trans m7
     have ma8 : ∀ o, (wr.alloc o).cell? _ = _ := fun o => ((below_alloc (Below.refl wr.heap.size wr) o).cell (World.block_lt_of_cell? _ _ m8)).trans m8
     have ma9 : ∀ o, (wr.alloc o).cell? _ = _ := fun o => ((below_alloc (Below.refl wr.heap.size wr) o).cell (World.block_lt_of_cell? _ _ m9)).trans m9
     clear hbm
     have e1 : wrap64 ((N : Int) + 40 - 40) = (N : Int) := by rw [show (N : Int) + 40 - 40 = (N : Int) by omega]; exact Go.Proofs.YtjlclkenfmbahaaGreatDoor.Days.wr (by omega) (by omega)
     have e2 : wrap64 ((N : Int) + (k : Int)) = (N : Int) + (k : Int) := Go.Proofs.YtjlclkenfmbahaaGreatDoor.Days.wr (by omega) (by omega)
     have e3 : ((N : Int) + (k : Int)).toNat = N + k := by omega
     have e4 : wrap64 ((k : Int) + 1) = (k : Int) + 1 := Go.Proofs.YtjlclkenfmbahaaGreatDoor.Days.wr (by omega) (by omega)
     have b1 : 0 ≤ (N : Int) + (k : Int) := by omega
     have b2 : (N : Int) + (k : Int) < (N : Int) + 40 := by omega
     by_cases hp : k % 2 = 0
     ·have hm : Int.tmod (k : Int) 2 = 0 := by rw [Int.tmod_eq_emod_of_nonneg (by omega)]; omega
      have hs : markS k = -7701 := by unfold markS; rw [if_pos hp]
      rw [hs] at x0
      clear hs hp
      go_wp2
      exact ⟨⟨k + 1, by omega, congrArg (Value.int .i64) (by omega), (hbr.out.trans (Below.mono (below_alloc (below_alloc (Below.refl _ _) _) _) hbr.out.size))⟩, by simp [intOf]; omega⟩
     ·have hm : Int.tmod (k : Int) 2 = 1 := by rw [Int.tmod_eq_emod_of_nonneg (by omega)]; omega
      have hs : markS k = -7702 := by unfold markS; rw [if_neg hp]
      rw [hs] at x0
      clear hs hp
      go_wp2
      exact ⟨⟨k + 1, by omega, congrArg (Value.int .i64) (by omega), (hbr.out.trans (Below.mono (below_alloc (below_alloc (Below.refl _ _) _) _) hbr.out.size))⟩, by simp [intOf]; omega⟩
    ·obtain rfl : k = 40 := by omega
     go_wp2
     exact ⟨⟨1, by omega, rfl, hbr⟩, by simp [intOf]⟩
  ·obtain rfl : i = 1 := by omega
   go_wp2
   refine bodyPost_ret (results_tmp rfl _ _ _) rfl ⟨rfl, HB.out.trans (hbr.out.mono HB.out.size)⟩
set_option maxRecDepth 100000 in
set_option maxHeartbeats 4000000 in
theorem hold_calls (G B2 F N c2 cap : Nat) (w : World) (hN : N < 1000000) (hC : ∀ j, j < 21 → j ≠ 7 → w.cell? ⟨G, j, none⟩ = some (.slice none 0 0)) (hG : w.cell? ⟨G, 7, none⟩ = some (.slice (some ⟨B2, 0, none⟩) 1 c2)) (hI : w.cell? ⟨B2, 0, none⟩ = some (.slice (some ⟨F, 0, none⟩) (N + 40) cap))
  (hF : ∀ k, k < 40 → TokAt w F ((N + k) * 5) (markS k)) :
  Calls Tryz.prog 10 #[.pointer (some ⟨G, 0, none⟩)] w fun e w' => e = .returned (.bool true) ∧ Below w.heap.size w w' := by
 have HL : Aside0 (G < w.heap.size) := ⟨World.block_lt_of_cell? _ _ hG⟩
 have HLI : Aside0 (B2 < w.heap.size) := ⟨World.block_lt_of_cell? _ _ hI⟩
 have HLF : Aside0 (∀ k, k < 40 → F < w.heap.size) := ⟨fun k hk => World.block_lt_of_cell? _ _ (hF k hk).c0⟩
 have HC := Aside0.mk hC
 have HG1 := Aside0.mk hG
 have HI := Aside0.mk hI
 have HF := Aside0.mk hF
 have HB := Aside0.mk (Below.refl w.heap.size w)
 clear hC hG hI hF
 go_enter Tryz.func10, Tryz.ntmps10
 go_wp2_with (first
  | (go_at_call 21; (with_reducible refine (holdBytes_calls G _ ((HB.out.cell HL.out).trans (HC.out 0 (by decide) (by decide)))).mono ?_); rintro e w2 ⟨rfl, hb⟩; have n0_ := Aside0.mk (HB.out.trans (hb.mono HB.out.size)); clear HB hb; have HB := n0_; clear n0_)
  | (go_at_call 22; (with_reducible refine (holdInts_calls G _ ((HB.out.cell HL.out).trans (HC.out 1 (by decide) (by decide)))).mono ?_); rintro e w2 ⟨rfl, hb⟩; have n0_ := Aside0.mk (HB.out.trans (hb.mono HB.out.size)); clear HB hb; have HB := n0_; clear n0_)
  | (go_at_call 23; (with_reducible refine (holdCells_calls G _ ((HB.out.cell HL.out).trans (HC.out 2 (by decide) (by decide)))).mono ?_); rintro e w2 ⟨rfl, hb⟩; have n0_ := Aside0.mk (HB.out.trans (hb.mono HB.out.size)); clear HB hb; have HB := n0_; clear n0_)
  | (go_at_call 24; (with_reducible refine (holdBools_calls G _ ((HB.out.cell HL.out).trans (HC.out 3 (by decide) (by decide)))).mono ?_); rintro e w2 ⟨rfl, hb⟩; have n0_ := Aside0.mk (HB.out.trans (hb.mono HB.out.size)); clear HB hb; have HB := n0_; clear n0_)
  | (go_at_call 25; (with_reducible refine (holdTexts_calls G _ ((HB.out.cell HL.out).trans (HC.out 4 (by decide) (by decide)))).mono ?_); rintro e w2 ⟨rfl, hb⟩; have n0_ := Aside0.mk (HB.out.trans (hb.mono HB.out.size)); clear HB hb; have HB := n0_; clear n0_)
  | (go_at_call 26; (with_reducible refine (holdValues_calls G _ ((HB.out.cell HL.out).trans (HC.out 5 (by decide) (by decide)))).mono ?_); rintro e w2 ⟨rfl, hb⟩; have n0_ := Aside0.mk (HB.out.trans (hb.mono HB.out.size)); clear HB hb; have HB := n0_; clear n0_)
  | (go_at_call 27; (with_reducible refine (holdBands_calls G _ ((HB.out.cell HL.out).trans (HC.out 6 (by decide) (by decide)))).mono ?_); rintro e w2 ⟨rfl, hb⟩; have n0_ := Aside0.mk (HB.out.trans (hb.mono HB.out.size)); clear HB hb; have HB := n0_; clear n0_)
  | (go_at_call 28; (with_reducible refine (holdTokens_calls G B2 F N c2 cap _ hN ((HB.out.cell HL.out).trans HG1.out) ((HB.out.cell HLI.out).trans HI.out) (fun k hk => (HF.out k hk).below HB.out (HLF.out k hk))).mono ?_); rintro e w2 ⟨rfl, hb⟩; have n0_ := Aside0.mk (HB.out.trans (hb.mono HB.out.size)); clear HB hb; have HB := n0_; clear n0_)
  | (go_at_call 29; (with_reducible refine (holdReads_calls G _ ((HB.out.cell HL.out).trans (HC.out 8 (by decide) (by decide)))).mono ?_); rintro e w2 ⟨rfl, hb⟩; have n0_ := Aside0.mk (HB.out.trans (hb.mono HB.out.size)); clear HB hb; have HB := n0_; clear n0_)
  | (go_at_call 30; (with_reducible refine (holdConflicts_calls G _ ((HB.out.cell HL.out).trans (HC.out 9 (by decide) (by decide)))).mono ?_); rintro e w2 ⟨rfl, hb⟩; have n0_ := Aside0.mk (HB.out.trans (hb.mono HB.out.size)); clear HB hb; have HB := n0_; clear n0_)
  | (go_at_call 31; (with_reducible refine (holdPoints_calls G _ ((HB.out.cell HL.out).trans (HC.out 10 (by decide) (by decide)))).mono ?_); rintro e w2 ⟨rfl, hb⟩; have n0_ := Aside0.mk (HB.out.trans (hb.mono HB.out.size)); clear HB hb; have HB := n0_; clear n0_)
  | (go_at_call 32; (with_reducible refine (holdNodes_calls G _ ((HB.out.cell HL.out).trans (HC.out 11 (by decide) (by decide)))).mono ?_); rintro e w2 ⟨rfl, hb⟩; have n0_ := Aside0.mk (HB.out.trans (hb.mono HB.out.size)); clear HB hb; have HB := n0_; clear n0_)
  | (go_at_call 33; (with_reducible refine (holdRecords_calls G _ ((HB.out.cell HL.out).trans (HC.out 12 (by decide) (by decide)))).mono ?_); rintro e w2 ⟨rfl, hb⟩; have n0_ := Aside0.mk (HB.out.trans (hb.mono HB.out.size)); clear HB hb; have HB := n0_; clear n0_)
  | (go_at_call 34; (with_reducible refine (holdFiles_calls G _ ((HB.out.cell HL.out).trans (HC.out 13 (by decide) (by decide)))).mono ?_); rintro e w2 ⟨rfl, hb⟩; have n0_ := Aside0.mk (HB.out.trans (hb.mono HB.out.size)); clear HB hb; have HB := n0_; clear n0_)
  | (go_at_call 35; (with_reducible refine (holdExprs_calls G _ ((HB.out.cell HL.out).trans (HC.out 14 (by decide) (by decide)))).mono ?_); rintro e w2 ⟨rfl, hb⟩; have n0_ := Aside0.mk (HB.out.trans (hb.mono HB.out.size)); clear HB hb; have HB := n0_; clear n0_)
  | (go_at_call 36; (with_reducible refine (holdClauses_calls G _ ((HB.out.cell HL.out).trans (HC.out 15 (by decide) (by decide)))).mono ?_); rintro e w2 ⟨rfl, hb⟩; have n0_ := Aside0.mk (HB.out.trans (hb.mono HB.out.size)); clear HB hb; have HB := n0_; clear n0_)
  | (go_at_call 37; (with_reducible refine (holdLines_calls G _ ((HB.out.cell HL.out).trans (HC.out 16 (by decide) (by decide)))).mono ?_); rintro e w2 ⟨rfl, hb⟩; have n0_ := Aside0.mk (HB.out.trans (hb.mono HB.out.size)); clear HB hb; have HB := n0_; clear n0_)
  | (go_at_call 38; (with_reducible refine (holdChecks_calls G _ ((HB.out.cell HL.out).trans (HC.out 17 (by decide) (by decide)))).mono ?_); rintro e w2 ⟨rfl, hb⟩; have n0_ := Aside0.mk (HB.out.trans (hb.mono HB.out.size)); clear HB hb; have HB := n0_; clear n0_)
  | (go_at_call 39; (with_reducible refine (holdOptions_calls G _ ((HB.out.cell HL.out).trans (HC.out 18 (by decide) (by decide)))).mono ?_); rintro e w2 ⟨rfl, hb⟩; have n0_ := Aside0.mk (HB.out.trans (hb.mono HB.out.size)); clear HB hb; have HB := n0_; clear n0_)
  | (go_at_call 40; (with_reducible refine (holdTables_calls G _ ((HB.out.cell HL.out).trans (HC.out 19 (by decide) (by decide)))).mono ?_); rintro e w2 ⟨rfl, hb⟩; have n0_ := Aside0.mk (HB.out.trans (hb.mono HB.out.size)); clear HB hb; have HB := n0_; clear n0_)
  | (go_at_call 41; (with_reducible refine (holdGroups_calls G _ ((HB.out.cell HL.out).trans (HC.out 20 (by decide) (by decide)))).mono ?_); rintro e w2 ⟨rfl, hb⟩; have n0_ := Aside0.mk (HB.out.trans (hb.mono HB.out.size)); clear HB hb; have HB := n0_; clear n0_))
 refine bodyPost_ret (results_tmp rfl _ _ _) rfl ⟨rfl, HB.out⟩
end Go.Proofs.YtjlclkenfmbahaaGreatDoor.PA
