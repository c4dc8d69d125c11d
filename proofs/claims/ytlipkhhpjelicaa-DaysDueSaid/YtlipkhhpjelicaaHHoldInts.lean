/- The room's hold of ints, where the room has handed out one list, and the room's Hold. Condition: the marks stand behind the list, the other lists are empty. -/
import Derived.Test.YtlipkhhpjelicaaHHold
import Derived.Test.YtlipkhhpjelicaaHDue1
namespace Go.Proofs.Ytlipkhhpjelicaa.PA
open Go.RowKit Go.Proofs.YtlipkhhpjelicaaW.PrintWords Go.Proofs.YtlipkhhpjelicaaW.PrintLast Go.Proofs.YtlipkhhpjelicaaW.PrintMore
set_option linter.unusedVariables false
set_option linter.unusedSimpArgs false

/-- The k-th mark behind a list. -/
def markS (k : Nat) : Int := if k % 2 = 0 then -7701 else -7702

set_option maxRecDepth 100000 in
set_option maxHeartbeats 2000000 in
theorem holdInts_calls (G B2 F N c2 cap : Nat) (w : World) (hN : N < 17592186044416) (hG : w.cell? ⟨G, 1, none⟩ = some (.slice (some ⟨B2, 0, none⟩) 1 c2)) (hI : w.cell? ⟨B2, 0, none⟩ = some (.slice (some ⟨F, 0, none⟩) (N + 40) cap))
    (hF : ∀ k, k < 40 → w.cell? ⟨F, N + k, none⟩ = some (.int .i64 (markS k))) :
    Calls Try.prog 18 #[.pointer (some ⟨G, 0, none⟩)] w fun e w' => e = .returned (.bool true) ∧ Below w.heap.size w w' := by
  have hb := below_alloc (Below.refl w.heap.size w) (.cells #[.int .i64 (-7701), .int .i64 (-7702)] 3)
  have hG1 := (hb.cell (World.block_lt_of_cell? _ _ hG)).trans hG
  have hI1 := (hb.cell (World.block_lt_of_cell? _ _ hI)).trans hI
  have hF1 : ∀ k, k < 40 → (w.alloc (.cells #[.int .i64 (-7701), .int .i64 (-7702)] 3)).cell? ⟨F, N + k, none⟩ = some (.int .i64 (markS k)) := fun k hk => (hb.cell (World.block_lt_of_cell? _ _ (hF k hk))).trans (hF k hk)
  have bM := blk_new w (.cells #[.int .i64 (-7701), .int .i64 (-7702)] 3)
  obtain ⟨W1, hW1⟩ : ∃ W1, w.alloc (.cells #[.int .i64 (-7701), .int .i64 (-7702)] 3) = W1 := ⟨_, rfl⟩
  rw [hW1] at hb hG1 hI1 hF1 bM
  have cM0 := (blk_cell bM 0).trans rfl
  have cM1 := (blk_cell bM 1).trans rfl
  have HW := Aside0.mk hW1
  have HB := Aside0.mk hb
  have HF := Aside0.mk hF1
  clear hW1 hb hF1 hG hI hF bM
  go_enter Try.func18, Try.ntmps18
  go_wp2
  rw [HW.out]
  go_loopw [4] (fun v4 wr => ∃ i : Nat, i ≤ 1 ∧ v4 = .int .i64 i ∧ wr = W1) (fun v4 _ => 1 - (intOf v4).toNat)
  case atStart => exact ⟨0, by omega, rfl, rfl⟩
  case round =>
    obtain ⟨i, hi, rfl, rfl⟩ := hrel
    by_cases h1 : i = 0
    · subst h1
      go_wp2
      go_loopw [6] (fun v6 wr2 => ∃ k : Nat, k ≤ 40 ∧ v6 = .int .i64 k ∧ wr2 = wr) (fun v6 _ => 40 - (intOf v6).toNat)
      case atStart => exact ⟨0, by omega, rfl, rfl⟩
      case round =>
        obtain ⟨k, hk, rfl, rfl⟩ := hrel
        by_cases h40 : k < 40
        · have c40 : (k : Int) < 40 := by omega
          have cF := HF.out k h40
          have e1 : wrap64 ((N : Int) + 40 - 40) = (N : Int) := by rw [show (N : Int) + 40 - 40 = (N : Int) by omega]; exact Go.Proofs.Ytlipkhhpjelicaa.Days.wr (by omega) (by omega)
          have e2 : wrap64 ((N : Int) + (k : Int)) = (N : Int) + (k : Int) := Go.Proofs.Ytlipkhhpjelicaa.Days.wr (by omega) (by omega)
          have e3 : ((N : Int) + (k : Int)).toNat = N + k := by omega
          have e4 : wrap64 ((k : Int) + 1) = (k : Int) + 1 := Go.Proofs.Ytlipkhhpjelicaa.Days.wr (by omega) (by omega)
          have b1 : 0 ≤ (N : Int) + (k : Int) := by omega
          have b2 : (N : Int) + (k : Int) < (N : Int) + 40 := by omega
          by_cases hp : k % 2 = 0
          · have hm : Int.tmod (k : Int) 2 = 0 := by rw [Int.tmod_eq_emod_of_nonneg (by omega)]; omega
            have hs : markS k = -7701 := by unfold markS; rw [if_pos hp]
            rw [hs] at cF
            clear hs hp
            go_wp2
            exact ⟨⟨k + 1, by omega, congrArg (Value.int .i64) (by omega), trivial⟩, by simp [intOf]; omega⟩
          · have hm : Int.tmod (k : Int) 2 = 1 := by rw [Int.tmod_eq_emod_of_nonneg (by omega)]; omega
            have hs : markS k = -7702 := by unfold markS; rw [if_neg hp]
            rw [hs] at cF
            clear hs hp
            go_wp2
            exact ⟨⟨k + 1, by omega, congrArg (Value.int .i64) (by omega), trivial⟩, by simp [intOf]; omega⟩
        · obtain rfl : k = 40 := by omega
          go_wp2
          exact ⟨⟨1, by omega, rfl, trivial⟩, by simp [intOf]⟩
    · obtain rfl : i = 1 := by omega
      go_wp2
      refine bodyPost_ret (results_tmp rfl _ _ _) rfl ⟨rfl, HB.out⟩
-- HOLD BEGIN
set_option maxRecDepth 100000 in
set_option maxHeartbeats 4000000 in
theorem hold_calls (G B2 F N c2 cap : Nat) (w : World) (hN : N < 17592186044416) (hC : ∀ j, j < 21 → j ≠ 1 → w.cell? ⟨G, j, none⟩ = some (.slice none 0 0)) (hG : w.cell? ⟨G, 1, none⟩ = some (.slice (some ⟨B2, 0, none⟩) 1 c2)) (hI : w.cell? ⟨B2, 0, none⟩ = some (.slice (some ⟨F, 0, none⟩) (N + 40) cap))
    (hF : ∀ k, k < 40 → w.cell? ⟨F, N + k, none⟩ = some (.int .i64 (markS k))) :
    Calls Try.prog 13 #[.pointer (some ⟨G, 0, none⟩)] w fun e w' => e = .returned (.bool true) ∧ Below w.heap.size w w' := by
  have HL : Aside0 (G < w.heap.size) := ⟨World.block_lt_of_cell? _ _ hG⟩
  have HLI : Aside0 (B2 < w.heap.size) := ⟨World.block_lt_of_cell? _ _ hI⟩
  have HLF : Aside0 (∀ k, k < 40 → F < w.heap.size) := ⟨fun k hk => World.block_lt_of_cell? _ _ (hF k hk)⟩
  have HC := Aside0.mk hC
  have HG1 := Aside0.mk hG
  have HI := Aside0.mk hI
  have HF := Aside0.mk hF
  have HB := Aside0.mk (Below.refl w.heap.size w)
  clear hC hG hI hF
  go_enter Try.func13, Try.ntmps13
  go_wp2_with (first
    | (go_at_call 17; (with_reducible refine (holdBytes_calls G _ ((HB.out.cell HL.out).trans (HC.out 0 (by decide) (by decide)))).mono ?_); rintro e w2 ⟨rfl, hb⟩; have n0_ := Aside0.mk (HB.out.trans (hb.mono HB.out.size)); clear HB hb; have HB := n0_; clear n0_)
    | (go_at_call 18; (with_reducible refine (holdInts_calls G B2 F N c2 cap _ hN ((HB.out.cell HL.out).trans HG1.out) ((HB.out.cell HLI.out).trans HI.out) (fun k hk => (HB.out.cell (HLF.out k hk)).trans (HF.out k hk))).mono ?_); rintro e w2 ⟨rfl, hb⟩; have n0_ := Aside0.mk (HB.out.trans (hb.mono HB.out.size)); clear HB hb; have HB := n0_; clear n0_)
    | (go_at_call 19; (with_reducible refine (holdCells_calls G _ ((HB.out.cell HL.out).trans (HC.out 2 (by decide) (by decide)))).mono ?_); rintro e w2 ⟨rfl, hb⟩; have n0_ := Aside0.mk (HB.out.trans (hb.mono HB.out.size)); clear HB hb; have HB := n0_; clear n0_)
    | (go_at_call 20; (with_reducible refine (holdBools_calls G _ ((HB.out.cell HL.out).trans (HC.out 3 (by decide) (by decide)))).mono ?_); rintro e w2 ⟨rfl, hb⟩; have n0_ := Aside0.mk (HB.out.trans (hb.mono HB.out.size)); clear HB hb; have HB := n0_; clear n0_)
    | (go_at_call 21; (with_reducible refine (holdTexts_calls G _ ((HB.out.cell HL.out).trans (HC.out 4 (by decide) (by decide)))).mono ?_); rintro e w2 ⟨rfl, hb⟩; have n0_ := Aside0.mk (HB.out.trans (hb.mono HB.out.size)); clear HB hb; have HB := n0_; clear n0_)
    | (go_at_call 22; (with_reducible refine (holdValues_calls G _ ((HB.out.cell HL.out).trans (HC.out 5 (by decide) (by decide)))).mono ?_); rintro e w2 ⟨rfl, hb⟩; have n0_ := Aside0.mk (HB.out.trans (hb.mono HB.out.size)); clear HB hb; have HB := n0_; clear n0_)
    | (go_at_call 23; (with_reducible refine (holdBands_calls G _ ((HB.out.cell HL.out).trans (HC.out 6 (by decide) (by decide)))).mono ?_); rintro e w2 ⟨rfl, hb⟩; have n0_ := Aside0.mk (HB.out.trans (hb.mono HB.out.size)); clear HB hb; have HB := n0_; clear n0_)
    | (go_at_call 24; (with_reducible refine (holdTokens_calls G _ ((HB.out.cell HL.out).trans (HC.out 7 (by decide) (by decide)))).mono ?_); rintro e w2 ⟨rfl, hb⟩; have n0_ := Aside0.mk (HB.out.trans (hb.mono HB.out.size)); clear HB hb; have HB := n0_; clear n0_)
    | (go_at_call 25; (with_reducible refine (holdReads_calls G _ ((HB.out.cell HL.out).trans (HC.out 8 (by decide) (by decide)))).mono ?_); rintro e w2 ⟨rfl, hb⟩; have n0_ := Aside0.mk (HB.out.trans (hb.mono HB.out.size)); clear HB hb; have HB := n0_; clear n0_)
    | (go_at_call 26; (with_reducible refine (holdConflicts_calls G _ ((HB.out.cell HL.out).trans (HC.out 9 (by decide) (by decide)))).mono ?_); rintro e w2 ⟨rfl, hb⟩; have n0_ := Aside0.mk (HB.out.trans (hb.mono HB.out.size)); clear HB hb; have HB := n0_; clear n0_)
    | (go_at_call 27; (with_reducible refine (holdPoints_calls G _ ((HB.out.cell HL.out).trans (HC.out 10 (by decide) (by decide)))).mono ?_); rintro e w2 ⟨rfl, hb⟩; have n0_ := Aside0.mk (HB.out.trans (hb.mono HB.out.size)); clear HB hb; have HB := n0_; clear n0_)
    | (go_at_call 28; (with_reducible refine (holdNodes_calls G _ ((HB.out.cell HL.out).trans (HC.out 11 (by decide) (by decide)))).mono ?_); rintro e w2 ⟨rfl, hb⟩; have n0_ := Aside0.mk (HB.out.trans (hb.mono HB.out.size)); clear HB hb; have HB := n0_; clear n0_)
    | (go_at_call 29; (with_reducible refine (holdRecords_calls G _ ((HB.out.cell HL.out).trans (HC.out 12 (by decide) (by decide)))).mono ?_); rintro e w2 ⟨rfl, hb⟩; have n0_ := Aside0.mk (HB.out.trans (hb.mono HB.out.size)); clear HB hb; have HB := n0_; clear n0_)
    | (go_at_call 30; (with_reducible refine (holdFiles_calls G _ ((HB.out.cell HL.out).trans (HC.out 13 (by decide) (by decide)))).mono ?_); rintro e w2 ⟨rfl, hb⟩; have n0_ := Aside0.mk (HB.out.trans (hb.mono HB.out.size)); clear HB hb; have HB := n0_; clear n0_)
    | (go_at_call 31; (with_reducible refine (holdExprs_calls G _ ((HB.out.cell HL.out).trans (HC.out 14 (by decide) (by decide)))).mono ?_); rintro e w2 ⟨rfl, hb⟩; have n0_ := Aside0.mk (HB.out.trans (hb.mono HB.out.size)); clear HB hb; have HB := n0_; clear n0_)
    | (go_at_call 32; (with_reducible refine (holdClauses_calls G _ ((HB.out.cell HL.out).trans (HC.out 15 (by decide) (by decide)))).mono ?_); rintro e w2 ⟨rfl, hb⟩; have n0_ := Aside0.mk (HB.out.trans (hb.mono HB.out.size)); clear HB hb; have HB := n0_; clear n0_)
    | (go_at_call 33; (with_reducible refine (holdLines_calls G _ ((HB.out.cell HL.out).trans (HC.out 16 (by decide) (by decide)))).mono ?_); rintro e w2 ⟨rfl, hb⟩; have n0_ := Aside0.mk (HB.out.trans (hb.mono HB.out.size)); clear HB hb; have HB := n0_; clear n0_)
    | (go_at_call 34; (with_reducible refine (holdChecks_calls G _ ((HB.out.cell HL.out).trans (HC.out 17 (by decide) (by decide)))).mono ?_); rintro e w2 ⟨rfl, hb⟩; have n0_ := Aside0.mk (HB.out.trans (hb.mono HB.out.size)); clear HB hb; have HB := n0_; clear n0_)
    | (go_at_call 35; (with_reducible refine (holdOptions_calls G _ ((HB.out.cell HL.out).trans (HC.out 18 (by decide) (by decide)))).mono ?_); rintro e w2 ⟨rfl, hb⟩; have n0_ := Aside0.mk (HB.out.trans (hb.mono HB.out.size)); clear HB hb; have HB := n0_; clear n0_)
    | (go_at_call 36; (with_reducible refine (holdTables_calls G _ ((HB.out.cell HL.out).trans (HC.out 19 (by decide) (by decide)))).mono ?_); rintro e w2 ⟨rfl, hb⟩; have n0_ := Aside0.mk (HB.out.trans (hb.mono HB.out.size)); clear HB hb; have HB := n0_; clear n0_)
    | (go_at_call 37; (with_reducible refine (holdGroups_calls G _ ((HB.out.cell HL.out).trans (HC.out 20 (by decide) (by decide)))).mono ?_); rintro e w2 ⟨rfl, hb⟩; have n0_ := Aside0.mk (HB.out.trans (hb.mono HB.out.size)); clear HB hb; have HB := n0_; clear n0_))
  refine bodyPost_ret (results_tmp rfl _ _ _) rfl ⟨rfl, HB.out⟩
end Go.Proofs.Ytlipkhhpjelicaa.PA
