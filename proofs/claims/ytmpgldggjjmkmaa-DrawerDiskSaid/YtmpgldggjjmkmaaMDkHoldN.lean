/- (with tokens) The room's hold functions, where every list of the room is empty: each says true. Condition: the room's cell of that list holds nil. -/
import Derived.Test.YtmpgldggjjmkmaaML
import Derived.WalkKit
namespace Go.Proofs.Ytmpgldggjjmkmaa.PA
open Go.RowKit Go.Proofs.YtmpgldggjjmkmaaW.PrintWords Go.Proofs.YtmpgldggjjmkmaaW.PrintLast Go.Proofs.YtmpgldggjjmkmaaW.PrintMore
set_option linter.unusedVariables false
set_option linter.unusedSimpArgs false
set_option maxRecDepth 100000
set_option maxHeartbeats 2000000
theorem hall_nil {G j : Nat} {w : World} (hG : w.cell? ⟨G, j, none⟩ = some (.slice none 0 0)) : ∀ o, (w.alloc o).cell? ⟨G, j, none⟩ = some (.slice none 0 0) :=
  fun o => ((below_alloc (Below.refl w.heap.size w) o).cell (World.block_lt_of_cell? _ _ hG)).trans hG
theorem holdBytes_calls (G : Nat) (w : World) (hG : w.cell? ⟨G, 0, none⟩ = some (.slice none 0 0)) :
    Calls Try.prog 41 #[.pointer (some ⟨G, 0, none⟩)] w fun e w' => e = .returned (.bool true) ∧ Below w.heap.size w w' := by
  have hall := hall_nil hG
  clear hG
  go_enter Try.func41, Try.ntmps41
  go_wp2
  refine wp_loop_rounds 1 ?_
  rw [rounds_succ]
  go_wp2
  refine bodyPost_ret (results_tmp rfl _ _ _) rfl ⟨rfl, ?_⟩
  repeat (first | exact Below.refl _ _ | apply below_alloc | apply pw_below_drewN | apply below_drew1)
theorem holdInts_calls (G : Nat) (w : World) (hG : w.cell? ⟨G, 1, none⟩ = some (.slice none 0 0)) :
    Calls Try.prog 42 #[.pointer (some ⟨G, 0, none⟩)] w fun e w' => e = .returned (.bool true) ∧ Below w.heap.size w w' := by
  have hall := hall_nil hG
  clear hG
  go_enter Try.func42, Try.ntmps42
  go_wp2
  refine wp_loop_rounds 1 ?_
  rw [rounds_succ]
  go_wp2
  refine bodyPost_ret (results_tmp rfl _ _ _) rfl ⟨rfl, ?_⟩
  repeat (first | exact Below.refl _ _ | apply below_alloc | apply pw_below_drewN | apply below_drew1)
theorem holdCells_calls (G : Nat) (w : World) (hG : w.cell? ⟨G, 2, none⟩ = some (.slice none 0 0)) :
    Calls Try.prog 43 #[.pointer (some ⟨G, 0, none⟩)] w fun e w' => e = .returned (.bool true) ∧ Below w.heap.size w w' := by
  have hall := hall_nil hG
  clear hG
  go_enter Try.func43, Try.ntmps43
  go_wp2
  refine wp_loop_rounds 1 ?_
  rw [rounds_succ]
  go_wp2
  refine bodyPost_ret (results_tmp rfl _ _ _) rfl ⟨rfl, ?_⟩
  repeat (first | exact Below.refl _ _ | apply below_alloc | apply pw_below_drewN | apply below_drew1)
theorem holdBools_calls (G : Nat) (w : World) (hG : w.cell? ⟨G, 3, none⟩ = some (.slice none 0 0)) :
    Calls Try.prog 44 #[.pointer (some ⟨G, 0, none⟩)] w fun e w' => e = .returned (.bool true) ∧ Below w.heap.size w w' := by
  have hall := hall_nil hG
  clear hG
  go_enter Try.func44, Try.ntmps44
  go_wp2
  refine wp_loop_rounds 1 ?_
  rw [rounds_succ]
  go_wp2
  refine bodyPost_ret (results_tmp rfl _ _ _) rfl ⟨rfl, ?_⟩
  repeat (first | exact Below.refl _ _ | apply below_alloc | apply pw_below_drewN | apply below_drew1)
theorem holdTexts_calls (G : Nat) (w : World) (hG : w.cell? ⟨G, 4, none⟩ = some (.slice none 0 0)) :
    Calls Try.prog 45 #[.pointer (some ⟨G, 0, none⟩)] w fun e w' => e = .returned (.bool true) ∧ Below w.heap.size w w' := by
  have hall := hall_nil hG
  clear hG
  go_enter Try.func45, Try.ntmps45
  go_wp2
  refine wp_loop_rounds 1 ?_
  rw [rounds_succ]
  go_wp2
  refine bodyPost_ret (results_tmp rfl _ _ _) rfl ⟨rfl, ?_⟩
  repeat (first | exact Below.refl _ _ | apply below_alloc | apply pw_below_drewN | apply below_drew1)
theorem holdValues_calls (G : Nat) (w : World) (hG : w.cell? ⟨G, 5, none⟩ = some (.slice none 0 0)) :
    Calls Try.prog 46 #[.pointer (some ⟨G, 0, none⟩)] w fun e w' => e = .returned (.bool true) ∧ Below w.heap.size w w' := by
  have hall := hall_nil hG
  clear hG
  go_enter Try.func46, Try.ntmps46
  go_wp2
  refine wp_loop_rounds 1 ?_
  rw [rounds_succ]
  go_wp2
  refine bodyPost_ret (results_tmp rfl _ _ _) rfl ⟨rfl, ?_⟩
  repeat (first | exact Below.refl _ _ | apply below_alloc | apply pw_below_drewN | apply below_drew1)
theorem holdBands_calls (G : Nat) (w : World) (hG : w.cell? ⟨G, 6, none⟩ = some (.slice none 0 0)) :
    Calls Try.prog 47 #[.pointer (some ⟨G, 0, none⟩)] w fun e w' => e = .returned (.bool true) ∧ Below w.heap.size w w' := by
  have hall := hall_nil hG
  clear hG
  go_enter Try.func47, Try.ntmps47
  go_wp2
  refine wp_loop_rounds 1 ?_
  rw [rounds_succ]
  go_wp2
  refine bodyPost_ret (results_tmp rfl _ _ _) rfl ⟨rfl, ?_⟩
  repeat (first | exact Below.refl _ _ | apply below_alloc | apply pw_below_drewN | apply below_drew1)
theorem holdReads_calls (G : Nat) (w : World) (hG : w.cell? ⟨G, 8, none⟩ = some (.slice none 0 0)) :
    Calls Try.prog 49 #[.pointer (some ⟨G, 0, none⟩)] w fun e w' => e = .returned (.bool true) ∧ Below w.heap.size w w' := by
  have hall := hall_nil hG
  clear hG
  go_enter Try.func49, Try.ntmps49
  go_wp2
  refine wp_loop_rounds 1 ?_
  rw [rounds_succ]
  go_wp2
  refine bodyPost_ret (results_tmp rfl _ _ _) rfl ⟨rfl, ?_⟩
  repeat (first | exact Below.refl _ _ | apply below_alloc | apply pw_below_drewN | apply below_drew1)
theorem holdConflicts_calls (G : Nat) (w : World) (hG : w.cell? ⟨G, 9, none⟩ = some (.slice none 0 0)) :
    Calls Try.prog 50 #[.pointer (some ⟨G, 0, none⟩)] w fun e w' => e = .returned (.bool true) ∧ Below w.heap.size w w' := by
  have hall := hall_nil hG
  clear hG
  go_enter Try.func50, Try.ntmps50
  go_wp2
  refine wp_loop_rounds 1 ?_
  rw [rounds_succ]
  go_wp2
  refine bodyPost_ret (results_tmp rfl _ _ _) rfl ⟨rfl, ?_⟩
  repeat (first | exact Below.refl _ _ | apply below_alloc | apply pw_below_drewN | apply below_drew1)
theorem holdPoints_calls (G : Nat) (w : World) (hG : w.cell? ⟨G, 10, none⟩ = some (.slice none 0 0)) :
    Calls Try.prog 51 #[.pointer (some ⟨G, 0, none⟩)] w fun e w' => e = .returned (.bool true) ∧ Below w.heap.size w w' := by
  have hall := hall_nil hG
  clear hG
  go_enter Try.func51, Try.ntmps51
  go_wp2
  refine wp_loop_rounds 1 ?_
  rw [rounds_succ]
  go_wp2
  refine bodyPost_ret (results_tmp rfl _ _ _) rfl ⟨rfl, ?_⟩
  repeat (first | exact Below.refl _ _ | apply below_alloc | apply pw_below_drewN | apply below_drew1)
theorem holdNodes_calls (G : Nat) (w : World) (hG : w.cell? ⟨G, 11, none⟩ = some (.slice none 0 0)) :
    Calls Try.prog 52 #[.pointer (some ⟨G, 0, none⟩)] w fun e w' => e = .returned (.bool true) ∧ Below w.heap.size w w' := by
  have hall := hall_nil hG
  clear hG
  go_enter Try.func52, Try.ntmps52
  go_wp2
  refine wp_loop_rounds 1 ?_
  rw [rounds_succ]
  go_wp2
  refine bodyPost_ret (results_tmp rfl _ _ _) rfl ⟨rfl, ?_⟩
  repeat (first | exact Below.refl _ _ | apply below_alloc | apply pw_below_drewN | apply below_drew1)
theorem holdRecords_calls (G : Nat) (w : World) (hG : w.cell? ⟨G, 12, none⟩ = some (.slice none 0 0)) :
    Calls Try.prog 53 #[.pointer (some ⟨G, 0, none⟩)] w fun e w' => e = .returned (.bool true) ∧ Below w.heap.size w w' := by
  have hall := hall_nil hG
  clear hG
  go_enter Try.func53, Try.ntmps53
  go_wp2
  refine wp_loop_rounds 1 ?_
  rw [rounds_succ]
  go_wp2
  refine bodyPost_ret (results_tmp rfl _ _ _) rfl ⟨rfl, ?_⟩
  repeat (first | exact Below.refl _ _ | apply below_alloc | apply pw_below_drewN | apply below_drew1)
theorem holdFiles_calls (G : Nat) (w : World) (hG : w.cell? ⟨G, 13, none⟩ = some (.slice none 0 0)) :
    Calls Try.prog 54 #[.pointer (some ⟨G, 0, none⟩)] w fun e w' => e = .returned (.bool true) ∧ Below w.heap.size w w' := by
  have hall := hall_nil hG
  clear hG
  go_enter Try.func54, Try.ntmps54
  go_wp2
  refine wp_loop_rounds 1 ?_
  rw [rounds_succ]
  go_wp2
  refine bodyPost_ret (results_tmp rfl _ _ _) rfl ⟨rfl, ?_⟩
  repeat (first | exact Below.refl _ _ | apply below_alloc | apply pw_below_drewN | apply below_drew1)
theorem holdExprs_calls (G : Nat) (w : World) (hG : w.cell? ⟨G, 14, none⟩ = some (.slice none 0 0)) :
    Calls Try.prog 55 #[.pointer (some ⟨G, 0, none⟩)] w fun e w' => e = .returned (.bool true) ∧ Below w.heap.size w w' := by
  have hall := hall_nil hG
  clear hG
  go_enter Try.func55, Try.ntmps55
  go_wp2
  refine wp_loop_rounds 1 ?_
  rw [rounds_succ]
  go_wp2
  refine bodyPost_ret (results_tmp rfl _ _ _) rfl ⟨rfl, ?_⟩
  repeat (first | exact Below.refl _ _ | apply below_alloc | apply pw_below_drewN | apply below_drew1)
theorem holdClauses_calls (G : Nat) (w : World) (hG : w.cell? ⟨G, 15, none⟩ = some (.slice none 0 0)) :
    Calls Try.prog 56 #[.pointer (some ⟨G, 0, none⟩)] w fun e w' => e = .returned (.bool true) ∧ Below w.heap.size w w' := by
  have hall := hall_nil hG
  clear hG
  go_enter Try.func56, Try.ntmps56
  go_wp2
  refine wp_loop_rounds 1 ?_
  rw [rounds_succ]
  go_wp2
  refine bodyPost_ret (results_tmp rfl _ _ _) rfl ⟨rfl, ?_⟩
  repeat (first | exact Below.refl _ _ | apply below_alloc | apply pw_below_drewN | apply below_drew1)
theorem holdLines_calls (G : Nat) (w : World) (hG : w.cell? ⟨G, 16, none⟩ = some (.slice none 0 0)) :
    Calls Try.prog 57 #[.pointer (some ⟨G, 0, none⟩)] w fun e w' => e = .returned (.bool true) ∧ Below w.heap.size w w' := by
  have hall := hall_nil hG
  clear hG
  go_enter Try.func57, Try.ntmps57
  go_wp2
  refine wp_loop_rounds 1 ?_
  rw [rounds_succ]
  go_wp2
  refine bodyPost_ret (results_tmp rfl _ _ _) rfl ⟨rfl, ?_⟩
  repeat (first | exact Below.refl _ _ | apply below_alloc | apply pw_below_drewN | apply below_drew1)
theorem holdChecks_calls (G : Nat) (w : World) (hG : w.cell? ⟨G, 17, none⟩ = some (.slice none 0 0)) :
    Calls Try.prog 58 #[.pointer (some ⟨G, 0, none⟩)] w fun e w' => e = .returned (.bool true) ∧ Below w.heap.size w w' := by
  have hall := hall_nil hG
  clear hG
  go_enter Try.func58, Try.ntmps58
  go_wp2
  refine wp_loop_rounds 1 ?_
  rw [rounds_succ]
  go_wp2
  refine bodyPost_ret (results_tmp rfl _ _ _) rfl ⟨rfl, ?_⟩
  repeat (first | exact Below.refl _ _ | apply below_alloc | apply pw_below_drewN | apply below_drew1)
theorem holdOptions_calls (G : Nat) (w : World) (hG : w.cell? ⟨G, 18, none⟩ = some (.slice none 0 0)) :
    Calls Try.prog 59 #[.pointer (some ⟨G, 0, none⟩)] w fun e w' => e = .returned (.bool true) ∧ Below w.heap.size w w' := by
  have hall := hall_nil hG
  clear hG
  go_enter Try.func59, Try.ntmps59
  go_wp2
  refine wp_loop_rounds 1 ?_
  rw [rounds_succ]
  go_wp2
  refine bodyPost_ret (results_tmp rfl _ _ _) rfl ⟨rfl, ?_⟩
  repeat (first | exact Below.refl _ _ | apply below_alloc | apply pw_below_drewN | apply below_drew1)
theorem holdTables_calls (G : Nat) (w : World) (hG : w.cell? ⟨G, 19, none⟩ = some (.slice none 0 0)) :
    Calls Try.prog 60 #[.pointer (some ⟨G, 0, none⟩)] w fun e w' => e = .returned (.bool true) ∧ Below w.heap.size w w' := by
  have hall := hall_nil hG
  clear hG
  go_enter Try.func60, Try.ntmps60
  go_wp2
  refine wp_loop_rounds 1 ?_
  rw [rounds_succ]
  go_wp2
  refine bodyPost_ret (results_tmp rfl _ _ _) rfl ⟨rfl, ?_⟩
  repeat (first | exact Below.refl _ _ | apply below_alloc | apply pw_below_drewN | apply below_drew1)
theorem holdGroups_calls (G : Nat) (w : World) (hG : w.cell? ⟨G, 20, none⟩ = some (.slice none 0 0)) :
    Calls Try.prog 61 #[.pointer (some ⟨G, 0, none⟩)] w fun e w' => e = .returned (.bool true) ∧ Below w.heap.size w w' := by
  have hall := hall_nil hG
  clear hG
  go_enter Try.func61, Try.ntmps61
  go_wp2
  refine wp_loop_rounds 1 ?_
  rw [rounds_succ]
  go_wp2
  refine bodyPost_ret (results_tmp rfl _ _ _) rfl ⟨rfl, ?_⟩
  repeat (first | exact Below.refl _ _ | apply below_alloc | apply pw_below_drewN | apply below_drew1)
theorem holdTokens_calls (G : Nat) (w : World) (hG : w.cell? ⟨G, 7, none⟩ = some (.slice none 0 0)) :
    Calls Try.prog 48 #[.pointer (some ⟨G, 0, none⟩)] w fun e w' => e = .returned (.bool true) ∧ Below w.heap.size w w' := by
  have hall : ∀ o, (w.alloc o).cell? ⟨G, 7, none⟩ = some (.slice none 0 0) := fun o => ((below_alloc (Below.refl w.heap.size w) o).cell (World.block_lt_of_cell? _ _ hG)).trans hG
  clear hG
  go_enter Try.func48, Try.ntmps48
  go_wp2
  refine wp_loop_rounds 1 ?_
  rw [rounds_succ]
  go_wp2
  refine bodyPost_ret (results_tmp rfl _ _ _) rfl ⟨rfl, ?_⟩
  repeat (first | exact Below.refl _ _ | apply below_alloc | apply pw_below_drewN | apply below_drew1)
end Go.Proofs.Ytmpgldggjjmkmaa.PA
