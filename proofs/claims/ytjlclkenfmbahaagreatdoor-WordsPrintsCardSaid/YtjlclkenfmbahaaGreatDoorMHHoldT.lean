/- The room's hold functions, where every list of the room is empty: each says true. Condition: the room's cell of that list holds nil. -/
import Derived.Test.YtjlclkenfmbahaaGreatDoorMPAx0
import Derived.WalkKit
namespace Go.Proofs.YtjlclkenfmbahaaGreatDoor.PA
open Go.RowKit Go.Proofs.YtjlclkenfmbahaaGreatDoorW.PrintWords Go.Proofs.YtjlclkenfmbahaaGreatDoorW.PrintLast Go.Proofs.YtjlclkenfmbahaaGreatDoorW.PrintMore
set_option linter.unusedVariables false
set_option linter.unusedSimpArgs false
set_option maxRecDepth 100000
set_option maxHeartbeats 2000000
theorem hall_nil {G j : Nat} {w : World} (hG : w.cell? ⟨G, j, none⟩ = some (.slice none 0 0)) : ∀ o, (w.alloc o).cell? ⟨G, j, none⟩ = some (.slice none 0 0) :=
 fun o => ((below_alloc (Below.refl w.heap.size w) o).cell (World.block_lt_of_cell? _ _ hG)).trans hG
theorem holdBytes_calls (G : Nat) (w : World) (hG : w.cell? ⟨G, 0, none⟩ = some (.slice none 0 0)) :
  Calls Tryz.prog 21 #[.pointer (some ⟨G, 0, none⟩)] w fun e w' => e = .returned (.bool true) ∧ Below w.heap.size w w' := by
 have hall := hall_nil hG
 clear hG
 go_enter Tryz.func21, Tryz.ntmps21
 go_wp2
 refine wp_loop_rounds 1 ?_
 rw [rounds_succ]
 go_wp2
 refine bodyPost_ret (results_tmp rfl _ _ _) rfl ⟨rfl, ?_⟩
 repeat (first | exact Below.refl _ _ | apply below_alloc | apply pw_below_drewN | apply below_drew1)
theorem holdInts_calls (G : Nat) (w : World) (hG : w.cell? ⟨G, 1, none⟩ = some (.slice none 0 0)) :
  Calls Tryz.prog 22 #[.pointer (some ⟨G, 0, none⟩)] w fun e w' => e = .returned (.bool true) ∧ Below w.heap.size w w' := by
 have hall := hall_nil hG
 clear hG
 go_enter Tryz.func22, Tryz.ntmps22
 go_wp2
 refine wp_loop_rounds 1 ?_
 rw [rounds_succ]
 go_wp2
 refine bodyPost_ret (results_tmp rfl _ _ _) rfl ⟨rfl, ?_⟩
 repeat (first | exact Below.refl _ _ | apply below_alloc | apply pw_below_drewN | apply below_drew1)
theorem holdCells_calls (G : Nat) (w : World) (hG : w.cell? ⟨G, 2, none⟩ = some (.slice none 0 0)) :
  Calls Tryz.prog 23 #[.pointer (some ⟨G, 0, none⟩)] w fun e w' => e = .returned (.bool true) ∧ Below w.heap.size w w' := by
 have hall := hall_nil hG
 clear hG
 go_enter Tryz.func23, Tryz.ntmps23
 go_wp2
 refine wp_loop_rounds 1 ?_
 rw [rounds_succ]
 go_wp2
 refine bodyPost_ret (results_tmp rfl _ _ _) rfl ⟨rfl, ?_⟩
 repeat (first | exact Below.refl _ _ | apply below_alloc | apply pw_below_drewN | apply below_drew1)
theorem holdBools_calls (G : Nat) (w : World) (hG : w.cell? ⟨G, 3, none⟩ = some (.slice none 0 0)) :
  Calls Tryz.prog 24 #[.pointer (some ⟨G, 0, none⟩)] w fun e w' => e = .returned (.bool true) ∧ Below w.heap.size w w' := by
 have hall := hall_nil hG
 clear hG
 go_enter Tryz.func24, Tryz.ntmps24
 go_wp2
 refine wp_loop_rounds 1 ?_
 rw [rounds_succ]
 go_wp2
 refine bodyPost_ret (results_tmp rfl _ _ _) rfl ⟨rfl, ?_⟩
 repeat (first | exact Below.refl _ _ | apply below_alloc | apply pw_below_drewN | apply below_drew1)
theorem holdTexts_calls (G : Nat) (w : World) (hG : w.cell? ⟨G, 4, none⟩ = some (.slice none 0 0)) :
  Calls Tryz.prog 25 #[.pointer (some ⟨G, 0, none⟩)] w fun e w' => e = .returned (.bool true) ∧ Below w.heap.size w w' := by
 have hall := hall_nil hG
 clear hG
 go_enter Tryz.func25, Tryz.ntmps25
 go_wp2
 refine wp_loop_rounds 1 ?_
 rw [rounds_succ]
 go_wp2
 refine bodyPost_ret (results_tmp rfl _ _ _) rfl ⟨rfl, ?_⟩
 repeat (first | exact Below.refl _ _ | apply below_alloc | apply pw_below_drewN | apply below_drew1)
theorem holdValues_calls (G : Nat) (w : World) (hG : w.cell? ⟨G, 5, none⟩ = some (.slice none 0 0)) :
  Calls Tryz.prog 26 #[.pointer (some ⟨G, 0, none⟩)] w fun e w' => e = .returned (.bool true) ∧ Below w.heap.size w w' := by
 have hall := hall_nil hG
 clear hG
 go_enter Tryz.func26, Tryz.ntmps26
 go_wp2
 refine wp_loop_rounds 1 ?_
 rw [rounds_succ]
 go_wp2
 refine bodyPost_ret (results_tmp rfl _ _ _) rfl ⟨rfl, ?_⟩
 repeat (first | exact Below.refl _ _ | apply below_alloc | apply pw_below_drewN | apply below_drew1)
theorem holdBands_calls (G : Nat) (w : World) (hG : w.cell? ⟨G, 6, none⟩ = some (.slice none 0 0)) :
  Calls Tryz.prog 27 #[.pointer (some ⟨G, 0, none⟩)] w fun e w' => e = .returned (.bool true) ∧ Below w.heap.size w w' := by
 have hall := hall_nil hG
 clear hG
 go_enter Tryz.func27, Tryz.ntmps27
 go_wp2
 refine wp_loop_rounds 1 ?_
 rw [rounds_succ]
 go_wp2
 refine bodyPost_ret (results_tmp rfl _ _ _) rfl ⟨rfl, ?_⟩
 repeat (first | exact Below.refl _ _ | apply below_alloc | apply pw_below_drewN | apply below_drew1)
theorem holdReads_calls (G : Nat) (w : World) (hG : w.cell? ⟨G, 8, none⟩ = some (.slice none 0 0)) :
  Calls Tryz.prog 29 #[.pointer (some ⟨G, 0, none⟩)] w fun e w' => e = .returned (.bool true) ∧ Below w.heap.size w w' := by
 have hall := hall_nil hG
 clear hG
 go_enter Tryz.func29, Tryz.ntmps29
 go_wp2
 refine wp_loop_rounds 1 ?_
 rw [rounds_succ]
 go_wp2
 refine bodyPost_ret (results_tmp rfl _ _ _) rfl ⟨rfl, ?_⟩
 repeat (first | exact Below.refl _ _ | apply below_alloc | apply pw_below_drewN | apply below_drew1)
theorem holdConflicts_calls (G : Nat) (w : World) (hG : w.cell? ⟨G, 9, none⟩ = some (.slice none 0 0)) :
  Calls Tryz.prog 30 #[.pointer (some ⟨G, 0, none⟩)] w fun e w' => e = .returned (.bool true) ∧ Below w.heap.size w w' := by
 have hall := hall_nil hG
 clear hG
 go_enter Tryz.func30, Tryz.ntmps30
 go_wp2
 refine wp_loop_rounds 1 ?_
 rw [rounds_succ]
 go_wp2
 refine bodyPost_ret (results_tmp rfl _ _ _) rfl ⟨rfl, ?_⟩
 repeat (first | exact Below.refl _ _ | apply below_alloc | apply pw_below_drewN | apply below_drew1)
theorem holdPoints_calls (G : Nat) (w : World) (hG : w.cell? ⟨G, 10, none⟩ = some (.slice none 0 0)) :
  Calls Tryz.prog 31 #[.pointer (some ⟨G, 0, none⟩)] w fun e w' => e = .returned (.bool true) ∧ Below w.heap.size w w' := by
 have hall := hall_nil hG
 clear hG
 go_enter Tryz.func31, Tryz.ntmps31
 go_wp2
 refine wp_loop_rounds 1 ?_
 rw [rounds_succ]
 go_wp2
 refine bodyPost_ret (results_tmp rfl _ _ _) rfl ⟨rfl, ?_⟩
 repeat (first | exact Below.refl _ _ | apply below_alloc | apply pw_below_drewN | apply below_drew1)
theorem holdNodes_calls (G : Nat) (w : World) (hG : w.cell? ⟨G, 11, none⟩ = some (.slice none 0 0)) :
  Calls Tryz.prog 32 #[.pointer (some ⟨G, 0, none⟩)] w fun e w' => e = .returned (.bool true) ∧ Below w.heap.size w w' := by
 have hall := hall_nil hG
 clear hG
 go_enter Tryz.func32, Tryz.ntmps32
 go_wp2
 refine wp_loop_rounds 1 ?_
 rw [rounds_succ]
 go_wp2
 refine bodyPost_ret (results_tmp rfl _ _ _) rfl ⟨rfl, ?_⟩
 repeat (first | exact Below.refl _ _ | apply below_alloc | apply pw_below_drewN | apply below_drew1)
theorem holdRecords_calls (G : Nat) (w : World) (hG : w.cell? ⟨G, 12, none⟩ = some (.slice none 0 0)) :
  Calls Tryz.prog 33 #[.pointer (some ⟨G, 0, none⟩)] w fun e w' => e = .returned (.bool true) ∧ Below w.heap.size w w' := by
 have hall := hall_nil hG
 clear hG
 go_enter Tryz.func33, Tryz.ntmps33
 go_wp2
 refine wp_loop_rounds 1 ?_
 rw [rounds_succ]
 go_wp2
 refine bodyPost_ret (results_tmp rfl _ _ _) rfl ⟨rfl, ?_⟩
 repeat (first | exact Below.refl _ _ | apply below_alloc | apply pw_below_drewN | apply below_drew1)
theorem holdFiles_calls (G : Nat) (w : World) (hG : w.cell? ⟨G, 13, none⟩ = some (.slice none 0 0)) :
  Calls Tryz.prog 34 #[.pointer (some ⟨G, 0, none⟩)] w fun e w' => e = .returned (.bool true) ∧ Below w.heap.size w w' := by
 have hall := hall_nil hG
 clear hG
 go_enter Tryz.func34, Tryz.ntmps34
 go_wp2
 refine wp_loop_rounds 1 ?_
 rw [rounds_succ]
 go_wp2
 refine bodyPost_ret (results_tmp rfl _ _ _) rfl ⟨rfl, ?_⟩
 repeat (first | exact Below.refl _ _ | apply below_alloc | apply pw_below_drewN | apply below_drew1)
theorem holdExprs_calls (G : Nat) (w : World) (hG : w.cell? ⟨G, 14, none⟩ = some (.slice none 0 0)) :
  Calls Tryz.prog 35 #[.pointer (some ⟨G, 0, none⟩)] w fun e w' => e = .returned (.bool true) ∧ Below w.heap.size w w' := by
 have hall := hall_nil hG
 clear hG
 go_enter Tryz.func35, Tryz.ntmps35
 go_wp2
 refine wp_loop_rounds 1 ?_
 rw [rounds_succ]
 go_wp2
 refine bodyPost_ret (results_tmp rfl _ _ _) rfl ⟨rfl, ?_⟩
 repeat (first | exact Below.refl _ _ | apply below_alloc | apply pw_below_drewN | apply below_drew1)
theorem holdClauses_calls (G : Nat) (w : World) (hG : w.cell? ⟨G, 15, none⟩ = some (.slice none 0 0)) :
  Calls Tryz.prog 36 #[.pointer (some ⟨G, 0, none⟩)] w fun e w' => e = .returned (.bool true) ∧ Below w.heap.size w w' := by
 have hall := hall_nil hG
 clear hG
 go_enter Tryz.func36, Tryz.ntmps36
 go_wp2
 refine wp_loop_rounds 1 ?_
 rw [rounds_succ]
 go_wp2
 refine bodyPost_ret (results_tmp rfl _ _ _) rfl ⟨rfl, ?_⟩
 repeat (first | exact Below.refl _ _ | apply below_alloc | apply pw_below_drewN | apply below_drew1)
theorem holdLines_calls (G : Nat) (w : World) (hG : w.cell? ⟨G, 16, none⟩ = some (.slice none 0 0)) :
  Calls Tryz.prog 37 #[.pointer (some ⟨G, 0, none⟩)] w fun e w' => e = .returned (.bool true) ∧ Below w.heap.size w w' := by
 have hall := hall_nil hG
 clear hG
 go_enter Tryz.func37, Tryz.ntmps37
 go_wp2
 refine wp_loop_rounds 1 ?_
 rw [rounds_succ]
 go_wp2
 refine bodyPost_ret (results_tmp rfl _ _ _) rfl ⟨rfl, ?_⟩
 repeat (first | exact Below.refl _ _ | apply below_alloc | apply pw_below_drewN | apply below_drew1)
theorem holdChecks_calls (G : Nat) (w : World) (hG : w.cell? ⟨G, 17, none⟩ = some (.slice none 0 0)) :
  Calls Tryz.prog 38 #[.pointer (some ⟨G, 0, none⟩)] w fun e w' => e = .returned (.bool true) ∧ Below w.heap.size w w' := by
 have hall := hall_nil hG
 clear hG
 go_enter Tryz.func38, Tryz.ntmps38
 go_wp2
 refine wp_loop_rounds 1 ?_
 rw [rounds_succ]
 go_wp2
 refine bodyPost_ret (results_tmp rfl _ _ _) rfl ⟨rfl, ?_⟩
 repeat (first | exact Below.refl _ _ | apply below_alloc | apply pw_below_drewN | apply below_drew1)
theorem holdOptions_calls (G : Nat) (w : World) (hG : w.cell? ⟨G, 18, none⟩ = some (.slice none 0 0)) :
  Calls Tryz.prog 39 #[.pointer (some ⟨G, 0, none⟩)] w fun e w' => e = .returned (.bool true) ∧ Below w.heap.size w w' := by
 have hall := hall_nil hG
 clear hG
 go_enter Tryz.func39, Tryz.ntmps39
 go_wp2
 refine wp_loop_rounds 1 ?_
 rw [rounds_succ]
 go_wp2
 refine bodyPost_ret (results_tmp rfl _ _ _) rfl ⟨rfl, ?_⟩
 repeat (first | exact Below.refl _ _ | apply below_alloc | apply pw_below_drewN | apply below_drew1)
theorem holdTables_calls (G : Nat) (w : World) (hG : w.cell? ⟨G, 19, none⟩ = some (.slice none 0 0)) :
  Calls Tryz.prog 40 #[.pointer (some ⟨G, 0, none⟩)] w fun e w' => e = .returned (.bool true) ∧ Below w.heap.size w w' := by
 have hall := hall_nil hG
 clear hG
 go_enter Tryz.func40, Tryz.ntmps40
 go_wp2
 refine wp_loop_rounds 1 ?_
 rw [rounds_succ]
 go_wp2
 refine bodyPost_ret (results_tmp rfl _ _ _) rfl ⟨rfl, ?_⟩
 repeat (first | exact Below.refl _ _ | apply below_alloc | apply pw_below_drewN | apply below_drew1)
theorem holdGroups_calls (G : Nat) (w : World) (hG : w.cell? ⟨G, 20, none⟩ = some (.slice none 0 0)) :
  Calls Tryz.prog 41 #[.pointer (some ⟨G, 0, none⟩)] w fun e w' => e = .returned (.bool true) ∧ Below w.heap.size w w' := by
 have hall := hall_nil hG
 clear hG
 go_enter Tryz.func41, Tryz.ntmps41
 go_wp2
 refine wp_loop_rounds 1 ?_
 rw [rounds_succ]
 go_wp2
 refine bodyPost_ret (results_tmp rfl _ _ _) rfl ⟨rfl, ?_⟩
 repeat (first | exact Below.refl _ _ | apply below_alloc | apply pw_below_drewN | apply below_drew1)
end Go.Proofs.YtjlclkenfmbahaaGreatDoor.PA
