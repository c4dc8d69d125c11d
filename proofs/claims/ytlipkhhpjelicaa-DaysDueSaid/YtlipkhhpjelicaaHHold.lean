/- The room's hold functions, where every list of the room is empty: each says true. Condition: the room's cell of that list holds nil. -/
import Derived.Test.YtlipkhhpjelicaaPAx0
import Derived.WalkKit
namespace Go.Proofs.Ytlipkhhpjelicaa.PA
open Go.RowKit Go.Proofs.YtlipkhhpjelicaaW.PrintWords Go.Proofs.YtlipkhhpjelicaaW.PrintLast Go.Proofs.YtlipkhhpjelicaaW.PrintMore
set_option linter.unusedVariables false
set_option linter.unusedSimpArgs false

set_option maxRecDepth 100000 in
set_option maxHeartbeats 2000000 in
theorem holdBytes_calls (G : Nat) (w : World) (hG : w.cell? ⟨G, 0, none⟩ = some (.slice none 0 0)) :
    Calls Try.prog 17 #[.pointer (some ⟨G, 0, none⟩)] w fun e w' => e = .returned (.bool true) ∧ Below w.heap.size w w' := by
  have hall : ∀ o, (w.alloc o).cell? ⟨G, 0, none⟩ = some (.slice none 0 0) := fun o => ((below_alloc (Below.refl w.heap.size w) o).cell (World.block_lt_of_cell? _ _ hG)).trans hG
  clear hG
  go_enter Try.func17, Try.ntmps17
  go_wp2
  refine wp_loop_rounds 1 ?_
  rw [rounds_succ]
  go_wp2
  refine bodyPost_ret (results_tmp rfl _ _ _) rfl ⟨rfl, ?_⟩
  repeat (first | exact Below.refl _ _ | apply below_alloc | apply pw_below_drewN | apply below_drew1)

set_option maxRecDepth 100000 in
set_option maxHeartbeats 2000000 in
theorem holdCells_calls (G : Nat) (w : World) (hG : w.cell? ⟨G, 2, none⟩ = some (.slice none 0 0)) :
    Calls Try.prog 19 #[.pointer (some ⟨G, 0, none⟩)] w fun e w' => e = .returned (.bool true) ∧ Below w.heap.size w w' := by
  have hall : ∀ o, (w.alloc o).cell? ⟨G, 2, none⟩ = some (.slice none 0 0) := fun o => ((below_alloc (Below.refl w.heap.size w) o).cell (World.block_lt_of_cell? _ _ hG)).trans hG
  clear hG
  go_enter Try.func19, Try.ntmps19
  go_wp2
  refine wp_loop_rounds 1 ?_
  rw [rounds_succ]
  go_wp2
  refine bodyPost_ret (results_tmp rfl _ _ _) rfl ⟨rfl, ?_⟩
  repeat (first | exact Below.refl _ _ | apply below_alloc | apply pw_below_drewN | apply below_drew1)

set_option maxRecDepth 100000 in
set_option maxHeartbeats 2000000 in
theorem holdBools_calls (G : Nat) (w : World) (hG : w.cell? ⟨G, 3, none⟩ = some (.slice none 0 0)) :
    Calls Try.prog 20 #[.pointer (some ⟨G, 0, none⟩)] w fun e w' => e = .returned (.bool true) ∧ Below w.heap.size w w' := by
  have hall : ∀ o, (w.alloc o).cell? ⟨G, 3, none⟩ = some (.slice none 0 0) := fun o => ((below_alloc (Below.refl w.heap.size w) o).cell (World.block_lt_of_cell? _ _ hG)).trans hG
  clear hG
  go_enter Try.func20, Try.ntmps20
  go_wp2
  refine wp_loop_rounds 1 ?_
  rw [rounds_succ]
  go_wp2
  refine bodyPost_ret (results_tmp rfl _ _ _) rfl ⟨rfl, ?_⟩
  repeat (first | exact Below.refl _ _ | apply below_alloc | apply pw_below_drewN | apply below_drew1)

set_option maxRecDepth 100000 in
set_option maxHeartbeats 2000000 in
theorem holdTexts_calls (G : Nat) (w : World) (hG : w.cell? ⟨G, 4, none⟩ = some (.slice none 0 0)) :
    Calls Try.prog 21 #[.pointer (some ⟨G, 0, none⟩)] w fun e w' => e = .returned (.bool true) ∧ Below w.heap.size w w' := by
  have hall : ∀ o, (w.alloc o).cell? ⟨G, 4, none⟩ = some (.slice none 0 0) := fun o => ((below_alloc (Below.refl w.heap.size w) o).cell (World.block_lt_of_cell? _ _ hG)).trans hG
  clear hG
  go_enter Try.func21, Try.ntmps21
  go_wp2
  refine wp_loop_rounds 1 ?_
  rw [rounds_succ]
  go_wp2
  refine bodyPost_ret (results_tmp rfl _ _ _) rfl ⟨rfl, ?_⟩
  repeat (first | exact Below.refl _ _ | apply below_alloc | apply pw_below_drewN | apply below_drew1)

set_option maxRecDepth 100000 in
set_option maxHeartbeats 2000000 in
theorem holdValues_calls (G : Nat) (w : World) (hG : w.cell? ⟨G, 5, none⟩ = some (.slice none 0 0)) :
    Calls Try.prog 22 #[.pointer (some ⟨G, 0, none⟩)] w fun e w' => e = .returned (.bool true) ∧ Below w.heap.size w w' := by
  have hall : ∀ o, (w.alloc o).cell? ⟨G, 5, none⟩ = some (.slice none 0 0) := fun o => ((below_alloc (Below.refl w.heap.size w) o).cell (World.block_lt_of_cell? _ _ hG)).trans hG
  clear hG
  go_enter Try.func22, Try.ntmps22
  go_wp2
  refine wp_loop_rounds 1 ?_
  rw [rounds_succ]
  go_wp2
  refine bodyPost_ret (results_tmp rfl _ _ _) rfl ⟨rfl, ?_⟩
  repeat (first | exact Below.refl _ _ | apply below_alloc | apply pw_below_drewN | apply below_drew1)

set_option maxRecDepth 100000 in
set_option maxHeartbeats 2000000 in
theorem holdBands_calls (G : Nat) (w : World) (hG : w.cell? ⟨G, 6, none⟩ = some (.slice none 0 0)) :
    Calls Try.prog 23 #[.pointer (some ⟨G, 0, none⟩)] w fun e w' => e = .returned (.bool true) ∧ Below w.heap.size w w' := by
  have hall : ∀ o, (w.alloc o).cell? ⟨G, 6, none⟩ = some (.slice none 0 0) := fun o => ((below_alloc (Below.refl w.heap.size w) o).cell (World.block_lt_of_cell? _ _ hG)).trans hG
  clear hG
  go_enter Try.func23, Try.ntmps23
  go_wp2
  refine wp_loop_rounds 1 ?_
  rw [rounds_succ]
  go_wp2
  refine bodyPost_ret (results_tmp rfl _ _ _) rfl ⟨rfl, ?_⟩
  repeat (first | exact Below.refl _ _ | apply below_alloc | apply pw_below_drewN | apply below_drew1)

set_option maxRecDepth 100000 in
set_option maxHeartbeats 2000000 in
theorem holdTokens_calls (G : Nat) (w : World) (hG : w.cell? ⟨G, 7, none⟩ = some (.slice none 0 0)) :
    Calls Try.prog 24 #[.pointer (some ⟨G, 0, none⟩)] w fun e w' => e = .returned (.bool true) ∧ Below w.heap.size w w' := by
  have hall : ∀ o, (w.alloc o).cell? ⟨G, 7, none⟩ = some (.slice none 0 0) := fun o => ((below_alloc (Below.refl w.heap.size w) o).cell (World.block_lt_of_cell? _ _ hG)).trans hG
  clear hG
  go_enter Try.func24, Try.ntmps24
  go_wp2
  refine wp_loop_rounds 1 ?_
  rw [rounds_succ]
  go_wp2
  refine bodyPost_ret (results_tmp rfl _ _ _) rfl ⟨rfl, ?_⟩
  repeat (first | exact Below.refl _ _ | apply below_alloc | apply pw_below_drewN | apply below_drew1)

set_option maxRecDepth 100000 in
set_option maxHeartbeats 2000000 in
theorem holdReads_calls (G : Nat) (w : World) (hG : w.cell? ⟨G, 8, none⟩ = some (.slice none 0 0)) :
    Calls Try.prog 25 #[.pointer (some ⟨G, 0, none⟩)] w fun e w' => e = .returned (.bool true) ∧ Below w.heap.size w w' := by
  have hall : ∀ o, (w.alloc o).cell? ⟨G, 8, none⟩ = some (.slice none 0 0) := fun o => ((below_alloc (Below.refl w.heap.size w) o).cell (World.block_lt_of_cell? _ _ hG)).trans hG
  clear hG
  go_enter Try.func25, Try.ntmps25
  go_wp2
  refine wp_loop_rounds 1 ?_
  rw [rounds_succ]
  go_wp2
  refine bodyPost_ret (results_tmp rfl _ _ _) rfl ⟨rfl, ?_⟩
  repeat (first | exact Below.refl _ _ | apply below_alloc | apply pw_below_drewN | apply below_drew1)

set_option maxRecDepth 100000 in
set_option maxHeartbeats 2000000 in
theorem holdConflicts_calls (G : Nat) (w : World) (hG : w.cell? ⟨G, 9, none⟩ = some (.slice none 0 0)) :
    Calls Try.prog 26 #[.pointer (some ⟨G, 0, none⟩)] w fun e w' => e = .returned (.bool true) ∧ Below w.heap.size w w' := by
  have hall : ∀ o, (w.alloc o).cell? ⟨G, 9, none⟩ = some (.slice none 0 0) := fun o => ((below_alloc (Below.refl w.heap.size w) o).cell (World.block_lt_of_cell? _ _ hG)).trans hG
  clear hG
  go_enter Try.func26, Try.ntmps26
  go_wp2
  refine wp_loop_rounds 1 ?_
  rw [rounds_succ]
  go_wp2
  refine bodyPost_ret (results_tmp rfl _ _ _) rfl ⟨rfl, ?_⟩
  repeat (first | exact Below.refl _ _ | apply below_alloc | apply pw_below_drewN | apply below_drew1)

set_option maxRecDepth 100000 in
set_option maxHeartbeats 2000000 in
theorem holdPoints_calls (G : Nat) (w : World) (hG : w.cell? ⟨G, 10, none⟩ = some (.slice none 0 0)) :
    Calls Try.prog 27 #[.pointer (some ⟨G, 0, none⟩)] w fun e w' => e = .returned (.bool true) ∧ Below w.heap.size w w' := by
  have hall : ∀ o, (w.alloc o).cell? ⟨G, 10, none⟩ = some (.slice none 0 0) := fun o => ((below_alloc (Below.refl w.heap.size w) o).cell (World.block_lt_of_cell? _ _ hG)).trans hG
  clear hG
  go_enter Try.func27, Try.ntmps27
  go_wp2
  refine wp_loop_rounds 1 ?_
  rw [rounds_succ]
  go_wp2
  refine bodyPost_ret (results_tmp rfl _ _ _) rfl ⟨rfl, ?_⟩
  repeat (first | exact Below.refl _ _ | apply below_alloc | apply pw_below_drewN | apply below_drew1)

set_option maxRecDepth 100000 in
set_option maxHeartbeats 2000000 in
theorem holdNodes_calls (G : Nat) (w : World) (hG : w.cell? ⟨G, 11, none⟩ = some (.slice none 0 0)) :
    Calls Try.prog 28 #[.pointer (some ⟨G, 0, none⟩)] w fun e w' => e = .returned (.bool true) ∧ Below w.heap.size w w' := by
  have hall : ∀ o, (w.alloc o).cell? ⟨G, 11, none⟩ = some (.slice none 0 0) := fun o => ((below_alloc (Below.refl w.heap.size w) o).cell (World.block_lt_of_cell? _ _ hG)).trans hG
  clear hG
  go_enter Try.func28, Try.ntmps28
  go_wp2
  refine wp_loop_rounds 1 ?_
  rw [rounds_succ]
  go_wp2
  refine bodyPost_ret (results_tmp rfl _ _ _) rfl ⟨rfl, ?_⟩
  repeat (first | exact Below.refl _ _ | apply below_alloc | apply pw_below_drewN | apply below_drew1)

set_option maxRecDepth 100000 in
set_option maxHeartbeats 2000000 in
theorem holdRecords_calls (G : Nat) (w : World) (hG : w.cell? ⟨G, 12, none⟩ = some (.slice none 0 0)) :
    Calls Try.prog 29 #[.pointer (some ⟨G, 0, none⟩)] w fun e w' => e = .returned (.bool true) ∧ Below w.heap.size w w' := by
  have hall : ∀ o, (w.alloc o).cell? ⟨G, 12, none⟩ = some (.slice none 0 0) := fun o => ((below_alloc (Below.refl w.heap.size w) o).cell (World.block_lt_of_cell? _ _ hG)).trans hG
  clear hG
  go_enter Try.func29, Try.ntmps29
  go_wp2
  refine wp_loop_rounds 1 ?_
  rw [rounds_succ]
  go_wp2
  refine bodyPost_ret (results_tmp rfl _ _ _) rfl ⟨rfl, ?_⟩
  repeat (first | exact Below.refl _ _ | apply below_alloc | apply pw_below_drewN | apply below_drew1)

set_option maxRecDepth 100000 in
set_option maxHeartbeats 2000000 in
theorem holdFiles_calls (G : Nat) (w : World) (hG : w.cell? ⟨G, 13, none⟩ = some (.slice none 0 0)) :
    Calls Try.prog 30 #[.pointer (some ⟨G, 0, none⟩)] w fun e w' => e = .returned (.bool true) ∧ Below w.heap.size w w' := by
  have hall : ∀ o, (w.alloc o).cell? ⟨G, 13, none⟩ = some (.slice none 0 0) := fun o => ((below_alloc (Below.refl w.heap.size w) o).cell (World.block_lt_of_cell? _ _ hG)).trans hG
  clear hG
  go_enter Try.func30, Try.ntmps30
  go_wp2
  refine wp_loop_rounds 1 ?_
  rw [rounds_succ]
  go_wp2
  refine bodyPost_ret (results_tmp rfl _ _ _) rfl ⟨rfl, ?_⟩
  repeat (first | exact Below.refl _ _ | apply below_alloc | apply pw_below_drewN | apply below_drew1)

set_option maxRecDepth 100000 in
set_option maxHeartbeats 2000000 in
theorem holdExprs_calls (G : Nat) (w : World) (hG : w.cell? ⟨G, 14, none⟩ = some (.slice none 0 0)) :
    Calls Try.prog 31 #[.pointer (some ⟨G, 0, none⟩)] w fun e w' => e = .returned (.bool true) ∧ Below w.heap.size w w' := by
  have hall : ∀ o, (w.alloc o).cell? ⟨G, 14, none⟩ = some (.slice none 0 0) := fun o => ((below_alloc (Below.refl w.heap.size w) o).cell (World.block_lt_of_cell? _ _ hG)).trans hG
  clear hG
  go_enter Try.func31, Try.ntmps31
  go_wp2
  refine wp_loop_rounds 1 ?_
  rw [rounds_succ]
  go_wp2
  refine bodyPost_ret (results_tmp rfl _ _ _) rfl ⟨rfl, ?_⟩
  repeat (first | exact Below.refl _ _ | apply below_alloc | apply pw_below_drewN | apply below_drew1)

set_option maxRecDepth 100000 in
set_option maxHeartbeats 2000000 in
theorem holdClauses_calls (G : Nat) (w : World) (hG : w.cell? ⟨G, 15, none⟩ = some (.slice none 0 0)) :
    Calls Try.prog 32 #[.pointer (some ⟨G, 0, none⟩)] w fun e w' => e = .returned (.bool true) ∧ Below w.heap.size w w' := by
  have hall : ∀ o, (w.alloc o).cell? ⟨G, 15, none⟩ = some (.slice none 0 0) := fun o => ((below_alloc (Below.refl w.heap.size w) o).cell (World.block_lt_of_cell? _ _ hG)).trans hG
  clear hG
  go_enter Try.func32, Try.ntmps32
  go_wp2
  refine wp_loop_rounds 1 ?_
  rw [rounds_succ]
  go_wp2
  refine bodyPost_ret (results_tmp rfl _ _ _) rfl ⟨rfl, ?_⟩
  repeat (first | exact Below.refl _ _ | apply below_alloc | apply pw_below_drewN | apply below_drew1)

set_option maxRecDepth 100000 in
set_option maxHeartbeats 2000000 in
theorem holdLines_calls (G : Nat) (w : World) (hG : w.cell? ⟨G, 16, none⟩ = some (.slice none 0 0)) :
    Calls Try.prog 33 #[.pointer (some ⟨G, 0, none⟩)] w fun e w' => e = .returned (.bool true) ∧ Below w.heap.size w w' := by
  have hall : ∀ o, (w.alloc o).cell? ⟨G, 16, none⟩ = some (.slice none 0 0) := fun o => ((below_alloc (Below.refl w.heap.size w) o).cell (World.block_lt_of_cell? _ _ hG)).trans hG
  clear hG
  go_enter Try.func33, Try.ntmps33
  go_wp2
  refine wp_loop_rounds 1 ?_
  rw [rounds_succ]
  go_wp2
  refine bodyPost_ret (results_tmp rfl _ _ _) rfl ⟨rfl, ?_⟩
  repeat (first | exact Below.refl _ _ | apply below_alloc | apply pw_below_drewN | apply below_drew1)

set_option maxRecDepth 100000 in
set_option maxHeartbeats 2000000 in
theorem holdChecks_calls (G : Nat) (w : World) (hG : w.cell? ⟨G, 17, none⟩ = some (.slice none 0 0)) :
    Calls Try.prog 34 #[.pointer (some ⟨G, 0, none⟩)] w fun e w' => e = .returned (.bool true) ∧ Below w.heap.size w w' := by
  have hall : ∀ o, (w.alloc o).cell? ⟨G, 17, none⟩ = some (.slice none 0 0) := fun o => ((below_alloc (Below.refl w.heap.size w) o).cell (World.block_lt_of_cell? _ _ hG)).trans hG
  clear hG
  go_enter Try.func34, Try.ntmps34
  go_wp2
  refine wp_loop_rounds 1 ?_
  rw [rounds_succ]
  go_wp2
  refine bodyPost_ret (results_tmp rfl _ _ _) rfl ⟨rfl, ?_⟩
  repeat (first | exact Below.refl _ _ | apply below_alloc | apply pw_below_drewN | apply below_drew1)

set_option maxRecDepth 100000 in
set_option maxHeartbeats 2000000 in
theorem holdOptions_calls (G : Nat) (w : World) (hG : w.cell? ⟨G, 18, none⟩ = some (.slice none 0 0)) :
    Calls Try.prog 35 #[.pointer (some ⟨G, 0, none⟩)] w fun e w' => e = .returned (.bool true) ∧ Below w.heap.size w w' := by
  have hall : ∀ o, (w.alloc o).cell? ⟨G, 18, none⟩ = some (.slice none 0 0) := fun o => ((below_alloc (Below.refl w.heap.size w) o).cell (World.block_lt_of_cell? _ _ hG)).trans hG
  clear hG
  go_enter Try.func35, Try.ntmps35
  go_wp2
  refine wp_loop_rounds 1 ?_
  rw [rounds_succ]
  go_wp2
  refine bodyPost_ret (results_tmp rfl _ _ _) rfl ⟨rfl, ?_⟩
  repeat (first | exact Below.refl _ _ | apply below_alloc | apply pw_below_drewN | apply below_drew1)

set_option maxRecDepth 100000 in
set_option maxHeartbeats 2000000 in
theorem holdTables_calls (G : Nat) (w : World) (hG : w.cell? ⟨G, 19, none⟩ = some (.slice none 0 0)) :
    Calls Try.prog 36 #[.pointer (some ⟨G, 0, none⟩)] w fun e w' => e = .returned (.bool true) ∧ Below w.heap.size w w' := by
  have hall : ∀ o, (w.alloc o).cell? ⟨G, 19, none⟩ = some (.slice none 0 0) := fun o => ((below_alloc (Below.refl w.heap.size w) o).cell (World.block_lt_of_cell? _ _ hG)).trans hG
  clear hG
  go_enter Try.func36, Try.ntmps36
  go_wp2
  refine wp_loop_rounds 1 ?_
  rw [rounds_succ]
  go_wp2
  refine bodyPost_ret (results_tmp rfl _ _ _) rfl ⟨rfl, ?_⟩
  repeat (first | exact Below.refl _ _ | apply below_alloc | apply pw_below_drewN | apply below_drew1)

set_option maxRecDepth 100000 in
set_option maxHeartbeats 2000000 in
theorem holdGroups_calls (G : Nat) (w : World) (hG : w.cell? ⟨G, 20, none⟩ = some (.slice none 0 0)) :
    Calls Try.prog 37 #[.pointer (some ⟨G, 0, none⟩)] w fun e w' => e = .returned (.bool true) ∧ Below w.heap.size w w' := by
  have hall : ∀ o, (w.alloc o).cell? ⟨G, 20, none⟩ = some (.slice none 0 0) := fun o => ((below_alloc (Below.refl w.heap.size w) o).cell (World.block_lt_of_cell? _ _ hG)).trans hG
  clear hG
  go_enter Try.func37, Try.ntmps37
  go_wp2
  refine wp_loop_rounds 1 ?_
  rw [rounds_succ]
  go_wp2
  refine bodyPost_ret (results_tmp rfl _ _ _) rfl ⟨rfl, ?_⟩
  repeat (first | exact Below.refl _ _ | apply below_alloc | apply pw_below_drewN | apply below_drew1)

end Go.Proofs.Ytlipkhhpjelicaa.PA
