/- words.written walked by hand, a theorem for each kind of token: the text, and whether it is one. Conditions: the callees' answers (hypotheses), the tables ('Tabs'). -/
import Derived.Test.YtjlclkenfmbahaaGreatDoorMQ
import Derived.BigRegion
import Derived.RegionTactic
import Derived.ChangeAlike
import Derived.BigQuiet
import Derived.Test.YtjlclkenfmbahaaGreatDoorMPAx0
import Derived.Test.YtjlclkenfmbahaaGreatDoorML
import Derived.Test.YtjlclkenfmbahaaGreatDoorMPAx39
import Derived.Test.YtjlclkenfmbahaaGreatDoorMPAx47
namespace Go.Proofs.YtjlclkenfmbahaaGreatDoor.PA
open Go.RowKit Go.Proofs.YtjlclkenfmbahaaGreatDoorW.PrintWords Go.Proofs.YtjlclkenfmbahaaGreatDoorW.PrintLast Go.Proofs.YtjlclkenfmbahaaGreatDoorW.PrintMore
attribute [local go_sem high] eqA57
set_option linter.unusedVariables false
set_option linter.unusedSimpArgs false
theorem w3_a (w : World) (a b c : Obj) : (((w.alloc a).alloc b).alloc c).heap[w.heap.size]? = some a :=
 (Below.heap_alloc _ _ _ (by simp; omega)).trans ((Below.heap_alloc _ _ _ (by simp)).trans (heap_alloc_new w _))
theorem w3_b (w : World) (a b c : Obj) : (((w.alloc a).alloc b).alloc c).heap[w.heap.size + 1]? = some b := by
 refine (Below.heap_alloc _ _ _ (by simp)).trans ?_
 have h := heap_alloc_new (w.alloc a) b
 rwa [World.size_alloc] at h
theorem w3_c (w : World) (a b c : Obj) : (((w.alloc a).alloc b).alloc c).heap[w.heap.size + 1 + 1]? = some c := by
 have h := heap_alloc_new ((w.alloc a).alloc b) c
 rwa [World.size_alloc, World.size_alloc] at h
theorem w3_low (w : World) (a b c : Obj) : Below w.heap.size w (((w.alloc a).alloc b).alloc c) := below_alloc (below_alloc (below_alloc (Below.refl w.heap.size w) a) b) c
theorem w3_sz (w : World) (a b c : Obj) : w.heap.size ≤ (((w.alloc a).alloc b).alloc c).heap.size := by simp; omega
abbrev tokA (n f1 : Int) (f2 : ByteArray) (f3 f4 : Int) : Array Value := #[.int .i64 n, .int .i64 f1, .string f2, .int .i64 f3, .int .i64 f4]
set_option maxRecDepth 100000 in
set_option maxHeartbeats 1000000 in
theorem written_1 (f1 f3 f4 : Int) (f2 : ByteArray) (w : World) (hT : Tabs w) (k : Nat) (r : Bool) (h : words_named.f k f2 = some r) :
  Calls Tryz.prog 16 #[.agg (tokA 1 f1 f2 f3 f4)] w fun e w' => e = .returned (.tuple #[.string f2, .bool (r && (f3 == 0 && f4 == 0))]) ∧ Below w.heap.size w w' := by
 have HT := Aside0.mk hT
 clear hT
 have H := Aside0.mk h
 clear h
 cases r
 all_goals
  go_enter Tryz.func16, Tryz.ntmps16
  go_wp2
  go_quiet (first | (go_at_call 75; refine Calls.quiet_of ((words_named.calls k f2 _ _ ((HT.out.below (w3_low w _ _ _)).drewN _) H.out).mono fun _ _ h_ => ⟨h_.1, h_.2.out⟩)))
  go_wp2
  repeat (go_quiet (fail); try go_wp2)
  go_ret2
  exact ⟨by first | rfl | (simp; done), by repeat (first | exact w3_low w _ _ _ | apply pw_below_drewN)⟩
set_option maxRecDepth 100000 in
set_option maxHeartbeats 1000000 in
theorem written_7 (f1 f3 f4 : Int) (f2 : ByteArray) (w : World) (hT : Tabs w) (r : Bool) (h : words_signed.f f2 = some r) :
  Calls Tryz.prog 16 #[.agg (tokA 7 f1 f2 f3 f4)] w fun e w' => e = .returned (.tuple #[.string f2, .bool (r && (f3 == 0 && f4 == 0))]) ∧ Below w.heap.size w w' := by
 have HT := Aside0.mk hT
 clear hT
 have H := Aside0.mk h
 clear h
 cases r
 all_goals
  go_enter Tryz.func16, Tryz.ntmps16
  go_wp2
  go_quiet (first | (go_at_call 82; refine Calls.quiet_of ((words_signed.calls f2 _ _ ((HT.out.below (w3_low w _ _ _)).drewN _) H.out).mono fun _ _ h_ => ⟨h_.1, h_.2.out⟩)))
  go_wp2
  repeat (go_quiet (fail); try go_wp2)
  go_ret2
  exact ⟨by first | rfl | (simp; done), by repeat (first | exact w3_low w _ _ _ | apply pw_below_drewN)⟩
set_option maxRecDepth 100000 in
set_option maxHeartbeats 1000000 in
theorem written_8 (f1 f3 f4 : Int) (f2 : ByteArray) (w : World) (hT : Tabs w) :
  Calls Tryz.prog 16 #[.agg (tokA 8 f1 f2 f3 f4)] w fun e w' => e = .returned (.tuple #[.string ⟨#[10]⟩, .bool (f2.toList.isEmpty && (f3 == 0 && f4 == 0))]) ∧ Below w.heap.size w w' := by
 have HT := Aside0.mk hT
 clear hT
 go_enter Tryz.func16, Tryz.ntmps16
 ·go_wp2
  repeat (go_quiet (fail); try go_wp2)
  go_ret2
  exact ⟨by first | rfl | (simp; done), by repeat (first | exact w3_low w _ _ _ | apply pw_below_drewN)⟩
set_option maxRecDepth 100000 in
set_option maxHeartbeats 1000000 in
theorem written_2 (f1 f3 f4 : Int) (f2 : ByteArray) (w : World) (hT : Tabs w) (k : Nat) (r : ByteArray) (h : words_Amount.f k f3 = some r) :
  Calls Tryz.prog 16 #[.agg (tokA 2 f1 f2 f3 f4)] w fun e w' => e = .returned (.tuple #[.string r, .bool ((decide (0 ≤ f3) && decide (f3 ≤ 9999999999999)) && (f2.toList.isEmpty && f4 == 0))]) ∧ Below w.heap.size w w' := by
 have HT := Aside0.mk hT
 clear hT
 have H := Aside0.mk h
 clear h
 by_cases g1 : 0 ≤ f3
 ·have d1 : decide (0 ≤ f3) = true := decide_eq_true g1
  by_cases g2 : f3 ≤ 9999999999999
  ·have d2 : decide (f3 ≤ 9999999999999) = true := decide_eq_true g2
   clear g1 g2
   rw [d1, d2]
   go_enter Tryz.func16, Tryz.ntmps16
   go_wp2
   refine start_ (n := 13) (S := fun w' => w'.cell? ⟨w.heap.size, 3, none⟩ = some (.int .i64 f3)) (ds := []) #[false, false, false, false, false, false, false, false, false, false, false, false, false] (by kernel_rfl) rfl rfl (((blk_cell (blk_drew (w3_a w _ _ _)) 3).trans rfl)) (fun hHeld => ?_)
   refine pure_ (i := 0) (N := some 30) (v := ?_) (a' := ?_) #[true, false, false, false, false, false, false, false, false, false, false, false, false] rfl rfl (by kernel_rfl) (fun _ _ _ h => h) (Or.inl ⟨by rfl, ?_⟩) ?_ ?_
   rotate_left
   ·intro w'
    go_simp
    with_reducible rfl
   rotate_left
   ·simp only [Act.put, List.setIfInBounds_toArray, List.set_cons_zero, List.set_cons_succ, i64_w, i32_w]
    rfl
   refine pure_ (i := 3) (N := some 33) (v := ?_) (a' := ?_) #[true, false, false, true, false, false, false, false, false, false, false, false, false] rfl rfl (by kernel_rfl) (fun _ _ _ h => h) (Or.inl ⟨by rfl, ?_⟩) ?_ ?_
   rotate_left
   ·intro w'
    go_simp
    with_reducible rfl
   rotate_left
   ·simp only [Act.put, List.setIfInBounds_toArray, List.set_cons_zero, List.set_cons_succ, i64_w, i32_w]
    rfl
   refine take_ (i := 1) (N := some 31) (v := ?_) (a' := ?_) #[true, true, false, true, false, false, false, false, false, false, false, false, false] rfl rfl (by kernel_rfl) (fun _ _ _ h => h) (Or.inl ⟨by rfl, ?_⟩) hHeld ?_ ?_
   rotate_left
   ·intro w' s0
    go_simp
    with_reducible rfl
   rotate_left
   ·simp only [Act.put, List.setIfInBounds_toArray, List.set_cons_zero, List.set_cons_succ, i64_w, i32_w]
    rfl
   refine take_ (i := 4) (N := some 34) (v := ?_) (a' := ?_) #[true, true, false, true, true, false, false, false, false, false, false, false, false] rfl rfl (by kernel_rfl) (fun _ _ _ h => h) (Or.inl ⟨by rfl, ?_⟩) hHeld ?_ ?_
   rotate_left
   ·intro w' s0
    go_simp
    with_reducible rfl
   rotate_left
   ·simp only [Act.put, List.setIfInBounds_toArray, List.set_cons_zero, List.set_cons_succ, i64_w, i32_w]
    rfl
   refine pure_ (i := 5) (N := some 35) (v := ?_) (a' := ?_) #[true, true, false, true, true, true, false, false, false, false, false, false, false] rfl rfl (by kernel_rfl) (fun _ _ _ h => h) (Or.inl ⟨by rfl, ?_⟩) ?_ ?_
   rotate_left
   ·intro w'
    go_simp
    with_reducible rfl
   rotate_left
   ·simp only [Act.put, List.setIfInBounds_toArray, List.set_cons_zero, List.set_cons_succ, i64_w, i32_w]
    rfl
   refine one_ (i := 2) (N := some 32) #[true, true, true, true, true, true, false, false, false, false, false, false, false] rfl rfl (by kernel_rfl) (by decide) (fun K hK => ?_)
   refine goes_ Tryz.func76 (by kernel_rfl) rfl #[.int .i64 f3] (by rfl) rfl rfl (by simp only [List.map_toArray, List.map_cons, List.map_nil]; rfl) ?_
   with_reducible refine ((words_Amount.calls k f3 r _ (HT.out.below (w3_low w _ _ _)).drew H.out)).mono ?_
   rintro e w3 ⟨rfl, hb3⟩
   refine ⟨_, rfl, ?_⟩
   have SA := Aside0.mk (blk_below (blk_drew (w3_a w _ _ _)) hb3)
   have SB := Aside0.mk (blk_below (blk_drew (w3_b w _ _ _)) hb3)
   have SC := Aside0.mk (blk_below (blk_drew (w3_c w _ _ _)) hb3)
   have SL := Aside0.mk ((below_drew1 (w3_low w _ _ _)).trans (hb3.mono (w3_sz w _ _ _)))
   clear hb3
   have a3 := (blk_cell SA.out 3).trans (show _ = some (Value.int .i64 f3) from rfl)
   refine hK.out _ _ (a3) (fun hHeld => ?_)
   clear hK K
   refine norm_ (a' := ?_) ?_ ?_
   rotate_left
   ·show Act.put _ (some 32) _ = _
    simp only [Act.put, List.setIfInBounds_toArray, List.set_cons_zero, List.set_cons_succ, i64_w, i32_w]
    rfl
   refine pure_ (i := 6) (N := some 36) (v := ?_) (a' := ?_) #[true, true, true, true, true, true, true, false, false, false, false, false, false] rfl rfl (by kernel_rfl) (fun _ _ _ h => h) (Or.inl ⟨by rfl, ?_⟩) ?_ ?_
   rotate_left
   ·intro w'
    go_simp
    with_reducible rfl
   rotate_left
   ·simp only [Act.put, List.setIfInBounds_toArray, List.set_cons_zero, List.set_cons_succ, i64_w, i32_w]
    rfl
   refine pure_ (i := 7) (N := some 37) (v := ?_) (a' := ?_) #[true, true, true, true, true, true, true, true, false, false, false, false, false] rfl rfl (by kernel_rfl) (fun _ _ _ h => h) (Or.inl ⟨by rfl, ?_⟩) ?_ ?_
   rotate_left
   ·intro w'
    go_simp
    with_reducible rfl
   rotate_left
   ·simp only [Act.put, List.setIfInBounds_toArray, List.set_cons_zero, List.set_cons_succ, i64_w, i32_w]
    rfl
   refine pure_ (i := 11) (N := some 6) (v := ?_) (a' := ?_) #[true, true, true, true, true, true, true, true, false, false, false, true, false] rfl rfl (by kernel_rfl) (fun _ _ _ h => h) (Or.inl ⟨by rfl, ?_⟩) ?_ ?_
   rotate_left
   ·intro w'
    go_simp
    with_reducible rfl
   rotate_left
   ·simp only [Act.put, List.setIfInBounds_toArray, List.set_cons_zero, List.set_cons_succ, i64_w, i32_w]
    rfl
   refine take_ (i := 8) (N := some 38) (v := ?_) (a' := ?_) #[true, true, true, true, true, true, true, true, true, false, false, true, false] rfl rfl (by kernel_rfl) (fun _ _ _ h => h) (Or.inl ⟨by rfl, ?_⟩) hHeld ?_ ?_
   rotate_left
   ·intro w' s0
    go_simp
    with_reducible rfl
   rotate_left
   ·simp only [Act.put, List.setIfInBounds_toArray, List.set_cons_zero, List.set_cons_succ, i64_w, i32_w]
    rfl
   refine pure_ (i := 9) (N := some 39) (v := ?_) (a' := ?_) #[true, true, true, true, true, true, true, true, true, true, false, true, false] rfl rfl (by kernel_rfl) (fun _ _ _ h => h) (Or.inl ⟨by rfl, ?_⟩) ?_ ?_
   rotate_left
   ·intro w'
    go_simp
    with_reducible rfl
   rotate_left
   ·simp only [Act.put, List.setIfInBounds_toArray, List.set_cons_zero, List.set_cons_succ, i64_w, i32_w]
    rfl
   refine pure_ (i := 10) (N := some 40) (v := ?_) (a' := ?_) #[true, true, true, true, true, true, true, true, true, true, true, true, false] rfl rfl (by kernel_rfl) (fun _ _ _ h => h) (Or.inl ⟨by rfl, ?_⟩) ?_ ?_
   rotate_left
   ·intro w'
    go_simp
    with_reducible rfl
   rotate_left
   ·simp only [Act.put, List.setIfInBounds_toArray, List.set_cons_zero, List.set_cons_succ, i64_w, i32_w]
    rfl
   refine pure_ (i := 12) (N := some 7) (v := ?_) (a' := ?_) #[true, true, true, true, true, true, true, true, true, true, true, true, true] rfl rfl (by kernel_rfl) (fun _ _ _ h => h) (Or.inl ⟨by rfl, ?_⟩) ?_ ?_
   rotate_left
   ·intro w'
    go_simp
    with_reducible rfl
   rotate_left
   ·simp only [Act.put, List.setIfInBounds_toArray, List.set_cons_zero, List.set_cons_succ, i64_w, i32_w]
    rfl
   refine done_ (by kernel_rfl) ?_
   clear a3
   have b0 := (blk_cell SB.out 0).trans rfl
   have b1 := (blk_cell SB.out 1).trans rfl
   have b2 := (blk_cell SB.out 2).trans rfl
   have b3 := (blk_cell SB.out 3).trans rfl
   have b4 := (blk_cell SB.out 4).trans rfl
   have c0 := (blk_cell SC.out 0).trans rfl
   have c1 := (blk_cell SC.out 1).trans rfl
   have c2 := (blk_cell SC.out 2).trans rfl
   have c3 := (blk_cell SC.out 3).trans rfl
   have c4 := (blk_cell SC.out 4).trans rfl
   go_wp2
   repeat (go_quiet (fail); try go_wp2)
   go_ret2
   exact ⟨by first | rfl | (simp; done) | (simp [*]; done), by repeat (first | exact SL.out | apply pw_below_drewN | apply below_drew1)⟩
  ·have d2 : decide (f3 ≤ 9999999999999) = false := decide_eq_false g2
   clear g1 g2
   rw [d1, d2]
   go_enter Tryz.func16, Tryz.ntmps16
   go_wp2
   refine start_ (n := 13) (S := fun w' => w'.cell? ⟨w.heap.size, 3, none⟩ = some (.int .i64 f3)) (ds := []) #[false, false, false, false, false, false, false, false, false, false, false, false, false] (by kernel_rfl) rfl rfl (((blk_cell (blk_drew (w3_a w _ _ _)) 3).trans rfl)) (fun hHeld => ?_)
   refine pure_ (i := 0) (N := some 30) (v := ?_) (a' := ?_) #[true, false, false, false, false, false, false, false, false, false, false, false, false] rfl rfl (by kernel_rfl) (fun _ _ _ h => h) (Or.inl ⟨by rfl, ?_⟩) ?_ ?_
   rotate_left
   ·intro w'
    go_simp
    with_reducible rfl
   rotate_left
   ·simp only [Act.put, List.setIfInBounds_toArray, List.set_cons_zero, List.set_cons_succ, i64_w, i32_w]
    rfl
   refine pure_ (i := 3) (N := some 33) (v := ?_) (a' := ?_) #[true, false, false, true, false, false, false, false, false, false, false, false, false] rfl rfl (by kernel_rfl) (fun _ _ _ h => h) (Or.inl ⟨by rfl, ?_⟩) ?_ ?_
   rotate_left
   ·intro w'
    go_simp
    with_reducible rfl
   rotate_left
   ·simp only [Act.put, List.setIfInBounds_toArray, List.set_cons_zero, List.set_cons_succ, i64_w, i32_w]
    rfl
   refine take_ (i := 1) (N := some 31) (v := ?_) (a' := ?_) #[true, true, false, true, false, false, false, false, false, false, false, false, false] rfl rfl (by kernel_rfl) (fun _ _ _ h => h) (Or.inl ⟨by rfl, ?_⟩) hHeld ?_ ?_
   rotate_left
   ·intro w' s0
    go_simp
    with_reducible rfl
   rotate_left
   ·simp only [Act.put, List.setIfInBounds_toArray, List.set_cons_zero, List.set_cons_succ, i64_w, i32_w]
    rfl
   refine take_ (i := 4) (N := some 34) (v := ?_) (a' := ?_) #[true, true, false, true, true, false, false, false, false, false, false, false, false] rfl rfl (by kernel_rfl) (fun _ _ _ h => h) (Or.inl ⟨by rfl, ?_⟩) hHeld ?_ ?_
   rotate_left
   ·intro w' s0
    go_simp
    with_reducible rfl
   rotate_left
   ·simp only [Act.put, List.setIfInBounds_toArray, List.set_cons_zero, List.set_cons_succ, i64_w, i32_w]
    rfl
   refine pure_ (i := 5) (N := some 35) (v := ?_) (a' := ?_) #[true, true, false, true, true, true, false, false, false, false, false, false, false] rfl rfl (by kernel_rfl) (fun _ _ _ h => h) (Or.inl ⟨by rfl, ?_⟩) ?_ ?_
   rotate_left
   ·intro w'
    go_simp
    with_reducible rfl
   rotate_left
   ·simp only [Act.put, List.setIfInBounds_toArray, List.set_cons_zero, List.set_cons_succ, i64_w, i32_w]
    rfl
   refine one_ (i := 2) (N := some 32) #[true, true, true, true, true, true, false, false, false, false, false, false, false] rfl rfl (by kernel_rfl) (by decide) (fun K hK => ?_)
   refine goes_ Tryz.func76 (by kernel_rfl) rfl #[.int .i64 f3] (by rfl) rfl rfl (by simp only [List.map_toArray, List.map_cons, List.map_nil]; rfl) ?_
   with_reducible refine ((words_Amount.calls k f3 r _ (HT.out.below (w3_low w _ _ _)).drew H.out)).mono ?_
   rintro e w3 ⟨rfl, hb3⟩
   refine ⟨_, rfl, ?_⟩
   have SA := Aside0.mk (blk_below (blk_drew (w3_a w _ _ _)) hb3)
   have SB := Aside0.mk (blk_below (blk_drew (w3_b w _ _ _)) hb3)
   have SC := Aside0.mk (blk_below (blk_drew (w3_c w _ _ _)) hb3)
   have SL := Aside0.mk ((below_drew1 (w3_low w _ _ _)).trans (hb3.mono (w3_sz w _ _ _)))
   clear hb3
   have a3 := (blk_cell SA.out 3).trans (show _ = some (Value.int .i64 f3) from rfl)
   refine hK.out _ _ (a3) (fun hHeld => ?_)
   clear hK K
   refine norm_ (a' := ?_) ?_ ?_
   rotate_left
   ·show Act.put _ (some 32) _ = _
    simp only [Act.put, List.setIfInBounds_toArray, List.set_cons_zero, List.set_cons_succ, i64_w, i32_w]
    rfl
   refine pure_ (i := 6) (N := some 36) (v := ?_) (a' := ?_) #[true, true, true, true, true, true, true, false, false, false, false, false, false] rfl rfl (by kernel_rfl) (fun _ _ _ h => h) (Or.inl ⟨by rfl, ?_⟩) ?_ ?_
   rotate_left
   ·intro w'
    go_simp
    with_reducible rfl
   rotate_left
   ·simp only [Act.put, List.setIfInBounds_toArray, List.set_cons_zero, List.set_cons_succ, i64_w, i32_w]
    rfl
   refine pure_ (i := 7) (N := some 37) (v := ?_) (a' := ?_) #[true, true, true, true, true, true, true, true, false, false, false, false, false] rfl rfl (by kernel_rfl) (fun _ _ _ h => h) (Or.inl ⟨by rfl, ?_⟩) ?_ ?_
   rotate_left
   ·intro w'
    go_simp
    with_reducible rfl
   rotate_left
   ·simp only [Act.put, List.setIfInBounds_toArray, List.set_cons_zero, List.set_cons_succ, i64_w, i32_w]
    rfl
   refine pure_ (i := 11) (N := some 6) (v := ?_) (a' := ?_) #[true, true, true, true, true, true, true, true, false, false, false, true, false] rfl rfl (by kernel_rfl) (fun _ _ _ h => h) (Or.inl ⟨by rfl, ?_⟩) ?_ ?_
   rotate_left
   ·intro w'
    go_simp
    with_reducible rfl
   rotate_left
   ·simp only [Act.put, List.setIfInBounds_toArray, List.set_cons_zero, List.set_cons_succ, i64_w, i32_w]
    rfl
   refine take_ (i := 8) (N := some 38) (v := ?_) (a' := ?_) #[true, true, true, true, true, true, true, true, true, false, false, true, false] rfl rfl (by kernel_rfl) (fun _ _ _ h => h) (Or.inl ⟨by rfl, ?_⟩) hHeld ?_ ?_
   rotate_left
   ·intro w' s0
    go_simp
    with_reducible rfl
   rotate_left
   ·simp only [Act.put, List.setIfInBounds_toArray, List.set_cons_zero, List.set_cons_succ, i64_w, i32_w]
    rfl
   refine pure_ (i := 9) (N := some 39) (v := ?_) (a' := ?_) #[true, true, true, true, true, true, true, true, true, true, false, true, false] rfl rfl (by kernel_rfl) (fun _ _ _ h => h) (Or.inl ⟨by rfl, ?_⟩) ?_ ?_
   rotate_left
   ·intro w'
    go_simp
    with_reducible rfl
   rotate_left
   ·simp only [Act.put, List.setIfInBounds_toArray, List.set_cons_zero, List.set_cons_succ, i64_w, i32_w]
    rfl
   refine pure_ (i := 10) (N := some 40) (v := ?_) (a' := ?_) #[true, true, true, true, true, true, true, true, true, true, true, true, false] rfl rfl (by kernel_rfl) (fun _ _ _ h => h) (Or.inl ⟨by rfl, ?_⟩) ?_ ?_
   rotate_left
   ·intro w'
    go_simp
    with_reducible rfl
   rotate_left
   ·simp only [Act.put, List.setIfInBounds_toArray, List.set_cons_zero, List.set_cons_succ, i64_w, i32_w]
    rfl
   refine pure_ (i := 12) (N := some 7) (v := ?_) (a' := ?_) #[true, true, true, true, true, true, true, true, true, true, true, true, true] rfl rfl (by kernel_rfl) (fun _ _ _ h => h) (Or.inl ⟨by rfl, ?_⟩) ?_ ?_
   rotate_left
   ·intro w'
    go_simp
    with_reducible rfl
   rotate_left
   ·simp only [Act.put, List.setIfInBounds_toArray, List.set_cons_zero, List.set_cons_succ, i64_w, i32_w]
    rfl
   refine done_ (by kernel_rfl) ?_
   clear a3
   have b0 := (blk_cell SB.out 0).trans rfl
   have b1 := (blk_cell SB.out 1).trans rfl
   have b2 := (blk_cell SB.out 2).trans rfl
   have b3 := (blk_cell SB.out 3).trans rfl
   have b4 := (blk_cell SB.out 4).trans rfl
   have c0 := (blk_cell SC.out 0).trans rfl
   have c1 := (blk_cell SC.out 1).trans rfl
   have c2 := (blk_cell SC.out 2).trans rfl
   have c3 := (blk_cell SC.out 3).trans rfl
   have c4 := (blk_cell SC.out 4).trans rfl
   go_wp2
   repeat (go_quiet (fail); try go_wp2)
   go_ret2
   exact ⟨by first | rfl | (simp; done) | (simp [*]; done), by repeat (first | exact SL.out | apply pw_below_drewN | apply below_drew1)⟩
 ·have d1 : decide (0 ≤ f3) = false := decide_eq_false g1
  clear g1
  rw [d1]
  go_enter Tryz.func16, Tryz.ntmps16
  go_wp2
  refine start_ (n := 13) (S := fun w' => w'.cell? ⟨w.heap.size, 3, none⟩ = some (.int .i64 f3)) (ds := []) #[false, false, false, false, false, false, false, false, false, false, false, false, false] (by kernel_rfl) rfl rfl (((blk_cell (blk_drew (w3_a w _ _ _)) 3).trans rfl)) (fun hHeld => ?_)
  refine pure_ (i := 0) (N := some 30) (v := ?_) (a' := ?_) #[true, false, false, false, false, false, false, false, false, false, false, false, false] rfl rfl (by kernel_rfl) (fun _ _ _ h => h) (Or.inl ⟨by rfl, ?_⟩) ?_ ?_
  rotate_left
  ·intro w'
   go_simp
   with_reducible rfl
  rotate_left
  ·simp only [Act.put, List.setIfInBounds_toArray, List.set_cons_zero, List.set_cons_succ, i64_w, i32_w]
   rfl
  refine pure_ (i := 3) (N := some 33) (v := ?_) (a' := ?_) #[true, false, false, true, false, false, false, false, false, false, false, false, false] rfl rfl (by kernel_rfl) (fun _ _ _ h => h) (Or.inl ⟨by rfl, ?_⟩) ?_ ?_
  rotate_left
  ·intro w'
   go_simp
   with_reducible rfl
  rotate_left
  ·simp only [Act.put, List.setIfInBounds_toArray, List.set_cons_zero, List.set_cons_succ, i64_w, i32_w]
   rfl
  refine take_ (i := 1) (N := some 31) (v := ?_) (a' := ?_) #[true, true, false, true, false, false, false, false, false, false, false, false, false] rfl rfl (by kernel_rfl) (fun _ _ _ h => h) (Or.inl ⟨by rfl, ?_⟩) hHeld ?_ ?_
  rotate_left
  ·intro w' s0
   go_simp
   with_reducible rfl
  rotate_left
  ·simp only [Act.put, List.setIfInBounds_toArray, List.set_cons_zero, List.set_cons_succ, i64_w, i32_w]
   rfl
  refine take_ (i := 4) (N := some 34) (v := ?_) (a' := ?_) #[true, true, false, true, true, false, false, false, false, false, false, false, false] rfl rfl (by kernel_rfl) (fun _ _ _ h => h) (Or.inl ⟨by rfl, ?_⟩) hHeld ?_ ?_
  rotate_left
  ·intro w' s0
   go_simp
   with_reducible rfl
  rotate_left
  ·simp only [Act.put, List.setIfInBounds_toArray, List.set_cons_zero, List.set_cons_succ, i64_w, i32_w]
   rfl
  refine pure_ (i := 5) (N := some 35) (v := ?_) (a' := ?_) #[true, true, false, true, true, true, false, false, false, false, false, false, false] rfl rfl (by kernel_rfl) (fun _ _ _ h => h) (Or.inl ⟨by rfl, ?_⟩) ?_ ?_
  rotate_left
  ·intro w'
   go_simp
   with_reducible rfl
  rotate_left
  ·simp only [Act.put, List.setIfInBounds_toArray, List.set_cons_zero, List.set_cons_succ, i64_w, i32_w]
   rfl
  refine one_ (i := 2) (N := some 32) #[true, true, true, true, true, true, false, false, false, false, false, false, false] rfl rfl (by kernel_rfl) (by decide) (fun K hK => ?_)
  refine goes_ Tryz.func76 (by kernel_rfl) rfl #[.int .i64 f3] (by rfl) rfl rfl (by simp only [List.map_toArray, List.map_cons, List.map_nil]; rfl) ?_
  with_reducible refine ((words_Amount.calls k f3 r _ (HT.out.below (w3_low w _ _ _)).drew H.out)).mono ?_
  rintro e w3 ⟨rfl, hb3⟩
  refine ⟨_, rfl, ?_⟩
  have SA := Aside0.mk (blk_below (blk_drew (w3_a w _ _ _)) hb3)
  have SB := Aside0.mk (blk_below (blk_drew (w3_b w _ _ _)) hb3)
  have SC := Aside0.mk (blk_below (blk_drew (w3_c w _ _ _)) hb3)
  have SL := Aside0.mk ((below_drew1 (w3_low w _ _ _)).trans (hb3.mono (w3_sz w _ _ _)))
  clear hb3
  have a3 := (blk_cell SA.out 3).trans (show _ = some (Value.int .i64 f3) from rfl)
  refine hK.out _ _ (a3) (fun hHeld => ?_)
  clear hK K
  refine norm_ (a' := ?_) ?_ ?_
  rotate_left
  ·show Act.put _ (some 32) _ = _
   simp only [Act.put, List.setIfInBounds_toArray, List.set_cons_zero, List.set_cons_succ, i64_w, i32_w]
   rfl
  refine pure_ (i := 6) (N := some 36) (v := ?_) (a' := ?_) #[true, true, true, true, true, true, true, false, false, false, false, false, false] rfl rfl (by kernel_rfl) (fun _ _ _ h => h) (Or.inl ⟨by rfl, ?_⟩) ?_ ?_
  rotate_left
  ·intro w'
   go_simp
   with_reducible rfl
  rotate_left
  ·simp only [Act.put, List.setIfInBounds_toArray, List.set_cons_zero, List.set_cons_succ, i64_w, i32_w]
   rfl
  refine pure_ (i := 7) (N := some 37) (v := undef) (a' := ?_) #[true, true, true, true, true, true, true, true, false, false, false, false, false] rfl rfl (by kernel_rfl) (fun _ _ _ h => h) (Or.inr ⟨by rfl, rfl⟩) ?_ ?_
  rotate_left
  ·simp only [Act.put, List.setIfInBounds_toArray, List.set_cons_zero, List.set_cons_succ, i64_w, i32_w]
   rfl
  refine pure_ (i := 8) (N := some 38) (v := undef) (a' := ?_) #[true, true, true, true, true, true, true, true, true, false, false, false, false] rfl rfl (by kernel_rfl) (fun _ _ _ h => h) (Or.inr ⟨by rfl, rfl⟩) ?_ ?_
  rotate_left
  ·simp only [Act.put, List.setIfInBounds_toArray, List.set_cons_zero, List.set_cons_succ, i64_w, i32_w]
   rfl
  refine pure_ (i := 9) (N := some 39) (v := undef) (a' := ?_) #[true, true, true, true, true, true, true, true, true, true, false, false, false] rfl rfl (by kernel_rfl) (fun _ _ _ h => h) (Or.inr ⟨by rfl, rfl⟩) ?_ ?_
  rotate_left
  ·simp only [Act.put, List.setIfInBounds_toArray, List.set_cons_zero, List.set_cons_succ, i64_w, i32_w]
   rfl
  refine pure_ (i := 10) (N := some 40) (v := ?_) (a' := ?_) #[true, true, true, true, true, true, true, true, true, true, true, false, false] rfl rfl (by kernel_rfl) (fun _ _ _ h => h) (Or.inl ⟨by rfl, ?_⟩) ?_ ?_
  rotate_left
  ·intro w'
   go_simp
   with_reducible rfl
  rotate_left
  ·simp only [Act.put, List.setIfInBounds_toArray, List.set_cons_zero, List.set_cons_succ, i64_w, i32_w]
   rfl
  refine pure_ (i := 11) (N := some 6) (v := ?_) (a' := ?_) #[true, true, true, true, true, true, true, true, true, true, true, true, false] rfl rfl (by kernel_rfl) (fun _ _ _ h => h) (Or.inl ⟨by rfl, ?_⟩) ?_ ?_
  rotate_left
  ·intro w'
   go_simp
   with_reducible rfl
  rotate_left
  ·simp only [Act.put, List.setIfInBounds_toArray, List.set_cons_zero, List.set_cons_succ, i64_w, i32_w]
   rfl
  refine pure_ (i := 12) (N := some 7) (v := ?_) (a' := ?_) #[true, true, true, true, true, true, true, true, true, true, true, true, true] rfl rfl (by kernel_rfl) (fun _ _ _ h => h) (Or.inl ⟨by rfl, ?_⟩) ?_ ?_
  rotate_left
  ·intro w'
   go_simp
   with_reducible rfl
  rotate_left
  ·simp only [Act.put, List.setIfInBounds_toArray, List.set_cons_zero, List.set_cons_succ, i64_w, i32_w]
   rfl
  refine done_ (by kernel_rfl) ?_
  clear a3
  have b0 := (blk_cell SB.out 0).trans rfl
  have b1 := (blk_cell SB.out 1).trans rfl
  have b2 := (blk_cell SB.out 2).trans rfl
  have b3 := (blk_cell SB.out 3).trans rfl
  have b4 := (blk_cell SB.out 4).trans rfl
  have c0 := (blk_cell SC.out 0).trans rfl
  have c1 := (blk_cell SC.out 1).trans rfl
  have c2 := (blk_cell SC.out 2).trans rfl
  have c3 := (blk_cell SC.out 3).trans rfl
  have c4 := (blk_cell SC.out 4).trans rfl
  go_wp2
  repeat (go_quiet (fail); try go_wp2)
  go_ret2
  exact ⟨by first | rfl | (simp; done) | (simp [*]; done), by repeat (first | exact SL.out | apply pw_below_drewN | apply below_drew1)⟩
set_option maxRecDepth 100000 in
set_option maxHeartbeats 1000000 in
theorem written_3 (f1 f3 f4 : Int) (f2 : ByteArray) (w : World) (hT : Tabs w) (r : ByteArray) (h : strconv_FormatInt_77.f f3 10 = some r) :
  Calls Tryz.prog 16 #[.agg (tokA 3 f1 f2 f3 f4)] w fun e w' => e = .returned (.tuple #[.string r, .bool ((decide (0 ≤ f3) && decide (f3 ≤ 1000000000)) && (f2.toList.isEmpty && f4 == 0))]) ∧ Below w.heap.size w w' := by
 have HT := Aside0.mk hT
 clear hT
 have H := Aside0.mk h
 clear h
 by_cases g1 : 0 ≤ f3
 ·have d1 : decide (0 ≤ f3) = true := decide_eq_true g1
  by_cases g2 : f3 ≤ 1000000000
  ·have d2 : decide (f3 ≤ 1000000000) = true := decide_eq_true g2
   clear g1 g2
   rw [d1, d2]
   go_enter Tryz.func16, Tryz.ntmps16
   go_wp2
   refine start_ (n := 13) (S := fun w' => w'.cell? ⟨w.heap.size, 3, none⟩ = some (.int .i64 f3)) (ds := []) #[false, false, false, false, false, false, false, false, false, false, false, false, false] (by kernel_rfl) rfl rfl (((blk_cell (blk_drew (w3_a w _ _ _)) 3).trans rfl)) (fun hHeld => ?_)
   refine pure_ (i := 0) (N := some 46) (v := ?_) (a' := ?_) #[true, false, false, false, false, false, false, false, false, false, false, false, false] rfl rfl (by kernel_rfl) (fun _ _ _ h => h) (Or.inl ⟨by rfl, ?_⟩) ?_ ?_
   rotate_left
   ·intro w'
    go_simp
    with_reducible rfl
   rotate_left
   ·simp only [Act.put, List.setIfInBounds_toArray, List.set_cons_zero, List.set_cons_succ, i64_w, i32_w]
    rfl
   refine pure_ (i := 3) (N := some 49) (v := ?_) (a' := ?_) #[true, false, false, true, false, false, false, false, false, false, false, false, false] rfl rfl (by kernel_rfl) (fun _ _ _ h => h) (Or.inl ⟨by rfl, ?_⟩) ?_ ?_
   rotate_left
   ·intro w'
    go_simp
    with_reducible rfl
   rotate_left
   ·simp only [Act.put, List.setIfInBounds_toArray, List.set_cons_zero, List.set_cons_succ, i64_w, i32_w]
    rfl
   refine take_ (i := 1) (N := some 47) (v := ?_) (a' := ?_) #[true, true, false, true, false, false, false, false, false, false, false, false, false] rfl rfl (by kernel_rfl) (fun _ _ _ h => h) (Or.inl ⟨by rfl, ?_⟩) hHeld ?_ ?_
   rotate_left
   ·intro w' s0
    go_simp
    with_reducible rfl
   rotate_left
   ·simp only [Act.put, List.setIfInBounds_toArray, List.set_cons_zero, List.set_cons_succ, i64_w, i32_w]
    rfl
   refine take_ (i := 4) (N := some 50) (v := ?_) (a' := ?_) #[true, true, false, true, true, false, false, false, false, false, false, false, false] rfl rfl (by kernel_rfl) (fun _ _ _ h => h) (Or.inl ⟨by rfl, ?_⟩) hHeld ?_ ?_
   rotate_left
   ·intro w' s0
    go_simp
    with_reducible rfl
   rotate_left
   ·simp only [Act.put, List.setIfInBounds_toArray, List.set_cons_zero, List.set_cons_succ, i64_w, i32_w]
    rfl
   refine pure_ (i := 5) (N := some 51) (v := ?_) (a' := ?_) #[true, true, false, true, true, true, false, false, false, false, false, false, false] rfl rfl (by kernel_rfl) (fun _ _ _ h => h) (Or.inl ⟨by rfl, ?_⟩) ?_ ?_
   rotate_left
   ·intro w'
    go_simp
    with_reducible rfl
   rotate_left
   ·simp only [Act.put, List.setIfInBounds_toArray, List.set_cons_zero, List.set_cons_succ, i64_w, i32_w]
    rfl
   refine one_ (i := 2) (N := some 48) #[true, true, true, true, true, true, false, false, false, false, false, false, false] rfl rfl (by kernel_rfl) (by decide) (fun K hK => ?_)
   refine goes_ Tryz.func77 (by kernel_rfl) rfl #[.int .i64 f3, .int .i64 10] (by rfl) rfl rfl (by simp only [List.map_toArray, List.map_cons, List.map_nil]; rfl) ?_
   with_reducible refine ((strconv_FormatInt_77.calls f3 10 r _ (HT.out.below (w3_low w _ _ _)).drew H.out)).mono ?_
   rintro e w3 ⟨rfl, hb3⟩
   refine ⟨_, rfl, ?_⟩
   have SA := Aside0.mk (blk_below (blk_drew (w3_a w _ _ _)) hb3)
   have SB := Aside0.mk (blk_below (blk_drew (w3_b w _ _ _)) hb3)
   have SC := Aside0.mk (blk_below (blk_drew (w3_c w _ _ _)) hb3)
   have SL := Aside0.mk ((below_drew1 (w3_low w _ _ _)).trans (hb3.mono (w3_sz w _ _ _)))
   clear hb3
   have a3 := (blk_cell SA.out 3).trans (show _ = some (Value.int .i64 f3) from rfl)
   refine hK.out _ _ (a3) (fun hHeld => ?_)
   clear hK K
   refine norm_ (a' := ?_) ?_ ?_
   rotate_left
   ·show Act.put _ (some 48) _ = _
    simp only [Act.put, List.setIfInBounds_toArray, List.set_cons_zero, List.set_cons_succ, i64_w, i32_w]
    rfl
   refine pure_ (i := 6) (N := some 52) (v := ?_) (a' := ?_) #[true, true, true, true, true, true, true, false, false, false, false, false, false] rfl rfl (by kernel_rfl) (fun _ _ _ h => h) (Or.inl ⟨by rfl, ?_⟩) ?_ ?_
   rotate_left
   ·intro w'
    go_simp
    with_reducible rfl
   rotate_left
   ·simp only [Act.put, List.setIfInBounds_toArray, List.set_cons_zero, List.set_cons_succ, i64_w, i32_w]
    rfl
   refine pure_ (i := 7) (N := some 53) (v := ?_) (a' := ?_) #[true, true, true, true, true, true, true, true, false, false, false, false, false] rfl rfl (by kernel_rfl) (fun _ _ _ h => h) (Or.inl ⟨by rfl, ?_⟩) ?_ ?_
   rotate_left
   ·intro w'
    go_simp
    with_reducible rfl
   rotate_left
   ·simp only [Act.put, List.setIfInBounds_toArray, List.set_cons_zero, List.set_cons_succ, i64_w, i32_w]
    rfl
   refine pure_ (i := 11) (N := some 6) (v := ?_) (a' := ?_) #[true, true, true, true, true, true, true, true, false, false, false, true, false] rfl rfl (by kernel_rfl) (fun _ _ _ h => h) (Or.inl ⟨by rfl, ?_⟩) ?_ ?_
   rotate_left
   ·intro w'
    go_simp
    with_reducible rfl
   rotate_left
   ·simp only [Act.put, List.setIfInBounds_toArray, List.set_cons_zero, List.set_cons_succ, i64_w, i32_w]
    rfl
   refine take_ (i := 8) (N := some 54) (v := ?_) (a' := ?_) #[true, true, true, true, true, true, true, true, true, false, false, true, false] rfl rfl (by kernel_rfl) (fun _ _ _ h => h) (Or.inl ⟨by rfl, ?_⟩) hHeld ?_ ?_
   rotate_left
   ·intro w' s0
    go_simp
    with_reducible rfl
   rotate_left
   ·simp only [Act.put, List.setIfInBounds_toArray, List.set_cons_zero, List.set_cons_succ, i64_w, i32_w]
    rfl
   refine pure_ (i := 9) (N := some 55) (v := ?_) (a' := ?_) #[true, true, true, true, true, true, true, true, true, true, false, true, false] rfl rfl (by kernel_rfl) (fun _ _ _ h => h) (Or.inl ⟨by rfl, ?_⟩) ?_ ?_
   rotate_left
   ·intro w'
    go_simp
    with_reducible rfl
   rotate_left
   ·simp only [Act.put, List.setIfInBounds_toArray, List.set_cons_zero, List.set_cons_succ, i64_w, i32_w]
    rfl
   refine pure_ (i := 10) (N := some 56) (v := ?_) (a' := ?_) #[true, true, true, true, true, true, true, true, true, true, true, true, false] rfl rfl (by kernel_rfl) (fun _ _ _ h => h) (Or.inl ⟨by rfl, ?_⟩) ?_ ?_
   rotate_left
   ·intro w'
    go_simp
    with_reducible rfl
   rotate_left
   ·simp only [Act.put, List.setIfInBounds_toArray, List.set_cons_zero, List.set_cons_succ, i64_w, i32_w]
    rfl
   refine pure_ (i := 12) (N := some 7) (v := ?_) (a' := ?_) #[true, true, true, true, true, true, true, true, true, true, true, true, true] rfl rfl (by kernel_rfl) (fun _ _ _ h => h) (Or.inl ⟨by rfl, ?_⟩) ?_ ?_
   rotate_left
   ·intro w'
    go_simp
    with_reducible rfl
   rotate_left
   ·simp only [Act.put, List.setIfInBounds_toArray, List.set_cons_zero, List.set_cons_succ, i64_w, i32_w]
    rfl
   refine done_ (by kernel_rfl) ?_
   clear a3
   have b0 := (blk_cell SB.out 0).trans rfl
   have b1 := (blk_cell SB.out 1).trans rfl
   have b2 := (blk_cell SB.out 2).trans rfl
   have b3 := (blk_cell SB.out 3).trans rfl
   have b4 := (blk_cell SB.out 4).trans rfl
   have c0 := (blk_cell SC.out 0).trans rfl
   have c1 := (blk_cell SC.out 1).trans rfl
   have c2 := (blk_cell SC.out 2).trans rfl
   have c3 := (blk_cell SC.out 3).trans rfl
   have c4 := (blk_cell SC.out 4).trans rfl
   go_wp2
   repeat (go_quiet (fail); try go_wp2)
   go_ret2
   exact ⟨by first | rfl | (simp; done) | (simp [*]; done), by repeat (first | exact SL.out | apply pw_below_drewN | apply below_drew1)⟩
  ·have d2 : decide (f3 ≤ 1000000000) = false := decide_eq_false g2
   clear g1 g2
   rw [d1, d2]
   go_enter Tryz.func16, Tryz.ntmps16
   go_wp2
   refine start_ (n := 13) (S := fun w' => w'.cell? ⟨w.heap.size, 3, none⟩ = some (.int .i64 f3)) (ds := []) #[false, false, false, false, false, false, false, false, false, false, false, false, false] (by kernel_rfl) rfl rfl (((blk_cell (blk_drew (w3_a w _ _ _)) 3).trans rfl)) (fun hHeld => ?_)
   refine pure_ (i := 0) (N := some 46) (v := ?_) (a' := ?_) #[true, false, false, false, false, false, false, false, false, false, false, false, false] rfl rfl (by kernel_rfl) (fun _ _ _ h => h) (Or.inl ⟨by rfl, ?_⟩) ?_ ?_
   rotate_left
   ·intro w'
    go_simp
    with_reducible rfl
   rotate_left
   ·simp only [Act.put, List.setIfInBounds_toArray, List.set_cons_zero, List.set_cons_succ, i64_w, i32_w]
    rfl
   refine pure_ (i := 3) (N := some 49) (v := ?_) (a' := ?_) #[true, false, false, true, false, false, false, false, false, false, false, false, false] rfl rfl (by kernel_rfl) (fun _ _ _ h => h) (Or.inl ⟨by rfl, ?_⟩) ?_ ?_
   rotate_left
   ·intro w'
    go_simp
    with_reducible rfl
   rotate_left
   ·simp only [Act.put, List.setIfInBounds_toArray, List.set_cons_zero, List.set_cons_succ, i64_w, i32_w]
    rfl
   refine take_ (i := 1) (N := some 47) (v := ?_) (a' := ?_) #[true, true, false, true, false, false, false, false, false, false, false, false, false] rfl rfl (by kernel_rfl) (fun _ _ _ h => h) (Or.inl ⟨by rfl, ?_⟩) hHeld ?_ ?_
   rotate_left
   ·intro w' s0
    go_simp
    with_reducible rfl
   rotate_left
   ·simp only [Act.put, List.setIfInBounds_toArray, List.set_cons_zero, List.set_cons_succ, i64_w, i32_w]
    rfl
   refine take_ (i := 4) (N := some 50) (v := ?_) (a' := ?_) #[true, true, false, true, true, false, false, false, false, false, false, false, false] rfl rfl (by kernel_rfl) (fun _ _ _ h => h) (Or.inl ⟨by rfl, ?_⟩) hHeld ?_ ?_
   rotate_left
   ·intro w' s0
    go_simp
    with_reducible rfl
   rotate_left
   ·simp only [Act.put, List.setIfInBounds_toArray, List.set_cons_zero, List.set_cons_succ, i64_w, i32_w]
    rfl
   refine pure_ (i := 5) (N := some 51) (v := ?_) (a' := ?_) #[true, true, false, true, true, true, false, false, false, false, false, false, false] rfl rfl (by kernel_rfl) (fun _ _ _ h => h) (Or.inl ⟨by rfl, ?_⟩) ?_ ?_
   rotate_left
   ·intro w'
    go_simp
    with_reducible rfl
   rotate_left
   ·simp only [Act.put, List.setIfInBounds_toArray, List.set_cons_zero, List.set_cons_succ, i64_w, i32_w]
    rfl
   refine one_ (i := 2) (N := some 48) #[true, true, true, true, true, true, false, false, false, false, false, false, false] rfl rfl (by kernel_rfl) (by decide) (fun K hK => ?_)
   refine goes_ Tryz.func77 (by kernel_rfl) rfl #[.int .i64 f3, .int .i64 10] (by rfl) rfl rfl (by simp only [List.map_toArray, List.map_cons, List.map_nil]; rfl) ?_
   with_reducible refine ((strconv_FormatInt_77.calls f3 10 r _ (HT.out.below (w3_low w _ _ _)).drew H.out)).mono ?_
   rintro e w3 ⟨rfl, hb3⟩
   refine ⟨_, rfl, ?_⟩
   have SA := Aside0.mk (blk_below (blk_drew (w3_a w _ _ _)) hb3)
   have SB := Aside0.mk (blk_below (blk_drew (w3_b w _ _ _)) hb3)
   have SC := Aside0.mk (blk_below (blk_drew (w3_c w _ _ _)) hb3)
   have SL := Aside0.mk ((below_drew1 (w3_low w _ _ _)).trans (hb3.mono (w3_sz w _ _ _)))
   clear hb3
   have a3 := (blk_cell SA.out 3).trans (show _ = some (Value.int .i64 f3) from rfl)
   refine hK.out _ _ (a3) (fun hHeld => ?_)
   clear hK K
   refine norm_ (a' := ?_) ?_ ?_
   rotate_left
   ·show Act.put _ (some 48) _ = _
    simp only [Act.put, List.setIfInBounds_toArray, List.set_cons_zero, List.set_cons_succ, i64_w, i32_w]
    rfl
   refine pure_ (i := 6) (N := some 52) (v := ?_) (a' := ?_) #[true, true, true, true, true, true, true, false, false, false, false, false, false] rfl rfl (by kernel_rfl) (fun _ _ _ h => h) (Or.inl ⟨by rfl, ?_⟩) ?_ ?_
   rotate_left
   ·intro w'
    go_simp
    with_reducible rfl
   rotate_left
   ·simp only [Act.put, List.setIfInBounds_toArray, List.set_cons_zero, List.set_cons_succ, i64_w, i32_w]
    rfl
   refine pure_ (i := 7) (N := some 53) (v := ?_) (a' := ?_) #[true, true, true, true, true, true, true, true, false, false, false, false, false] rfl rfl (by kernel_rfl) (fun _ _ _ h => h) (Or.inl ⟨by rfl, ?_⟩) ?_ ?_
   rotate_left
   ·intro w'
    go_simp
    with_reducible rfl
   rotate_left
   ·simp only [Act.put, List.setIfInBounds_toArray, List.set_cons_zero, List.set_cons_succ, i64_w, i32_w]
    rfl
   refine pure_ (i := 11) (N := some 6) (v := ?_) (a' := ?_) #[true, true, true, true, true, true, true, true, false, false, false, true, false] rfl rfl (by kernel_rfl) (fun _ _ _ h => h) (Or.inl ⟨by rfl, ?_⟩) ?_ ?_
   rotate_left
   ·intro w'
    go_simp
    with_reducible rfl
   rotate_left
   ·simp only [Act.put, List.setIfInBounds_toArray, List.set_cons_zero, List.set_cons_succ, i64_w, i32_w]
    rfl
   refine take_ (i := 8) (N := some 54) (v := ?_) (a' := ?_) #[true, true, true, true, true, true, true, true, true, false, false, true, false] rfl rfl (by kernel_rfl) (fun _ _ _ h => h) (Or.inl ⟨by rfl, ?_⟩) hHeld ?_ ?_
   rotate_left
   ·intro w' s0
    go_simp
    with_reducible rfl
   rotate_left
   ·simp only [Act.put, List.setIfInBounds_toArray, List.set_cons_zero, List.set_cons_succ, i64_w, i32_w]
    rfl
   refine pure_ (i := 9) (N := some 55) (v := ?_) (a' := ?_) #[true, true, true, true, true, true, true, true, true, true, false, true, false] rfl rfl (by kernel_rfl) (fun _ _ _ h => h) (Or.inl ⟨by rfl, ?_⟩) ?_ ?_
   rotate_left
   ·intro w'
    go_simp
    with_reducible rfl
   rotate_left
   ·simp only [Act.put, List.setIfInBounds_toArray, List.set_cons_zero, List.set_cons_succ, i64_w, i32_w]
    rfl
   refine pure_ (i := 10) (N := some 56) (v := ?_) (a' := ?_) #[true, true, true, true, true, true, true, true, true, true, true, true, false] rfl rfl (by kernel_rfl) (fun _ _ _ h => h) (Or.inl ⟨by rfl, ?_⟩) ?_ ?_
   rotate_left
   ·intro w'
    go_simp
    with_reducible rfl
   rotate_left
   ·simp only [Act.put, List.setIfInBounds_toArray, List.set_cons_zero, List.set_cons_succ, i64_w, i32_w]
    rfl
   refine pure_ (i := 12) (N := some 7) (v := ?_) (a' := ?_) #[true, true, true, true, true, true, true, true, true, true, true, true, true] rfl rfl (by kernel_rfl) (fun _ _ _ h => h) (Or.inl ⟨by rfl, ?_⟩) ?_ ?_
   rotate_left
   ·intro w'
    go_simp
    with_reducible rfl
   rotate_left
   ·simp only [Act.put, List.setIfInBounds_toArray, List.set_cons_zero, List.set_cons_succ, i64_w, i32_w]
    rfl
   refine done_ (by kernel_rfl) ?_
   clear a3
   have b0 := (blk_cell SB.out 0).trans rfl
   have b1 := (blk_cell SB.out 1).trans rfl
   have b2 := (blk_cell SB.out 2).trans rfl
   have b3 := (blk_cell SB.out 3).trans rfl
   have b4 := (blk_cell SB.out 4).trans rfl
   have c0 := (blk_cell SC.out 0).trans rfl
   have c1 := (blk_cell SC.out 1).trans rfl
   have c2 := (blk_cell SC.out 2).trans rfl
   have c3 := (blk_cell SC.out 3).trans rfl
   have c4 := (blk_cell SC.out 4).trans rfl
   go_wp2
   repeat (go_quiet (fail); try go_wp2)
   go_ret2
   exact ⟨by first | rfl | (simp; done) | (simp [*]; done), by repeat (first | exact SL.out | apply pw_below_drewN | apply below_drew1)⟩
 ·have d1 : decide (0 ≤ f3) = false := decide_eq_false g1
  clear g1
  rw [d1]
  go_enter Tryz.func16, Tryz.ntmps16
  go_wp2
  refine start_ (n := 13) (S := fun w' => w'.cell? ⟨w.heap.size, 3, none⟩ = some (.int .i64 f3)) (ds := []) #[false, false, false, false, false, false, false, false, false, false, false, false, false] (by kernel_rfl) rfl rfl (((blk_cell (blk_drew (w3_a w _ _ _)) 3).trans rfl)) (fun hHeld => ?_)
  refine pure_ (i := 0) (N := some 46) (v := ?_) (a' := ?_) #[true, false, false, false, false, false, false, false, false, false, false, false, false] rfl rfl (by kernel_rfl) (fun _ _ _ h => h) (Or.inl ⟨by rfl, ?_⟩) ?_ ?_
  rotate_left
  ·intro w'
   go_simp
   with_reducible rfl
  rotate_left
  ·simp only [Act.put, List.setIfInBounds_toArray, List.set_cons_zero, List.set_cons_succ, i64_w, i32_w]
   rfl
  refine pure_ (i := 3) (N := some 49) (v := ?_) (a' := ?_) #[true, false, false, true, false, false, false, false, false, false, false, false, false] rfl rfl (by kernel_rfl) (fun _ _ _ h => h) (Or.inl ⟨by rfl, ?_⟩) ?_ ?_
  rotate_left
  ·intro w'
   go_simp
   with_reducible rfl
  rotate_left
  ·simp only [Act.put, List.setIfInBounds_toArray, List.set_cons_zero, List.set_cons_succ, i64_w, i32_w]
   rfl
  refine take_ (i := 1) (N := some 47) (v := ?_) (a' := ?_) #[true, true, false, true, false, false, false, false, false, false, false, false, false] rfl rfl (by kernel_rfl) (fun _ _ _ h => h) (Or.inl ⟨by rfl, ?_⟩) hHeld ?_ ?_
  rotate_left
  ·intro w' s0
   go_simp
   with_reducible rfl
  rotate_left
  ·simp only [Act.put, List.setIfInBounds_toArray, List.set_cons_zero, List.set_cons_succ, i64_w, i32_w]
   rfl
  refine take_ (i := 4) (N := some 50) (v := ?_) (a' := ?_) #[true, true, false, true, true, false, false, false, false, false, false, false, false] rfl rfl (by kernel_rfl) (fun _ _ _ h => h) (Or.inl ⟨by rfl, ?_⟩) hHeld ?_ ?_
  rotate_left
  ·intro w' s0
   go_simp
   with_reducible rfl
  rotate_left
  ·simp only [Act.put, List.setIfInBounds_toArray, List.set_cons_zero, List.set_cons_succ, i64_w, i32_w]
   rfl
  refine pure_ (i := 5) (N := some 51) (v := ?_) (a' := ?_) #[true, true, false, true, true, true, false, false, false, false, false, false, false] rfl rfl (by kernel_rfl) (fun _ _ _ h => h) (Or.inl ⟨by rfl, ?_⟩) ?_ ?_
  rotate_left
  ·intro w'
   go_simp
   with_reducible rfl
  rotate_left
  ·simp only [Act.put, List.setIfInBounds_toArray, List.set_cons_zero, List.set_cons_succ, i64_w, i32_w]
   rfl
  refine one_ (i := 2) (N := some 48) #[true, true, true, true, true, true, false, false, false, false, false, false, false] rfl rfl (by kernel_rfl) (by decide) (fun K hK => ?_)
  refine goes_ Tryz.func77 (by kernel_rfl) rfl #[.int .i64 f3, .int .i64 10] (by rfl) rfl rfl (by simp only [List.map_toArray, List.map_cons, List.map_nil]; rfl) ?_
  with_reducible refine ((strconv_FormatInt_77.calls f3 10 r _ (HT.out.below (w3_low w _ _ _)).drew H.out)).mono ?_
  rintro e w3 ⟨rfl, hb3⟩
  refine ⟨_, rfl, ?_⟩
  have SA := Aside0.mk (blk_below (blk_drew (w3_a w _ _ _)) hb3)
  have SB := Aside0.mk (blk_below (blk_drew (w3_b w _ _ _)) hb3)
  have SC := Aside0.mk (blk_below (blk_drew (w3_c w _ _ _)) hb3)
  have SL := Aside0.mk ((below_drew1 (w3_low w _ _ _)).trans (hb3.mono (w3_sz w _ _ _)))
  clear hb3
  have a3 := (blk_cell SA.out 3).trans (show _ = some (Value.int .i64 f3) from rfl)
  refine hK.out _ _ (a3) (fun hHeld => ?_)
  clear hK K
  refine norm_ (a' := ?_) ?_ ?_
  rotate_left
  ·show Act.put _ (some 48) _ = _
   simp only [Act.put, List.setIfInBounds_toArray, List.set_cons_zero, List.set_cons_succ, i64_w, i32_w]
   rfl
  refine pure_ (i := 6) (N := some 52) (v := ?_) (a' := ?_) #[true, true, true, true, true, true, true, false, false, false, false, false, false] rfl rfl (by kernel_rfl) (fun _ _ _ h => h) (Or.inl ⟨by rfl, ?_⟩) ?_ ?_
  rotate_left
  ·intro w'
   go_simp
   with_reducible rfl
  rotate_left
  ·simp only [Act.put, List.setIfInBounds_toArray, List.set_cons_zero, List.set_cons_succ, i64_w, i32_w]
   rfl
  refine pure_ (i := 7) (N := some 53) (v := undef) (a' := ?_) #[true, true, true, true, true, true, true, true, false, false, false, false, false] rfl rfl (by kernel_rfl) (fun _ _ _ h => h) (Or.inr ⟨by rfl, rfl⟩) ?_ ?_
  rotate_left
  ·simp only [Act.put, List.setIfInBounds_toArray, List.set_cons_zero, List.set_cons_succ, i64_w, i32_w]
   rfl
  refine pure_ (i := 8) (N := some 54) (v := undef) (a' := ?_) #[true, true, true, true, true, true, true, true, true, false, false, false, false] rfl rfl (by kernel_rfl) (fun _ _ _ h => h) (Or.inr ⟨by rfl, rfl⟩) ?_ ?_
  rotate_left
  ·simp only [Act.put, List.setIfInBounds_toArray, List.set_cons_zero, List.set_cons_succ, i64_w, i32_w]
   rfl
  refine pure_ (i := 9) (N := some 55) (v := undef) (a' := ?_) #[true, true, true, true, true, true, true, true, true, true, false, false, false] rfl rfl (by kernel_rfl) (fun _ _ _ h => h) (Or.inr ⟨by rfl, rfl⟩) ?_ ?_
  rotate_left
  ·simp only [Act.put, List.setIfInBounds_toArray, List.set_cons_zero, List.set_cons_succ, i64_w, i32_w]
   rfl
  refine pure_ (i := 10) (N := some 56) (v := ?_) (a' := ?_) #[true, true, true, true, true, true, true, true, true, true, true, false, false] rfl rfl (by kernel_rfl) (fun _ _ _ h => h) (Or.inl ⟨by rfl, ?_⟩) ?_ ?_
  rotate_left
  ·intro w'
   go_simp
   with_reducible rfl
  rotate_left
  ·simp only [Act.put, List.setIfInBounds_toArray, List.set_cons_zero, List.set_cons_succ, i64_w, i32_w]
   rfl
  refine pure_ (i := 11) (N := some 6) (v := ?_) (a' := ?_) #[true, true, true, true, true, true, true, true, true, true, true, true, false] rfl rfl (by kernel_rfl) (fun _ _ _ h => h) (Or.inl ⟨by rfl, ?_⟩) ?_ ?_
  rotate_left
  ·intro w'
   go_simp
   with_reducible rfl
  rotate_left
  ·simp only [Act.put, List.setIfInBounds_toArray, List.set_cons_zero, List.set_cons_succ, i64_w, i32_w]
   rfl
  refine pure_ (i := 12) (N := some 7) (v := ?_) (a' := ?_) #[true, true, true, true, true, true, true, true, true, true, true, true, true] rfl rfl (by kernel_rfl) (fun _ _ _ h => h) (Or.inl ⟨by rfl, ?_⟩) ?_ ?_
  rotate_left
  ·intro w'
   go_simp
   with_reducible rfl
  rotate_left
  ·simp only [Act.put, List.setIfInBounds_toArray, List.set_cons_zero, List.set_cons_succ, i64_w, i32_w]
   rfl
  refine done_ (by kernel_rfl) ?_
  clear a3
  have b0 := (blk_cell SB.out 0).trans rfl
  have b1 := (blk_cell SB.out 1).trans rfl
  have b2 := (blk_cell SB.out 2).trans rfl
  have b3 := (blk_cell SB.out 3).trans rfl
  have b4 := (blk_cell SB.out 4).trans rfl
  have c0 := (blk_cell SC.out 0).trans rfl
  have c1 := (blk_cell SC.out 1).trans rfl
  have c2 := (blk_cell SC.out 2).trans rfl
  have c3 := (blk_cell SC.out 3).trans rfl
  have c4 := (blk_cell SC.out 4).trans rfl
  go_wp2
  repeat (go_quiet (fail); try go_wp2)
  go_ret2
  exact ⟨by first | rfl | (simp; done) | (simp [*]; done), by repeat (first | exact SL.out | apply pw_below_drewN | apply below_drew1)⟩
set_option maxRecDepth 100000 in
set_option maxHeartbeats 1000000 in
theorem written_6 (f1 f3 f4 : Int) (f2 : ByteArray) (w : World) (hT : Tabs w) (k : Nat) (r1 : ByteArray) (r2 : Bool) (h : words_Quote.f k f2 = some (r1, r2)) :
  Calls Tryz.prog 16 #[.agg (tokA 6 f1 f2 f3 f4)] w fun e w' => e = .returned (.tuple #[.string r1, .bool (r2 && (f3 == 0 && f4 == 0))]) ∧ Below w.heap.size w w' := by
 have HT := Aside0.mk hT
 clear hT
 have H := Aside0.mk h
 clear h
 cases r2
 all_goals
  go_enter Tryz.func16, Tryz.ntmps16
  go_wp2_with (first | (go_at_call 81; refine (words_Quote.calls k f2 r1 _ _ H.out).mono ?_; rintro e w3 ⟨rfl, hb3⟩; have SA := Aside0.mk (blk_below ((w3_a w _ _ _)) hb3); have SB := Aside0.mk (blk_below ((w3_b w _ _ _)) hb3); have SC := Aside0.mk (blk_below ((w3_c w _ _ _)) hb3); have SL := Aside0.mk ((w3_low w _ _ _).trans (hb3.mono (w3_sz w _ _ _))); clear hb3; have b0 := (blk_cell SB.out 0).trans rfl; have b1 := (blk_cell SB.out 1).trans rfl; have b2 := (blk_cell SB.out 2).trans rfl; have b3 := (blk_cell SB.out 3).trans rfl; have b4 := (blk_cell SB.out 4).trans rfl; have c0 := (blk_cell SC.out 0).trans rfl; have c1 := (blk_cell SC.out 1).trans rfl; have c2 := (blk_cell SC.out 2).trans rfl; have c3 := (blk_cell SC.out 3).trans rfl; have c4 := (blk_cell SC.out 4).trans rfl))
  repeat (go_quiet (fail); try go_wp2)
  go_ret2
  exact ⟨by first | rfl | (simp; done) | (simp [*]; done), by repeat (first | exact SL.out | apply pw_below_drewN | apply below_drew1)⟩
def words_days (n : Int) (k : Nat) (r1 : ByteArray) (r2 : Int) : Prop := 0 ≤ n ∧ n ≤ 109572 → days_Print.f k n = some (r1, r2)
set_option maxRecDepth 100000 in
set_option maxHeartbeats 1000000 in
theorem written_5 (f1 f3 f4 : Int) (f2 : ByteArray) (w : World) (hT : Tabs w) (k : Nat) (r1 : ByteArray) (r2 : Int) (h : words_days f3 k r1 r2) :
  Calls Tryz.prog 16 #[.agg (tokA 5 f1 f2 f3 f4)] w fun e w' => e = .returned (.tuple #[.string (if f3 < 0 ∨ 109572 < f3 then ⟨#[]⟩ else r1), .bool ((if f3 < 0 ∨ 109572 < f3 then false else (f2.toList.isEmpty && f4 == 0)))]) ∧ Below w.heap.size w w' := by
 have HT := Aside0.mk hT
 clear hT
 have H := Aside0.mk h
 clear h
 by_cases g1 : f3 < 0
 ·have d1 : decide (f3 < 0) = true := decide_eq_true g1
  rw [if_pos (.inl g1), if_pos (.inl g1)]
  clear g1
  go_enter Tryz.func16, Tryz.ntmps16
  go_wp2
  go_ret2
  exact ⟨by first | rfl | (simp; done), by repeat (first | exact w3_low w _ _ _ | apply pw_below_drewN)⟩
 ·have d1 : decide (f3 < 0) = false := decide_eq_false g1
  by_cases g2 : 109572 < f3
  ·have d2 : decide (109572 < f3) = true := decide_eq_true g2
   rw [if_pos (.inr g2), if_pos (.inr g2)]
   clear g1 g2
   go_enter Tryz.func16, Tryz.ntmps16
   go_wp2
   go_ret2
   exact ⟨by first | rfl | (simp; done), by repeat (first | exact w3_low w _ _ _ | apply pw_below_drewN)⟩
  ·have d2 : decide (109572 < f3) = false := decide_eq_false g2
   have e := not_or.mpr ⟨g1, g2⟩
   rw [if_neg e, if_neg e]
   have E := H.out (by omega)
   clear g1 g2 e
   go_enter Tryz.func16, Tryz.ntmps16
   go_wp2_with (first | (go_at_call 80; refine (days_Print.calls k f3 r1 r2 _ (HT.out.below (w3_low w _ _ _)) E).mono ?_; rintro e w3 ⟨rfl, hb3⟩; have SA := Aside0.mk (blk_below ((w3_a w _ _ _)) hb3); have SB := Aside0.mk (blk_below ((w3_b w _ _ _)) hb3); have SC := Aside0.mk (blk_below ((w3_c w _ _ _)) hb3); have SL := Aside0.mk ((w3_low w _ _ _).trans (hb3.mono (w3_sz w _ _ _))); clear hb3; have b0 := (blk_cell SB.out 0).trans rfl; have b1 := (blk_cell SB.out 1).trans rfl; have b2 := (blk_cell SB.out 2).trans rfl; have b3 := (blk_cell SB.out 3).trans rfl; have b4 := (blk_cell SB.out 4).trans rfl; have c0 := (blk_cell SC.out 0).trans rfl; have c1 := (blk_cell SC.out 1).trans rfl; have c2 := (blk_cell SC.out 2).trans rfl; have c3 := (blk_cell SC.out 3).trans rfl; have c4 := (blk_cell SC.out 4).trans rfl))
   repeat (go_quiet (fail); try go_wp2)
   go_ret2
   exact ⟨by first | rfl | (simp; done) | (simp [*]; done), by repeat (first | exact SL.out | apply pw_below_drewN | apply below_drew1)⟩
set_option maxRecDepth 100000 in
set_option maxHeartbeats 1000000 in
theorem written_4 (f1 f3 f4 : Int) (f2 : ByteArray) (w : World) (hT : Tabs w) (k : Nat) (r1 : ByteArray) (r2 : Bool) (c : Int) (h : words_Percent.f k f3 f4 = some (r1, r2)) (h2 : r2 = true → words_common.f k f3 f4 = some c) :
  Calls Tryz.prog 16 #[.agg (tokA 4 f1 f2 f3 f4)] w fun e w' => e = .returned (.tuple #[.string r1, .bool ((r2 && c == 1) && f2.toList.isEmpty)]) ∧ Below w.heap.size w w' := by
 have HT := Aside0.mk hT
 clear hT
 have H := Aside0.mk h
 have H2 := Aside0.mk h2
 clear h h2
 cases hc : (c == 1)
 all_goals cases r2
 all_goals
  go_enter Tryz.func16, Tryz.ntmps16
  go_wp2
  go_region
  go_wp2_with (first | (go_at_call 78; refine (words_Percent.calls k f3 f4 r1 _ _ (HT.out.below (w3_low w _ _ _)).drew H.out).mono ?_; rintro e w3 ⟨rfl, hb3⟩; have SA := Aside0.mk (blk_below (blk_drew (w3_a w _ _ _)) hb3); have SB := Aside0.mk (blk_below (blk_drew (w3_b w _ _ _)) hb3); have SC := Aside0.mk (blk_below (blk_drew (w3_c w _ _ _)) hb3); have SL := Aside0.mk ((below_drew1 (w3_low w _ _ _)).trans (hb3.mono (w3_sz w _ _ _))); clear hb3; have a3 := (blk_cell SA.out 3).trans (show _ = some (Value.int .i64 f3) from rfl); have a4 := (blk_cell SA.out 4).trans (show _ = some (Value.int .i64 f4) from rfl); have b0 := (blk_cell SB.out 0).trans rfl; have b1 := (blk_cell SB.out 1).trans rfl; have b2 := (blk_cell SB.out 2).trans rfl; have b3 := (blk_cell SB.out 3).trans rfl; have b4 := (blk_cell SB.out 4).trans rfl; have c0 := (blk_cell SC.out 0).trans rfl; have c1 := (blk_cell SC.out 1).trans rfl; have c2 := (blk_cell SC.out 2).trans rfl; have c3 := (blk_cell SC.out 3).trans rfl; have c4 := (blk_cell SC.out 4).trans rfl) | (go_at_call 79; refine (words_common.calls k f3 f4 c _ (H2.out (by first | rfl | trivial))).mono ?_; rintro e w4 ⟨rfl, hb4⟩; clear b0 b1 b2 b3 b4 c0 c1 c2 c3 c4; have sb_ := Aside0.mk (blk_below SB.out hb4); have sc_ := Aside0.mk (blk_below SC.out hb4); have sl_ := Aside0.mk (SL.out.trans (hb4.mono SL.out.size)); clear SA SB SC SL hb4 a3 a4; have SB := sb_; have SC := sc_; have SL := sl_; clear sb_ sc_ sl_; have b0 := (blk_cell SB.out 0).trans rfl; have b1 := (blk_cell SB.out 1).trans rfl; have b2 := (blk_cell SB.out 2).trans rfl; have b3 := (blk_cell SB.out 3).trans rfl; have b4 := (blk_cell SB.out 4).trans rfl; have c0 := (blk_cell SC.out 0).trans rfl; have c1 := (blk_cell SC.out 1).trans rfl; have c2 := (blk_cell SC.out 2).trans rfl; have c3 := (blk_cell SC.out 3).trans rfl; have c4 := (blk_cell SC.out 4).trans rfl))
  repeat (go_quiet (fail); try go_wp2)
  go_ret2
  exact ⟨by first | rfl | (simp; done) | (simp [*]; done), by repeat (first | exact SL.out | apply pw_below_drewN | apply below_drew1)⟩
set_option maxRecDepth 100000 in
set_option maxHeartbeats 1000000 in
theorem written_x (f0 : Int) (e1 : (f0 == 1) = false) (e2 : (f0 == 2) = false) (e3 : (f0 == 3) = false) (e4 : (f0 == 4) = false) (e5 : (f0 == 5) = false) (e6 : (f0 == 6) = false) (e7 : (f0 == 7) = false) (e8 : (f0 == 8) = false) (f1 f3 f4 : Int) (f2 : ByteArray) (w : World) (hT : Tabs w) :
  Calls Tryz.prog 16 #[.agg (tokA f0 f1 f2 f3 f4)] w fun e w' => e = .returned (.tuple #[.string ⟨#[]⟩, .bool (false)]) ∧ Below w.heap.size w w' := by
 have HT := Aside0.mk hT
 clear hT
 go_enter Tryz.func16, Tryz.ntmps16
 ·go_wp2
  go_ret2
  exact ⟨by first | rfl | (simp; done), by repeat (first | exact w3_low w _ _ _ | apply pw_below_drewN)⟩
end Go.Proofs.YtjlclkenfmbahaaGreatDoor.PA
