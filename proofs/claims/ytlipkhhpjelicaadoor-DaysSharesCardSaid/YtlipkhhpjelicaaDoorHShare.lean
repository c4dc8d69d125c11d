/- The contract of days.Share, walked by hand: for every from, to and year the call comes to what 'shareS' says. Condition: the world holds the table of the months' lengths ('Tabs'). -/
import Derived.Test.YtlipkhhpjelicaaDoorHMonths
import Derived.Test.YtlipkhhpjelicaaDoorMonths
import Derived.RangeFuncNested
import Derived.RangeFuncBound
import Derived.RangeFuncCalls
import Derived.RangeFuncLeaves
import Derived.Shelf.Abstract
import Derived.Shelf.RegionOpen
import Derived.WalkKit
import Derived.OwnWalkIn
import Derived.TacticsInMore
import Derived.LoopNIn
import Derived.LoopIn
import Derived.Test.YtlipkhhpjelicaaDoorPAx0
import Derived.Test.YtlipkhhpjelicaaDoorPAx2
import Derived.Test.YtlipkhhpjelicaaDoorPAx6
namespace Go.Proofs.YtlipkhhpjelicaaDoor.PA
open Go.RowKit Go.Shelf Go.Proofs.YtlipkhhpjelicaaDoorW.PrintWords Go.Proofs.YtlipkhhpjelicaaDoorW.PrintLast Go.Proofs.YtlipkhhpjelicaaDoorW.PrintMore Go.Proofs.YtlipkhhpjelicaaDoor.Days Go.Proofs.YtlipkhhpjelicaaDoor.Cal
attribute [local go_sem] Oper.semAt_some
set_option linter.unusedVariables false
set_option linter.unusedSimpArgs false

theorem isDay_yes {a : Int} (h : 0 ≤ a ∧ a ≤ 109572) (w : World) : Calls Tryd.prog 48 #[.int .i64 a] w fun e w' => e = .returned (.bool true) ∧ Drawn0 w w' :=
  days_isDay.calls a true w (by rw [isDay_p, decide_eq_true h])
theorem isDay_no {a : Int} (h : ¬ (0 ≤ a ∧ a ≤ 109572)) (w : World) : Calls Tryd.prog 48 #[.int .i64 a] w fun e w' => e = .returned (.bool false) ∧ Drawn0 w w' :=
  days_isDay.calls a false w (by rw [isDay_p, decide_eq_false h])

theorem whole_step {y : Int} {j i : Nat} (hy : y = 1900 + (j : Int)) (hj : j < 300) (hi : i < 12) : wrap64 (B (12 * j + i) - B (12 * j) + lastD y ((i : Int) + 1)) = B (12 * j + (i + 1)) - B (12 * j) := by
  have hl : lastD y ((i : Int) + 1) = Cal.len (12 * j + i) := by rw [hy]; exact (lenE j i hi).symm
  have h1 : B (12 * j + (i + 1)) = B (12 * j + i) + Cal.len (12 * j + i) := rfl
  have h2 := len_bd (12 * j + i)
  have h3 := B_nonneg (12 * j)
  have h4 := B_mono (show 12 * j ≤ 12 * j + i by omega)
  have h5 := B_top (k := 12 * j + i) (by omega)
  rw [hl, Go.Proofs.YtlipkhhpjelicaaDoor.Days.wr (by omega) (by omega)]
  omega

set_option maxHeartbeats 1000000 in
/-- days.Months: the two days are boxed; the function value captures the boxes. -/
theorem months_make (a b : Int) (w : World) :
    Calls Tryd.prog 13 #[.int .i64 a, .int .i64 b] w fun e w' => e = .returned (.func (.func 44) #[] #[.pointer (some ⟨w.heap.size + 1, 0, none⟩), .pointer (some ⟨w.heap.size, 0, none⟩)]) ∧
      w' = (w.alloc (.cells #[.int .i64 a] 3)).alloc (.cells #[.int .i64 b] 3) := by
  go_enter Tryd.func13, Tryd.ntmps13
  go_wp2
  go_ret
  exact ⟨rfl, rfl⟩

theorem months_stops (m : Nat) (hm : 1 ≤ m) (Ba Bb : Nat) (a b : Int) (xs : List Pc) (hxs : MF (min b 109572) (max a 0) xs) (w : World) (hT : Tabs w) (hBa : Ba < w.heap.size) (hBb : Bb < w.heap.size)
    (ha : w.cell? ⟨Ba, 0, none⟩ = some (.int .i64 a)) (hb : w.cell? ⟨Bb, 0, none⟩ = some (.int .i64 b)) :
    SeqStopsK Fence.wide m Tryd.prog 44 #[.pointer (some ⟨Bb, 0, none⟩), .pointer (some ⟨Ba, 0, none⟩)] encPc (Below 1) (fun ys => ys = xs) (fun pre => pre <+: xs) xs.length w :=
  fun l J Jx W hW hJ _ hY h0 => months_in m l hm Ba Bb a b xs hxs J Jx W (hT.below hW) ((hW.cell (p := ⟨Ba, 0, none⟩) hBa).trans ha) ((hW.cell (p := ⟨Bb, 0, none⟩) hBb).trans hb) hJ hY h0

set_option maxRecDepth 100000 in
set_option maxHeartbeats 4000000 in
theorem share_ok (a b : Int) (j : Nat) (hj : j < 300) (w : World) (hT : Tabs w) (ha : 0 ≤ a ∧ a ≤ 109572) (hb : 0 ≤ b ∧ b ≤ 109572) (hab : a ≤ b) (y : Int) (hy : y = 1900 + (j : Int)) (xs : List Pc) (hxs : MF (min b 109572) (max a 0) xs) (P : Int) (hP : xs.foldl (partF y) 0 = P) :
    Calls Tryd.prog 33 #[.int .i64 a, .int .i64 b, .int .i64 y] w fun e w' => e = .returned (.tuple #[.int .i64 P, .int .i64 (B (12 * j + 12) - B (12 * j)), .int .i64 0]) ∧ Below w.heap.size w w' := by
  have hmx : Tryd.prog.follows .mixedOrders = true := by kernel_rfl
  have hy1 : 1900 ≤ y := by omega
  have hy2 : y ≤ 2199 := by omega
  have HA := Aside0.mk ha
  have HB := Aside0.mk hb
  have HY := Aside0.mk hy
  clear ha hb hy
  refine (callsIn_wide (n := 6)).1 ?_
  refine callsIn_of_wp_marks Tryd.func33 rfl trivial ?_ rfl
  simp only [Tryd.ntmps33, List.size_toArray, List.length_cons, List.length_nil, Nat.reduceAdd, Nat.reduceSub, Array.replicate_succ, Array.replicate_zero, List.push_toArray, List.append_toArray, List.nil_append, List.cons_append]
  gi_wp2_with (first
    | (refine ⟨trivial, ?_⟩; gi_at_call 48; (with_reducible refine (callsIn_wide.2 (isDay_yes HA.out _)).mono ?_); rintro e w1 ⟨rfl, ⟨n1, rfl⟩⟩)
    | (refine ⟨trivial, ?_⟩; gi_at_call 48; (with_reducible refine (callsIn_wide.2 (isDay_yes HB.out _)).mono ?_); rintro e w1 ⟨rfl, ⟨n2, rfl⟩⟩)
    | (refine ⟨trivial, ?_⟩; gi_at_call 13; (with_reducible refine (callsIn_wide.2 (months_make a b _)).mono ?_); rintro e w1 ⟨rfl, rfl⟩))
  have hB0 : Below w.heap.size w (((((w.alloc (.cells #[.int .i64 y] 3)).alloc (.cells #[.int .i64 0] 3)).drewN (n1 + n2)).alloc (.cells #[.int .i64 a] 3)).alloc (.cells #[.int .i64 b] 3)) := by repeat (first | exact Below.refl _ _ | apply below_alloc | apply pw_below_drewN)
  have bY : Boxed (((((w.alloc (.cells #[.int .i64 y] 3)).alloc (.cells #[.int .i64 0] 3)).drewN (n1 + n2)).alloc (.cells #[.int .i64 a] 3)).alloc (.cells #[.int .i64 b] 3)) w.heap.size 3 (.int .i64 y) := by
    exact blk_alloc (blk_alloc (blk_drewN (blk_alloc (World.alloc_heap_new w _) _) _) _) _
  have bP : Boxed (((((w.alloc (.cells #[.int .i64 y] 3)).alloc (.cells #[.int .i64 0] 3)).drewN (n1 + n2)).alloc (.cells #[.int .i64 a] 3)).alloc (.cells #[.int .i64 b] 3)) (w.heap.size + 1) 3 (.int .i64 0) := by
    have h := World.alloc_heap_new (w.alloc (.cells #[.int .i64 y] 3)) (.cells #[.int .i64 0] 3)
    rw [World.size_alloc] at h
    refine blk_alloc (blk_alloc (blk_drewN h _) _) _
  have bA : Boxed (((((w.alloc (.cells #[.int .i64 y] 3)).alloc (.cells #[.int .i64 0] 3)).drewN (n1 + n2)).alloc (.cells #[.int .i64 a] 3)).alloc (.cells #[.int .i64 b] 3)) (w.heap.size + 1 + 1) 3 (.int .i64 a) := by
    have h := World.alloc_heap_new (((w.alloc (.cells #[.int .i64 y] 3)).alloc (.cells #[.int .i64 0] 3)).drewN (n1 + n2)) (.cells #[.int .i64 a] 3)
    have hs : (((w.alloc (.cells #[.int .i64 y] 3)).alloc (.cells #[.int .i64 0] 3)).drewN (n1 + n2)).heap.size = w.heap.size + 1 + 1 := by
      show ((w.alloc (.cells #[.int .i64 y] 3)).alloc (.cells #[.int .i64 0] 3)).heap.size = _
      rw [World.size_alloc, World.size_alloc]
    rw [hs] at h
    exact blk_alloc h _
  have hs3 : ((((w.alloc (.cells #[.int .i64 y] 3)).alloc (.cells #[.int .i64 0] 3)).drewN (n1 + n2)).alloc (.cells #[.int .i64 a] 3)).heap.size = w.heap.size + 1 + 1 + 1 := by
    rw [World.size_alloc]
    show ((w.alloc (.cells #[.int .i64 y] 3)).alloc (.cells #[.int .i64 0] 3)).heap.size + 1 = _
    rw [World.size_alloc, World.size_alloc]
  have bB : Boxed (((((w.alloc (.cells #[.int .i64 y] 3)).alloc (.cells #[.int .i64 0] 3)).drewN (n1 + n2)).alloc (.cells #[.int .i64 a] 3)).alloc (.cells #[.int .i64 b] 3)) (w.heap.size + 1 + 1 + 1) 3 (.int .i64 b) := by
    have h := World.alloc_heap_new ((((w.alloc (.cells #[.int .i64 y] 3)).alloc (.cells #[.int .i64 0] 3)).drewN (n1 + n2)).alloc (.cells #[.int .i64 a] 3)) (.cells #[.int .i64 b] 3)
    rw [hs3] at h
    exact h
  have hsz : ((((((w.alloc (.cells #[.int .i64 y] 3)).alloc (.cells #[.int .i64 0] 3)).drewN (n1 + n2)).alloc (.cells #[.int .i64 a] 3)).alloc (.cells #[.int .i64 b] 3))).heap.size = w.heap.size + 4 := by rw [World.size_alloc, hs3]
  obtain ⟨W0, hW0⟩ : ∃ W0, (((((w.alloc (.cells #[.int .i64 y] 3)).alloc (.cells #[.int .i64 0] 3)).drewN (n1 + n2)).alloc (.cells #[.int .i64 a] 3)).alloc (.cells #[.int .i64 b] 3)) = W0 := ⟨_, rfl⟩
  rw [hW0] at hB0 bY bP bA bB hsz ⊢
  clear hW0 hs3
  have hT0 := hT.below hB0
  have h1s := hT.size
  refine wpIn_rangeFunc_ownH rfl (by omega) (gf := 44) (lb := #[.pointer (some ⟨w.heap.size + 1 + 1 + 1, 0, none⟩), .pointer (some ⟨w.heap.size + 1 + 1, 0, none⟩)]) rfl trivial (enters_of Tryd.func44 (by kernel_rfl) rfl)
    (months_stops 5 (by omega) (w.heap.size + 1 + 1) (w.heap.size + 1 + 1 + 1) a b xs hxs W0 hT0 (by omega) (by omega) bA.cell bB.cell) belowK_t (belowK_b (by omega)) (Below.refl _ _) (fun _ => rfl)
    (fun pre W => (Boxed W w.heap.size 3 (.int .i64 y) ∧ Boxed W (w.heap.size + 1) 3 (.int .i64 (pre.foldl (partF y) 0))) ∧ Below w.heap.size w W)
    (fun c pre W => (c = .exit 0 ∧ ∃ (p : List Pc) (x : Pc), pre = p ++ [x] ∧ y < x.1.1 ∧ Boxed W w.heap.size 3 (.int .i64 y) ∧ Boxed W (w.heap.size + 1) 3 (.int .i64 (p.foldl (partF y) 0))) ∧ Below w.heap.size w W)
    (OwnFrom.and (OwnFrom.and (Own.from (boxed_own _ _ _) _) (Own.from (boxed_own _ _ _) _)) (ownFrom_below (Nat.le_refl _) (by omega)))
    (fun c => OwnFrom.and (fun s X Y row hs hg hr => by
      obtain ⟨hc, p, x, hp, hlt, h1, h2⟩ := hs
      exact ⟨hc, p, x, hp, hlt, boxed_own _ 3 (fun (_ : Unit) => _) () X Y row h1 hg (fun r e => (hr r e).2), boxed_own _ 3 (fun (_ : Unit) => _) () X Y row h2 hg (fun r e => (hr r e).2)⟩) (ownFrom_below (Nat.le_refl _) (by omega)))
    ⟨⟨bY, bP⟩, hB0⟩
    (fun x a' W => ∃ Bx, w.heap.size + 1 < Bx ∧ W.heap[Bx]? = some (.cells #[.int .i64 x.1.1, .int .i64 x.1.2.1, .int .i64 x.1.2.2] 33 (0, 0)) ∧ a' = { tmps := #[.int .i64 a, .int .i64 b, .int .i64 y, undef, undef, .pointer (some ⟨w.heap.size, 0, none⟩), .pointer (some ⟨w.heap.size + 1, 0, none⟩), .int .i64 0, .int .i64 0, .pointer (some ⟨Bx, 0, none⟩), .int .i64 x.2, undef, .int .i64 a, .bool true, .bool false, .bool false, .int .i64 b, .bool true, .bool false, .bool false, .bool false, .int .i64 y, .bool (decide (y < 1900)), .bool (decide (y < 1900)), .bool (decide (y < 1900)), .int .i64 y, .bool (decide (2199 < y)), .bool (decide (y < 1900) || decide (2199 < y)), .int .i64 b, .int .i64 a, .bool (decide (b < a)), .int .i64 a, .int .i64 b, .func (.func 44) #[] #[.pointer (some ⟨w.heap.size + 1 + 1 + 1, 0, none⟩), .pointer (some ⟨w.heap.size + 1 + 1, 0, none⟩)], .agg #[.int .i64 x.1.1, .int .i64 x.1.2.1, .int .i64 x.1.2.2], .int .i64 x.2, undef, undef, undef, undef, undef, undef, undef, undef, undef, undef, undef, undef, undef, undef, undef, undef, undef, undef, undef, undef, undef, undef, undef], defers := [] })
    (fun x a' _ X Y row hs hg hr => by
      obtain ⟨Bx, h1, h2, h3⟩ := hs
      exact ⟨Bx, h1, (hg.block Bx (Array.getElem?_eq_some_iff.1 h2).1 (fun e => by obtain ⟨_, o, ho, hc⟩ := hr Bx e.symm; rw [h2] at ho; cases ho; cases hc)).trans h2, h3⟩)
    ?assign ?body ?done ?stop
  case assign =>
    rintro l pre x W K ⟨⟨bY1, bP1⟩, hB1⟩ hK
    gi_wp2
    exact hK _ _ ((KeepsOthers.alloc _ _).from _) ((Below.refl 1 W).alloc (by have := hB1.size; omega) _) ⟨⟨bY1.alloc _, bP1.alloc _⟩, hB1.alloc hB1.size _⟩ ⟨W.heap.size, bP1.lt, World.alloc_heap_new W _, rfl⟩
  case body =>
    rintro l pre x a' W hl ⟨r, hr⟩ ⟨⟨bY1, bP1⟩, hB1⟩ ⟨Bx, hBx, bX, rfl⟩ hlt
    have cY := bY1.cell
    have cP := bP1.cell
    have fP := bP1.frozen
    have cX := (blk_cell bX 0).trans rfl
    gi_wp2
    · exact ⟨KeepsFrom.refl _ _, ⟨rfl, pre, x, rfl, by assumption, bY1, bP1⟩, hB1⟩
    · have e : x.1.1 = y := by first | assumption | exact eq_of_beq (by assumption)
      exact ⟨(KeepsOthers.setCell _ _ _).from _, (Below.refl 1 W).setCell (p := ⟨w.heap.size + 1, 0, none⟩) (by simp) _, ⟨bY1.other (by omega) _, by
        rw [List.foldl_append]
        show Boxed _ _ _ (.int .i64 (partF y _ x))
        unfold partF
        rw [if_pos e]
        exact bP1.set _⟩, hB1.setCell (p := ⟨w.heap.size + 1, 0, none⟩) (by simp) _⟩
    · have e : ¬ x.1.1 = y := by first | assumption | (intro e; simp_all)
      exact ⟨KeepsFrom.refl _ _, Below.refl _ _, ⟨bY1, by
        rw [List.foldl_append]
        show Boxed _ _ _ (.int .i64 (partF y _ x))
        unfold partF
        rw [if_neg e]
        exact bP1⟩, hB1⟩
  case done =>
    rintro D ys W hD hys ⟨⟨bY1, bP1⟩, hB1⟩ hK
    rw [hys, hP] at bP1
    clear hys
    have HP := Aside0.mk hP
    have HXS := Aside0.mk hxs
    clear hP hxs bA bB bY bP hT0 hB0
    gi_wp2
    gi_loopw [7, 47] (fun v7 v47 wr => ∃ i : Nat, i ≤ 12 ∧ v47 = .int .i64 i ∧ v7 = .int .i64 (B (12 * j + i) - B (12 * j)) ∧ Boxed wr w.heap.size 3 (.int .i64 y) ∧ Boxed wr (w.heap.size + 1) 3 (.int .i64 P) ∧ Below w.heap.size w wr ∧ wr.heap[D]? = some (.deferred (some []))) (fun _ v47 _ => 12 - (intOf v47).toNat)
    case atStart => exact ⟨0, by omega, rfl, by simp, bY1, bP1, hB1, hK⟩
    case round =>
      obtain ⟨i, hi, rfl, rfl, bY2, bP2, hB2, hK2⟩ := hrel
      by_cases h12 : i < 12
      · have c12 : (i : Int) < 12 := by omega
        have cY2 := bY2.cell
        have hi1 : wrap64 ((i : Int) + 1) = (i : Int) + 1 := Go.Proofs.YtlipkhhpjelicaaDoor.Days.wr (by omega) (by omega)
        have hTr := hT.below hB2
        have hlE := last_p 0 y ((i : Int) + 1)
        gi_wp2_with (refine ⟨trivial, ?_⟩; gi_at_call 17; (with_reducible refine (callsIn_wide.2 (days_Last.calls 1 y ((i : Int) + 1) _ _ hTr hlE)).mono ?_); rintro e w' ⟨rfl, ⟨nd, rfl⟩⟩)
        exact ⟨⟨i + 1, by omega, congrArg (Value.int .i64) (by omega), congrArg (Value.int .i64) (whole_step HY.out hj h12), blk_drewN bY2 _, blk_drewN bP2 _, pw_below_drewN hB2 _, hK2⟩, by simp [intOf]; omega⟩
      · obtain rfl : i = 12 := by omega
        have cP2 := bP2.cell
        have fP2 := bP2.frozen
        gi_wp2
        have hK' := (KeepsOthers.setCell wr ⟨w.heap.size + 1, 0, none⟩ (.int .i64 P)).same D _ hK2 rfl
        refine ⟨by simp, .inl ⟨_, _, rfl, run_takeDeferred hK', ?_⟩⟩
        have hc5 := cell_kept (World.cell?_setCell_same' wr ⟨w.heap.size + 1, 0, none⟩ (.int .i64 P) (by rw [cP2]; rfl)) (grownBy_putObj' _ D (.deferred none)) (fun r e => by cases e; exact ⟨_, hK', rfl⟩)
        refine ⟨.tuple #[.int .i64 P, .int .i64 (B (12 * j + 12) - B (12 * j)), .int .i64 0], ?_, rfl, (hB2.setCell (p := ⟨w.heap.size + 1, 0, none⟩) (by simp) _).trans (belowK_b (w := w) (Nat.le_refl _) _ D _ _ (by omega) hK' rfl rfl)⟩
        simp [results, Tryd.f33, go_sem, hc5]
  case stop =>
    rintro D c pre W hD ⟨post, hpost⟩ ⟨⟨rfl, p, x, rfl, hlt, bY1, bP1⟩, hB1⟩ hK
    have ex : xs = p ++ x :: post := by rw [← hpost]; simp
    have e : p.foldl (partF y) 0 = xs.foldl (partF y) 0 := by
      rw [ex, List.foldl_append]
      exact (part_none _ (fun z hz => by
        rcases List.mem_cons.1 hz with rfl | hz
        · exact hlt
        · have := mf_years hxs ex z hz
          omega)).symm
    rw [e, hP] at bP1
    clear e ex hpost hlt
    have HP := Aside0.mk hP
    have HXS := Aside0.mk hxs
    clear hP hxs bA bB bY bP hT0 hB0
    gi_wp2
    gi_loopw [7, 47] (fun v7 v47 wr => ∃ i : Nat, i ≤ 12 ∧ v47 = .int .i64 i ∧ v7 = .int .i64 (B (12 * j + i) - B (12 * j)) ∧ Boxed wr w.heap.size 3 (.int .i64 y) ∧ Boxed wr (w.heap.size + 1) 3 (.int .i64 P) ∧ Below w.heap.size w wr ∧ wr.heap[D]? = some (.deferred (some []))) (fun _ v47 _ => 12 - (intOf v47).toNat)
    case atStart => exact ⟨0, by omega, rfl, by simp, bY1, bP1, hB1, hK⟩
    case round =>
      obtain ⟨i, hi, rfl, rfl, bY2, bP2, hB2, hK2⟩ := hrel
      by_cases h12 : i < 12
      · have c12 : (i : Int) < 12 := by omega
        have cY2 := bY2.cell
        have hi1 : wrap64 ((i : Int) + 1) = (i : Int) + 1 := Go.Proofs.YtlipkhhpjelicaaDoor.Days.wr (by omega) (by omega)
        have hTr := hT.below hB2
        have hlE := last_p 0 y ((i : Int) + 1)
        gi_wp2_with (refine ⟨trivial, ?_⟩; gi_at_call 17; (with_reducible refine (callsIn_wide.2 (days_Last.calls 1 y ((i : Int) + 1) _ _ hTr hlE)).mono ?_); rintro e w' ⟨rfl, ⟨nd, rfl⟩⟩)
        exact ⟨⟨i + 1, by omega, congrArg (Value.int .i64) (by omega), congrArg (Value.int .i64) (whole_step HY.out hj h12), blk_drewN bY2 _, blk_drewN bP2 _, pw_below_drewN hB2 _, hK2⟩, by simp [intOf]; omega⟩
      · obtain rfl : i = 12 := by omega
        have cP2 := bP2.cell
        have fP2 := bP2.frozen
        gi_wp2
        have hK' := (KeepsOthers.setCell wr ⟨w.heap.size + 1, 0, none⟩ (.int .i64 P)).same D _ hK2 rfl
        refine ⟨by simp, .inl ⟨_, _, rfl, run_takeDeferred hK', ?_⟩⟩
        have hc5 := cell_kept (World.cell?_setCell_same' wr ⟨w.heap.size + 1, 0, none⟩ (.int .i64 P) (by rw [cP2]; rfl)) (grownBy_putObj' _ D (.deferred none)) (fun r e => by cases e; exact ⟨_, hK', rfl⟩)
        refine ⟨.tuple #[.int .i64 P, .int .i64 (B (12 * j + 12) - B (12 * j)), .int .i64 0], ?_, rfl, (hB2.setCell (p := ⟨w.heap.size + 1, 0, none⟩) (by simp) _).trans (belowK_b (w := w) (Nat.le_refl _) _ D _ _ (by omega) hK' rfl rfl)⟩
        simp [results, Tryd.f33, go_sem, hc5]

theorem part_cell (y : Int) (w : World) (n : Nat) : ((((w.alloc (.cells #[.int .i64 y] 3)).alloc (.cells #[.int .i64 0] 3)).drewN n).setCell ⟨w.heap.size + 1, 0, none⟩ (.int .i64 0)).cell? ⟨w.heap.size + 1, 0, none⟩ = some (.int .i64 0) := by
  have h := World.alloc_heap_new (w.alloc (.cells #[.int .i64 y] 3)) (.cells #[.int .i64 0] 3)
  rw [World.size_alloc] at h
  have hb : Boxed (((w.alloc (.cells #[.int .i64 y] 3)).alloc (.cells #[.int .i64 0] 3)).drewN n) (w.heap.size + 1) 3 (.int .i64 0) := blk_drewN h _
  exact World.cell?_setCell_same' _ _ _ (by rw [hb.cell]; rfl)

set_option maxRecDepth 100000 in
set_option maxHeartbeats 2000000 in
/-- Where a day or the year is none. -/
theorem share_no (a b y : Int) (w : World) (h : ¬ (0 ≤ a ∧ a ≤ 109572) ∨ ¬ (0 ≤ b ∧ b ≤ 109572) ∨ y < 1900 ∨ 2199 < y) :
    Calls Tryd.prog 33 #[.int .i64 a, .int .i64 b, .int .i64 y] w fun e w' => e = .returned (.tuple #[.int .i64 0, .int .i64 0, .int .i64 21]) ∧ Below w.heap.size w w' := by
  by_cases ha : 0 ≤ a ∧ a ≤ 109572
  · by_cases hb : 0 ≤ b ∧ b ≤ 109572
    · have HA := Aside0.mk ha
      have HB := Aside0.mk hb
      by_cases hy : y < 1900
      · clear ha hb h
        go_enter Tryd.func33, Tryd.ntmps33
        go_wp2_with (first | (go_at_call 48; (with_reducible refine (isDay_yes HA.out _).mono ?_); rintro e w' ⟨rfl, ⟨n1, rfl⟩⟩) | (go_at_call 48; (with_reducible refine (isDay_yes HB.out _).mono ?_); rintro e w' ⟨rfl, ⟨n2, rfl⟩⟩))
        have hc5 := part_cell y w (n1 + n2)
        refine bodyPost_ret (v := .tuple #[.int .i64 0, .int .i64 0, .int .i64 21]) ?_ rfl ⟨rfl, (pw_below_drewN (below_alloc (below_alloc (Below.refl _ _) _) _) _).setCell (p := ⟨w.heap.size + 1, 0, none⟩) (by simp) _⟩
        simp [results, Tryd.f33, go_sem, hc5]
      · have hy2 : 2199 < y := by omega
        clear ha hb h
        go_enter Tryd.func33, Tryd.ntmps33
        go_wp2_with (first | (go_at_call 48; (with_reducible refine (isDay_yes HA.out _).mono ?_); rintro e w' ⟨rfl, ⟨n1, rfl⟩⟩) | (go_at_call 48; (with_reducible refine (isDay_yes HB.out _).mono ?_); rintro e w' ⟨rfl, ⟨n2, rfl⟩⟩))
        have hc5 := part_cell y w (n1 + n2)
        refine bodyPost_ret (v := .tuple #[.int .i64 0, .int .i64 0, .int .i64 21]) ?_ rfl ⟨rfl, (pw_below_drewN (below_alloc (below_alloc (Below.refl _ _) _) _) _).setCell (p := ⟨w.heap.size + 1, 0, none⟩) (by simp) _⟩
        simp [results, Tryd.f33, go_sem, hc5]
    · have HA := Aside0.mk ha
      have HB := Aside0.mk hb
      clear ha hb h
      go_enter Tryd.func33, Tryd.ntmps33
      go_wp2_with (first | (go_at_call 48; (with_reducible refine (isDay_yes HA.out _).mono ?_); rintro e w' ⟨rfl, ⟨n1, rfl⟩⟩) | (go_at_call 48; (with_reducible refine (isDay_no HB.out _).mono ?_); rintro e w' ⟨rfl, ⟨n2, rfl⟩⟩))
      have hc5 := part_cell y w (n1 + n2)
      refine bodyPost_ret (v := .tuple #[.int .i64 0, .int .i64 0, .int .i64 21]) ?_ rfl ⟨rfl, (pw_below_drewN (below_alloc (below_alloc (Below.refl _ _) _) _) _).setCell (p := ⟨w.heap.size + 1, 0, none⟩) (by simp) _⟩
      simp [results, Tryd.f33, go_sem, hc5]
  · have HA := Aside0.mk ha
    clear ha h
    go_enter Tryd.func33, Tryd.ntmps33
    go_wp2_with (first | (go_at_call 48; (with_reducible refine (isDay_no HA.out _).mono ?_); rintro e w' ⟨rfl, ⟨n1, rfl⟩⟩))
    have hc5 := part_cell y w n1
    refine bodyPost_ret (v := .tuple #[.int .i64 0, .int .i64 0, .int .i64 21]) ?_ rfl ⟨rfl, (pw_below_drewN (below_alloc (below_alloc (Below.refl _ _) _) _) _).setCell (p := ⟨w.heap.size + 1, 0, none⟩) (by simp) _⟩
    simp [results, Tryd.f33, go_sem, hc5]

set_option maxRecDepth 100000 in
set_option maxHeartbeats 2000000 in
/-- Where the order is wrong. -/
theorem share_order (a b y : Int) (w : World) (ha : 0 ≤ a ∧ a ≤ 109572) (hb : 0 ≤ b ∧ b ≤ 109572) (hy : ¬ y < 1900) (hy2 : ¬ 2199 < y) (hab : b < a) :
    Calls Tryd.prog 33 #[.int .i64 a, .int .i64 b, .int .i64 y] w fun e w' => e = .returned (.tuple #[.int .i64 0, .int .i64 0, .int .i64 23]) ∧ Below w.heap.size w w' := by
  have HA := Aside0.mk ha
  have HB := Aside0.mk hb
  clear ha hb
  go_enter Tryd.func33, Tryd.ntmps33
  go_wp2_with (first | (go_at_call 48; (with_reducible refine (isDay_yes HA.out _).mono ?_); rintro e w' ⟨rfl, ⟨n1, rfl⟩⟩) | (go_at_call 48; (with_reducible refine (isDay_yes HB.out _).mono ?_); rintro e w' ⟨rfl, ⟨n2, rfl⟩⟩))
  have hc5 := part_cell y w (n1 + n2)
  refine bodyPost_ret (v := .tuple #[.int .i64 0, .int .i64 0, .int .i64 23]) ?_ rfl ⟨rfl, (pw_below_drewN (below_alloc (below_alloc (Below.refl _ _) _) _) _).setCell (p := ⟨w.heap.size + 1, 0, none⟩) (by simp) _⟩
  simp [results, Tryd.f33, go_sem, hc5]

/-- What the call comes to. -/
def days_Share.f (a b y : Int) : Option (Int × Int × Int) := some (shareS a b y)

theorem days_Share.calls (a0 a1 a2 r1 r2 r3 : Int) (w : World) (hT : Tabs w) (h : days_Share.f a0 a1 a2 = some (r1, r2, r3)) :
    Calls Tryd.prog 33 #[.int .i64 a0, .int .i64 a1, .int .i64 a2] w fun e w' => e = .returned (.tuple #[.int .i64 r1, .int .i64 r2, .int .i64 r3]) ∧ Below w.heap.size w w' := by
  have e : shareS a0 a1 a2 = (r1, r2, r3) := Option.some.inj h
  unfold shareS at e
  by_cases c1 : ¬ (0 ≤ a0 ∧ a0 ≤ 109572) ∨ ¬ (0 ≤ a1 ∧ a1 ≤ 109572) ∨ a2 < 1900 ∨ 2199 < a2
  · rw [if_pos c1] at e
    cases e
    exact share_no a0 a1 a2 w c1
  · rw [if_neg c1] at e
    have ha : 0 ≤ a0 ∧ a0 ≤ 109572 := Classical.byContradiction fun hc => c1 (.inl hc)
    have hb : 0 ≤ a1 ∧ a1 ≤ 109572 := Classical.byContradiction fun hc => c1 (.inr (.inl hc))
    have hy1 : ¬ a2 < 1900 := fun hc => c1 (.inr (.inr (.inl hc)))
    have hy2 : ¬ 2199 < a2 := fun hc => c1 (.inr (.inr (.inr hc)))
    by_cases c2 : a1 < a0
    · rw [if_pos c2] at e
      cases e
      exact share_order a0 a1 a2 w ha hb hy1 hy2 c2
    · rw [if_neg c2] at e
      cases e
      obtain ⟨xs, hxs⟩ := mf_span (last := min a1 109572) (by omega) (n := max a0 0) (by omega)
      have hj : (a2 - 1900).toNat < 300 := by omega
      have hy : a2 = 1900 + (((a2 - 1900).toNat : Nat) : Int) := by omega
      refine share_ok a0 a1 (a2 - 1900).toNat hj w hT ha hb (by omega) a2 hy xs hxs _ ?_
      have hs := part_sum (by omega) hj hxs (s := 0) (by omega) (by omega) (by omega)
      rw [← hy] at hs
      rw [hs, show min a1 109572 = a1 by omega, show max a0 0 = a0 by omega]
      omega

end Go.Proofs.YtlipkhhpjelicaaDoor.PA
