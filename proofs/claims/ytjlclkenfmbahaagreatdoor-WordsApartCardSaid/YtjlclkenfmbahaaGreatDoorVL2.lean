/- Several texts of this claim in one, each in a section of its own; what nothing reaches is left out. Conditions: each law's own. -/
import Derived.Test.YtjlclkenfmbahaaGreatDoorVPAx0
import Derived.Test.YtjlclkenfmbahaaGreatDoorVL
set_option linter.unusedVariables false
set_option linter.unusedSimpArgs false
set_option linter.unusedSectionVars false
section
namespace Go.Proofs.YtjlclkenfmbahaaGreatDoor.PA
open Go.RowKit Go.Proofs.YtjlclkenfmbahaaGreatDoorW.PrintWords Go.Proofs.YtjlclkenfmbahaaGreatDoorW.PrintLast Go.Proofs.YtjlclkenfmbahaaGreatDoorW.PrintMore
attribute [local go_sem] max2_int min2_int max_two min_two max_three min_three max_four min_four
mutual
def levyref4_numbered.j0 : Nat → ByteArray → Bool → ByteArray → Bool → Bool → Option (Int × Int × ByteArray × Int × Int × Bool)
 | 0, _, _, _, _, _ => none
 | k + 1, x0, x1, x2, x3, x21 => if x21 = true then (some (0, 0, (⟨#[]⟩ : ByteArray), 0, 0, false)) else ((levyref4_whole.f k x0).bind fun t125 => (if x3 = true then (if x1 = true then (if (x2.size : Int) > 6 then (levyref4_numbered.j1 k x2 t125 true) else (if 0 ≤ (wrap64 ((x2.size : Int) - 1)) then (if (wrap64 ((x2.size : Int) - 1)) < (x2.size : Int) then (if (bt x2 (wrap64 ((x2.size : Int) - 1))) = 48 then (levyref4_numbered.j1 k x2 t125 true) else (levyref4_numbered.j1 k x2 t125 (decide (t125 > 100000000000)))) else (none)) else (none))) else (levyref4_numbered.j1 k x2 t125 (decide (t125 > 100000000000)))) else (if x1 = true then (if (x2.size : Int) = 2 then (if t125 > 9999999999999 then (some (0, 0, (⟨#[]⟩ : ByteArray), 0, 0, false)) else ((levyref4_whole.f k x2).bind fun t127 => (some (2, 0, (⟨#[]⟩ : ByteArray), wrap64 ((wrap64 (100 * t125)) + t127), 0, decide ((wrap64 ((wrap64 (100 * t125)) + t127)) ≤ 9999999999999))))) else (some (0, 0, (⟨#[]⟩ : ByteArray), 0, 0, false))) else (some (3, 0, (⟨#[]⟩ : ByteArray), t125, 0, decide (t125 ≤ 1000000000))))))
def levyref4_numbered.j1 : Nat → ByteArray → Int → Bool → Option (Int × Int × ByteArray × Int × Int × Bool)
 | 0, _, _, _ => none
 | k + 1, x2, x10, x43 => if x43 = true then (some (0, 0, (⟨#[]⟩ : ByteArray), 0, 0, false)) else (levyref4_numbered.l0 k x2 x10 100 0)
def levyref4_numbered.l0 : Nat → ByteArray → Int → Int → Int → Option (Int × Int × ByteArray × Int × Int × Bool)
 | 0, _, _, _, _ => none
 | k + 1, x2, x10, x11, x12 => if x12 < (x2.size : Int) then (if 0 ≤ x12 then (levyref4_numbered.l0 k x2 (wrap64 ((wrap64 (10 * x10)) + (((bt x2 x12) - 48) % 256))) (wrap64 (x11 * 10)) (wrap64 (x12 + 1))) else (none)) else ((levyref4_common.f k x10 x11).bind fun t126 => (if t126 = 0 then (none) else (if (wrap64 (Int.tdiv x10 t126)) ≤ 1000000000 then (some (4, 0, (⟨#[]⟩ : ByteArray), wrap64 (Int.tdiv x10 t126), wrap64 (Int.tdiv x11 t126), decide ((wrap64 (Int.tdiv x11 t126)) ≤ 1000000000))) else (some (4, 0, (⟨#[]⟩ : ByteArray), wrap64 (Int.tdiv x10 t126), wrap64 (Int.tdiv x11 t126), false)))))
end
def levyref4_numbered.f (k : Nat) (a0 : ByteArray) (a1 : Bool) (a2 : ByteArray) (a3 : Bool) : Option (Int × Int × ByteArray × Int × Int × Bool) := if (a0.size : Int) > 1 then (if 0 < (a0.size : Int) then (levyref4_numbered.j0 k a0 a1 a2 a3 ((bt a0 0) == 48)) else (none)) else (levyref4_numbered.j0 k a0 a1 a2 a3 false)
set_option maxHeartbeats 8000000 in
set_option maxRecDepth 100000 in
theorem levyref4_numbered.calls (k : Nat) (a0 : ByteArray) (a1 : Bool) (a2 : ByteArray) (a3 : Bool) (r1 : Int) (r2 : Int) (r3 : ByteArray) (r4 : Int) (r5 : Int) (r6 : Bool) (w : World) (h : levyref4_numbered.f k a0 a1 a2 a3 = some (r1, r2, r3, r4, r5, r6)) :
  Calls Tryz.prog 200 #[.string a0, .bool a1, .string a2, .bool a3] w fun e w' => e = .returned (.tuple #[.agg #[.int .i64 r1, .int .i64 r2, .string r3, .int .i64 r4, .int .i64 r5], .bool r6]) ∧ Below w.heap.size w w' := by
 have hu57 := Tryz.underlying57
 have HB := Aside0.mk (Below.refl w.heap.size w)
 have H : (if (a0.size : Int) > 1 then (if 0 < (a0.size : Int) then (levyref4_numbered.j0 k a0 a1 a2 a3 ((bt a0 0) == 48)) else (none)) else (levyref4_numbered.j0 k a0 a1 a2 a3 false)) = some (r1, r2, r3, r4, r5, r6) := h
 clear h
 have HC5 := Aside0.mk H
 clear H
 go_enter Tryz.func200, Tryz.ntmps200
 go_upto_region 1 with (first | ((with_reducible refine gate_dst (N := 8) rfl ?_); (try (refine gate_guard (by rfl) ?_; dsimp only)); refine box_event ?hg (N := 8) ?hd (cs := #[.int .i64 0, .int .i64 0, .string ⟨#[]⟩, .int .i64 0, .int .i64 0]) (t := 57) ?hr ?_; (case hd => rfl); (case hg => rfl); (case hr => first | (go_simp; done) | (go_simp; rfl)); intro gb124 hg w6 hbox hb; have n0_ := Aside0.mk (below_step (by repeat (first | (with_reducible first | exact HB.out | apply below_alloc | apply pw_below_drewN | apply below_drew1) | exact HB.out)) hb); have n1_ := Aside0.mk (hbox); have n2_ := Aside0.mk ((by rw [hg]; exact (below_size (by repeat (first | (with_reducible first | exact HB.out | apply below_alloc | apply pw_below_drewN | apply below_drew1) | exact HB.out))) : w.heap.size ≤ gb124)); have n3_ := Aside0.mk ((by rw [hg]; exact (below_size (by repeat (first | (with_reducible first | exact HB.out | apply below_alloc | apply pw_below_drewN | apply below_drew1) | exact HB.out))) : w.heap.size ≤ gb124)); clear HB; have HB := n0_; have BK124 := n1_; have GW124 := n2_; have GE124 := n3_; clear n0_ n1_ n2_ n3_; clear hb hbox hg))
 (try simp only [Act.put, List.setIfInBounds_toArray, List.set_cons_zero, List.set_cons_succ])
 go_cut [21] (fun v21 wc => ∃ (kq : Nat) (x21_4 : Bool), v21 = .bool x21_4 ∧ Aside0 (levyref4_numbered.j0 kq a0 a1 a2 a3 x21_4 = some (r1, r2, r3, r4, r5, r6)) ∧ Aside0 (kq ≤ k) ∧ Aside0 (wc.heap[gb124]? = some (.cells #[.int .i64 0, .int .i64 0, .string ⟨#[]⟩, .int .i64 0, .int .i64 0] 57 (0, 0))) ∧ Aside0 (Below w.heap.size w wc))
 case first =>
  have H := HC5.out
  clear HC5
  by_cases c7 : (a0.size : Int) > 1
  ·rw [if_pos c7] at H
   have c7b0 : decide (1 < (a0.size : Int)) = true := decide_eq_true c7
   have c7b1 : decide (1 < a0.size) = true := decide_eq_true (by omega)
   clear c7
   (first | rw [c7b0] | (simp only [i64_w, i32_w]; rw [c7b0]) | skip)
   by_cases c8 : 0 < (a0.size : Int)
   ·rw [if_pos c8] at H
    have c8b0 : decide (0 < (a0.size : Int)) = true := decide_eq_true c8
    have c8b1 : decide (0 < a0.size) = true := decide_eq_true (by omega)
    clear c8
    have H' := Aside0.mk H
    clear H
    have p9 : 0 ≤ (0 : Int) := (by omega)
    have q9 : 0 < a0.size := (by have : (0 : Int) < (a0.size : Int) := of_decide_eq_true (by assumption); omega)
    have hx9 : ∀ h : 0 < a0.size, ((a0[0]'h).toNat : Int) = bt a0 0 := bt_at a0 0
    clear p9
    have qi9 : (0 < (a0.size : Int)) = True := eq_true (of_decide_eq_true (by assumption))
    replace q9 := eq_true q9
    go_wp2
    go_meet
    case rel => exact ⟨_, (((bt a0 0) == 48)), (by first | rfl | (simp [*]; done)), H', ⟨by first | omega | exact Nat.le_refl _⟩, ⟨by (with_reducible repeat (first | refine blk_drewN ?_ _ | refine blk_drew ?_ | refine blk_alloc ?_ _)); exact BK124.out⟩, ⟨by repeat (first | (with_reducible first | exact HB.out | apply below_alloc | apply pw_below_drewN | apply below_drew1 | refine below_set ?_ GE124.out) | exact HB.out)⟩⟩
   ·rw [if_neg c8] at H
    exact absurd H (by simp)
  ·rw [if_neg c7] at H
   have c7b0 : decide (1 < (a0.size : Int)) = false := decide_eq_false c7
   have c7b1 : decide (1 < a0.size) = false := decide_eq_false (by omega)
   clear c7
   (first | rw [c7b0] | (simp only [i64_w, i32_w]; rw [c7b0]) | skip)
   have H' := Aside0.mk H
   clear H
   go_wp2
   go_meet
   case rel => exact ⟨_, (false), (by first | rfl | (simp [*]; done)), H', ⟨by first | omega | exact Nat.le_refl _⟩, ⟨by (with_reducible repeat (first | refine blk_drewN ?_ _ | refine blk_drew ?_ | refine blk_alloc ?_ _)); exact BK124.out⟩, ⟨by repeat (first | (with_reducible first | exact HB.out | apply below_alloc | apply pw_below_drewN | apply below_drew1 | refine below_set ?_ GE124.out) | exact HB.out)⟩⟩
 case rest =>
  clear HC5
  try clear c2
  try clear p2
  try clear c7
  try clear c7b0
  try clear c7b1
  try clear c8
  try clear c8b0
  try clear c8b1
  try clear p9
  try clear q9
  try clear hx9
  try clear qi9
  try clear p9
  try clear q9
  obtain ⟨kq, x21_4, rfl, HA, HJ4, BK124, HB⟩ := hcut
  cases kq with
  | zero => exact absurd HA.out (by simp [levyref4_numbered.j0])
  | succ kj4 =>
   have H := HA.out
   clear HA
   simp only [levyref4_numbered.j0] at H
   by_cases c10 : x21_4 = true
   ·subst c10
    have H1 : (some (0, 0, (⟨#[]⟩ : ByteArray), 0, 0, false)) = some (r1, r2, r3, r4, r5, r6) := by rw [if_pos rfl] at H; exact H
    clear H
    have H := H1
    clear H1
    simp only [Option.some.injEq, Prod.mk.injEq] at H
    obtain ⟨rfl, rfl, rfl, rfl, rfl, rfl⟩ := H
    have hcz11_0 : wc.cell? ⟨gb124, 0, none⟩ = some (.int .i64 0) := (blk_cell BK124.out 0).trans rfl
    have hcz11_1 : wc.cell? ⟨gb124, 1, none⟩ = some (.int .i64 0) := (blk_cell BK124.out 1).trans rfl
    have hcz11_2 : wc.cell? ⟨gb124, 2, none⟩ = some (.string ⟨#[]⟩) := (blk_cell BK124.out 2).trans rfl
    have hcz11_3 : wc.cell? ⟨gb124, 3, none⟩ = some (.int .i64 0) := (blk_cell BK124.out 3).trans rfl
    have hcz11_4 : wc.cell? ⟨gb124, 4, none⟩ = some (.int .i64 0) := (blk_cell BK124.out 4).trans rfl
    have hfz11_0 := blk_frozen BK124.out 0
    have hfz11_1 := blk_frozen BK124.out 1
    have hfz11_2 := blk_frozen BK124.out 2
    have hfz11_3 := blk_frozen BK124.out 3
    have hfz11_4 := blk_frozen BK124.out 4
    go_wp2
    refine bodyPost_ret (results_ct rfl _ _ gb124 57 #[.int .i64 0, .int .i64 0, .string ⟨#[]⟩, .int .i64 0, .int .i64 0] (0, 0) _ rfl (by (with_reducible repeat (first | refine blk_drewN ?_ _ | refine blk_drew ?_ | refine blk_alloc ?_ _)); refine blk_put (cs := #[.int .i64 0, .int .i64 0, .string ⟨#[]⟩, .int .i64 0, .int .i64 0]) ?_ 4 _ rfl; (with_reducible repeat (first | refine blk_drewN ?_ _ | refine blk_drew ?_ | refine blk_alloc ?_ _)); refine blk_put (cs := #[.int .i64 0, .int .i64 0, .string ⟨#[]⟩, .int .i64 0, .int .i64 0]) ?_ 3 _ rfl; (with_reducible repeat (first | refine blk_drewN ?_ _ | refine blk_drew ?_ | refine blk_alloc ?_ _)); refine blk_put (cs := #[.int .i64 0, .int .i64 0, .string ⟨#[]⟩, .int .i64 0, .int .i64 0]) ?_ 2 _ rfl; (with_reducible repeat (first | refine blk_drewN ?_ _ | refine blk_drew ?_ | refine blk_alloc ?_ _)); refine blk_put (cs := #[.int .i64 0, .int .i64 0, .string ⟨#[]⟩, .int .i64 0, .int .i64 0]) ?_ 1 _ rfl; (with_reducible repeat (first | refine blk_drewN ?_ _ | refine blk_drew ?_ | refine blk_alloc ?_ _)); refine blk_put (cs := #[.int .i64 0, .int .i64 0, .string ⟨#[]⟩, .int .i64 0, .int .i64 0]) ?_ 0 _ rfl; (with_reducible repeat (first | refine blk_drewN ?_ _ | refine blk_drew ?_ | refine blk_alloc ?_ _)); exact BK124.out) Tryz.underlying57 rfl (by kernel_rfl)) rfl ?_
    exact ⟨by first | rfl | (simp [errW_none, errW_some] <;> rfl) | (simp [*, errW_none, errW_some] <;> rfl), by repeat (first | (with_reducible first | exact HB.out | apply below_alloc | apply pw_below_drewN | apply below_drew1 | refine below_set ?_ GE124.out) | exact HB.out)⟩
   ·replace c10 := Bool.eq_false_iff.mpr c10
    subst c10
    have H1 : ((levyref4_whole.f kj4 a0).bind fun t125 => (if a3 = true then (if a1 = true then (if (a2.size : Int) > 6 then (levyref4_numbered.j1 kj4 a2 t125 true) else (if 0 ≤ (wrap64 ((a2.size : Int) - 1)) then (if (wrap64 ((a2.size : Int) - 1)) < (a2.size : Int) then (if (bt a2 (wrap64 ((a2.size : Int) - 1))) = 48 then (levyref4_numbered.j1 kj4 a2 t125 true) else (levyref4_numbered.j1 kj4 a2 t125 (decide (t125 > 100000000000)))) else (none)) else (none))) else (levyref4_numbered.j1 kj4 a2 t125 (decide (t125 > 100000000000)))) else (if a1 = true then (if (a2.size : Int) = 2 then (if t125 > 9999999999999 then (some (0, 0, (⟨#[]⟩ : ByteArray), 0, 0, false)) else ((levyref4_whole.f kj4 a2).bind fun t127 => (some (2, 0, (⟨#[]⟩ : ByteArray), wrap64 ((wrap64 (100 * t125)) + t127), 0, decide ((wrap64 ((wrap64 (100 * t125)) + t127)) ≤ 9999999999999))))) else (some (0, 0, (⟨#[]⟩ : ByteArray), 0, 0, false))) else (some (3, 0, (⟨#[]⟩ : ByteArray), t125, 0, decide (t125 ≤ 1000000000)))))) = some (r1, r2, r3, r4, r5, r6) := by rw [if_neg (show ¬ (false = true) by decide)] at H; exact H
    clear H
    have H := H1
    clear H1
    replace H := Option.bind_eq_some_iff.mp H
    obtain ⟨t125, A120, H⟩ := H
    replace H : (if a3 = true then (if a1 = true then (if (a2.size : Int) > 6 then (levyref4_numbered.j1 kj4 a2 t125 true) else (if 0 ≤ (wrap64 ((a2.size : Int) - 1)) then (if (wrap64 ((a2.size : Int) - 1)) < (a2.size : Int) then (if (bt a2 (wrap64 ((a2.size : Int) - 1))) = 48 then (levyref4_numbered.j1 kj4 a2 t125 true) else (levyref4_numbered.j1 kj4 a2 t125 (decide (t125 > 100000000000)))) else (none)) else (none))) else (levyref4_numbered.j1 kj4 a2 t125 (decide (t125 > 100000000000)))) else (if a1 = true then (if (a2.size : Int) = 2 then (if t125 > 9999999999999 then (some (0, 0, (⟨#[]⟩ : ByteArray), 0, 0, false)) else ((levyref4_whole.f kj4 a2).bind fun t127 => (some (2, 0, (⟨#[]⟩ : ByteArray), wrap64 ((wrap64 (100 * t125)) + t127), 0, decide ((wrap64 ((wrap64 (100 * t125)) + t127)) ≤ 9999999999999))))) else (some (0, 0, (⟨#[]⟩ : ByteArray), 0, 0, false))) else (some (3, 0, (⟨#[]⟩ : ByteArray), t125, 0, decide (t125 ≤ 1000000000))))) = some (r1, r2, r3, r4, r5, r6) := H
    have A12 := Aside0.mk A120
    clear A120
    by_cases c13 : a3 = true
    ·subst c13
     have H1 : (if a1 = true then (if (a2.size : Int) > 6 then (levyref4_numbered.j1 kj4 a2 t125 true) else (if 0 ≤ (wrap64 ((a2.size : Int) - 1)) then (if (wrap64 ((a2.size : Int) - 1)) < (a2.size : Int) then (if (bt a2 (wrap64 ((a2.size : Int) - 1))) = 48 then (levyref4_numbered.j1 kj4 a2 t125 true) else (levyref4_numbered.j1 kj4 a2 t125 (decide (t125 > 100000000000)))) else (none)) else (none))) else (levyref4_numbered.j1 kj4 a2 t125 (decide (t125 > 100000000000)))) = some (r1, r2, r3, r4, r5, r6) := by rw [if_pos rfl] at H; exact H
     clear H
     have H := H1
     clear H1
     have HC14 := Aside0.mk H
     clear H
     go_upto_region 5 with (first | ((with_reducible refine gate_callee (f := 219) rfl ?_); refine goesL_ (some 24) rfl rfl Tryz.func219 (by kernel_rfl) rfl #[.string a0] rfl (by (try simp only [List.map_toArray, List.map_cons, List.map_nil]); first | done | rfl | (simp only [List.length_drop, List.length_take]; rfl)) ?_; (with_reducible refine (levyref4_whole.calls kj4 a0 t125 _ A12.out).mono ?_); rintro e w' ⟨rfl, ⟨nd, rfl⟩⟩; refine ⟨_, rfl, ?_⟩))
     (try simp only [Act.put, List.setIfInBounds_toArray, List.set_cons_zero, List.set_cons_succ])
     go_cut [43] (fun v43 wc => ∃ (kq : Nat) (x43_13 : Bool), v43 = .bool x43_13 ∧ Aside0 (levyref4_numbered.j1 kq a2 t125 x43_13 = some (r1, r2, r3, r4, r5, r6)) ∧ Aside0 (kq ≤ kj4) ∧ Aside0 (wc.heap[gb124]? = some (.cells #[.int .i64 0, .int .i64 0, .string ⟨#[]⟩, .int .i64 0, .int .i64 0] 57 (0, 0))) ∧ Aside0 (Below w.heap.size w wc))
     case first =>
      have H := HC14.out
      clear HC14
      by_cases c15 : a1 = true
      ·subst c15
       have H1 : (if (a2.size : Int) > 6 then (levyref4_numbered.j1 kj4 a2 t125 true) else (if 0 ≤ (wrap64 ((a2.size : Int) - 1)) then (if (wrap64 ((a2.size : Int) - 1)) < (a2.size : Int) then (if (bt a2 (wrap64 ((a2.size : Int) - 1))) = 48 then (levyref4_numbered.j1 kj4 a2 t125 true) else (levyref4_numbered.j1 kj4 a2 t125 (decide (t125 > 100000000000)))) else (none)) else (none))) = some (r1, r2, r3, r4, r5, r6) := by rw [if_pos rfl] at H; exact H
       clear H
       have H := H1
       clear H1
       by_cases c16 : (a2.size : Int) > 6
       ·rw [if_pos c16] at H
        have c16b0 : decide (6 < (a2.size : Int)) = true := decide_eq_true c16
        have c16b1 : decide (6 < a2.size) = true := decide_eq_true (by omega)
        clear c16
        (first | rw [c16b0] | (simp only [i64_w, i32_w]; rw [c16b0]) | skip)
        have H' := Aside0.mk H
        clear H
        go_wp2
        go_meet
        case rel => exact ⟨_, (true), (by first | rfl | (simp [*]; done)), H', ⟨by have := HJ4.out; first | omega | exact Nat.le_refl _⟩, ⟨by (with_reducible repeat (first | refine blk_drewN ?_ _ | refine blk_drew ?_ | refine blk_alloc ?_ _)); exact BK124.out⟩, ⟨by repeat (first | (with_reducible first | exact HB.out | apply below_alloc | apply pw_below_drewN | apply below_drew1 | refine below_set ?_ GE124.out) | exact HB.out)⟩⟩
       ·rw [if_neg c16] at H
        have c16b0 : decide (6 < (a2.size : Int)) = false := decide_eq_false c16
        have c16b1 : decide (6 < a2.size) = false := decide_eq_false (by omega)
        clear c16
        (first | rw [c16b0] | (simp only [i64_w, i32_w]; rw [c16b0]) | skip)
        obtain ⟨ji17, hji17⟩ : ∃ j_ : Int, (wrap64 ((a2.size : Int) - 1)) = j_ := ⟨_, rfl⟩
        replace H : (if 0 ≤ (ji17) then (if (ji17) < (a2.size : Int) then (if (bt a2 (ji17)) = 48 then (levyref4_numbered.j1 kj4 a2 t125 true) else (levyref4_numbered.j1 kj4 a2 t125 (decide (t125 > 100000000000)))) else (none)) else (none)) = some (r1, r2, r3, r4, r5, r6) := by first | (rw [hji17] at H; exact H) | (simp only [hji17] at H ⊢; exact H)
        have hji17w : (IntKind.i64.wrap ((a2.size : Int) - 1)) = ji17 := (i64_w _).trans hji17
        by_cases c18 : 0 ≤ (ji17)
        ·rw [if_pos c18] at H
         have c18b0 : decide (0 ≤ (ji17)) = true := decide_eq_true c18
         clear c18
         by_cases c19 : (ji17) < (a2.size : Int)
         ·rw [if_pos c19] at H
          have c19b0 : decide ((ji17) < (a2.size : Int)) = true := decide_eq_true c19
          clear c19
          by_cases c21 : (bt a2 (ji17)) = 48
          ·rw [if_pos c21] at H
           have c21b0 : ((bt a2 (ji17)) == 48) = true := beq_iff_eq.mpr c21
           have c21b1 : ((bt a2 (ji17)) != 48) = false := bne_eq_false_iff_eq.mpr c21
           clear c21
           have H' := Aside0.mk H
           clear H
           have p20 : 0 ≤ ((ji17) : Int) := of_decide_eq_true (by assumption)
           have q20 : (ji17) < (a2.size : Int) := of_decide_eq_true (by assumption)
           have hx20 := bt_at a2 (ji17)
           replace p20 := eq_true p20
           replace q20 := eq_true q20
           go_wp2
           go_meet
           case rel => exact ⟨_, (true), (by first | rfl | (simp [*]; done)), H', ⟨by have := HJ4.out; first | omega | exact Nat.le_refl _⟩, ⟨by (with_reducible repeat (first | refine blk_drewN ?_ _ | refine blk_drew ?_ | refine blk_alloc ?_ _)); exact BK124.out⟩, ⟨by repeat (first | (with_reducible first | exact HB.out | apply below_alloc | apply pw_below_drewN | apply below_drew1 | refine below_set ?_ GE124.out) | exact HB.out)⟩⟩
          ·rw [if_neg c21] at H
           have c21b0 : ((bt a2 (ji17)) == 48) = false := beq_eq_false_iff_ne.mpr c21
           have c21b1 : ((bt a2 (ji17)) != 48) = true := bne_iff_ne.mpr c21
           have H' := Aside0.mk H
           clear H
           have p20 : 0 ≤ ((ji17) : Int) := of_decide_eq_true (by assumption)
           have q20 : (ji17) < (a2.size : Int) := of_decide_eq_true (by assumption)
           have hx20 := bt_at a2 (ji17)
           replace p20 := eq_true p20
           replace q20 := eq_true q20
           go_wp2
           go_meet
           case rel => exact ⟨_, (decide (t125 > 100000000000)), (by first | rfl | (simp [*]; done)), H', ⟨by have := HJ4.out; first | omega | exact Nat.le_refl _⟩, ⟨by (with_reducible repeat (first | refine blk_drewN ?_ _ | refine blk_drew ?_ | refine blk_alloc ?_ _)); exact BK124.out⟩, ⟨by repeat (first | (with_reducible first | exact HB.out | apply below_alloc | apply pw_below_drewN | apply below_drew1 | refine below_set ?_ GE124.out) | exact HB.out)⟩⟩
         ·rw [if_neg c19] at H
          exact absurd H (by simp)
        ·rw [if_neg c18] at H
         exact absurd H (by simp)
      ·replace c15 := Bool.eq_false_iff.mpr c15
       subst c15
       have H1 : (levyref4_numbered.j1 kj4 a2 t125 (decide (t125 > 100000000000))) = some (r1, r2, r3, r4, r5, r6) := by rw [if_neg (show ¬ (false = true) by decide)] at H; exact H
       clear H
       have H := H1
       clear H1
       have H' := Aside0.mk H
       clear H
       go_wp2
       go_meet
       case rel => exact ⟨_, (decide (t125 > 100000000000)), (by first | rfl | (simp [*]; done)), H', ⟨by have := HJ4.out; first | omega | exact Nat.le_refl _⟩, ⟨by (with_reducible repeat (first | refine blk_drewN ?_ _ | refine blk_drew ?_ | refine blk_alloc ?_ _)); exact BK124.out⟩, ⟨by repeat (first | (with_reducible first | exact HB.out | apply below_alloc | apply pw_below_drewN | apply below_drew1 | refine below_set ?_ GE124.out) | exact HB.out)⟩⟩
     case rest =>
      clear HC14
      try clear c1
      try clear c2
      try clear p2
      try clear q2
      try clear hx2
      try clear p6
      try clear c7
      try clear c7b0
      try clear c7b1
      try clear c8
      try clear c8b0
      try clear c8b1
      try clear p9
      try clear q9
      try clear hx9
      try clear qi9
      try clear c10
      try clear c13
      try clear c15
      try clear c16
      try clear c16b0
      try clear c16b1
      try clear c18
      try clear c18b0
      try clear c19
      try clear c19b0
      try clear c20
      try clear p20
      try clear q20
      try clear hx20
      try clear c21
      try clear c21b0
      try clear c21b1
      try clear hcz11_0
      try clear hcz11_1
      try clear hcz11_2
      try clear hcz11_3
      try clear hcz11_4
      try clear hfz11_0
      try clear hfz11_1
      try clear hfz11_2
      try clear hfz11_3
      try clear hfz11_4
      try clear p2
      try clear p20
      try clear p9
      try clear q20
      try clear q9
      obtain ⟨kq, x43_13, rfl, HA, HJ13, BK124, HB⟩ := hcut
      cases kq with
      | zero => exact absurd HA.out (by simp [levyref4_numbered.j1])
      | succ kj13 =>
       have H := HA.out
       clear HA
       simp only [levyref4_numbered.j1] at H
       by_cases c22 : x43_13 = true
       ·subst c22
        have H1 : (some (0, 0, (⟨#[]⟩ : ByteArray), 0, 0, false)) = some (r1, r2, r3, r4, r5, r6) := by rw [if_pos rfl] at H; exact H
        clear H
        have H := H1
        clear H1
        simp only [Option.some.injEq, Prod.mk.injEq] at H
        obtain ⟨rfl, rfl, rfl, rfl, rfl, rfl⟩ := H
        have hcz23_0 : wc.cell? ⟨gb124, 0, none⟩ = some (.int .i64 0) := (blk_cell BK124.out 0).trans rfl
        have hcz23_1 : wc.cell? ⟨gb124, 1, none⟩ = some (.int .i64 0) := (blk_cell BK124.out 1).trans rfl
        have hcz23_2 : wc.cell? ⟨gb124, 2, none⟩ = some (.string ⟨#[]⟩) := (blk_cell BK124.out 2).trans rfl
        have hcz23_3 : wc.cell? ⟨gb124, 3, none⟩ = some (.int .i64 0) := (blk_cell BK124.out 3).trans rfl
        have hcz23_4 : wc.cell? ⟨gb124, 4, none⟩ = some (.int .i64 0) := (blk_cell BK124.out 4).trans rfl
        have hfz23_0 := blk_frozen BK124.out 0
        have hfz23_1 := blk_frozen BK124.out 1
        have hfz23_2 := blk_frozen BK124.out 2
        have hfz23_3 := blk_frozen BK124.out 3
        have hfz23_4 := blk_frozen BK124.out 4
        go_wp2
        refine bodyPost_ret (results_ct rfl _ _ gb124 57 #[.int .i64 0, .int .i64 0, .string ⟨#[]⟩, .int .i64 0, .int .i64 0] (0, 0) _ rfl (by (with_reducible repeat (first | refine blk_drewN ?_ _ | refine blk_drew ?_ | refine blk_alloc ?_ _)); refine blk_put (cs := #[.int .i64 0, .int .i64 0, .string ⟨#[]⟩, .int .i64 0, .int .i64 0]) ?_ 4 _ rfl; (with_reducible repeat (first | refine blk_drewN ?_ _ | refine blk_drew ?_ | refine blk_alloc ?_ _)); refine blk_put (cs := #[.int .i64 0, .int .i64 0, .string ⟨#[]⟩, .int .i64 0, .int .i64 0]) ?_ 3 _ rfl; (with_reducible repeat (first | refine blk_drewN ?_ _ | refine blk_drew ?_ | refine blk_alloc ?_ _)); refine blk_put (cs := #[.int .i64 0, .int .i64 0, .string ⟨#[]⟩, .int .i64 0, .int .i64 0]) ?_ 2 _ rfl; (with_reducible repeat (first | refine blk_drewN ?_ _ | refine blk_drew ?_ | refine blk_alloc ?_ _)); refine blk_put (cs := #[.int .i64 0, .int .i64 0, .string ⟨#[]⟩, .int .i64 0, .int .i64 0]) ?_ 1 _ rfl; (with_reducible repeat (first | refine blk_drewN ?_ _ | refine blk_drew ?_ | refine blk_alloc ?_ _)); refine blk_put (cs := #[.int .i64 0, .int .i64 0, .string ⟨#[]⟩, .int .i64 0, .int .i64 0]) ?_ 0 _ rfl; (with_reducible repeat (first | refine blk_drewN ?_ _ | refine blk_drew ?_ | refine blk_alloc ?_ _)); exact BK124.out) Tryz.underlying57 rfl (by kernel_rfl)) rfl ?_
        exact ⟨by first | rfl | (simp [errW_none, errW_some] <;> rfl) | (simp [*, errW_none, errW_some] <;> rfl), by repeat (first | (with_reducible first | exact HB.out | apply below_alloc | apply pw_below_drewN | apply below_drew1 | refine below_set ?_ GE124.out) | exact HB.out)⟩
       ·replace c22 := Bool.eq_false_iff.mpr c22
        subst c22
        have H1 : (levyref4_numbered.l0 kj13 a2 t125 100 0) = some (r1, r2, r3, r4, r5, r6) := by rw [if_neg (show ¬ (false = true) by decide)] at H; exact H
        clear H
        have H := H1
        clear H1
        have H' := Aside0.mk H
        clear H
        go_wp2
        go_loopg [10, 11, 12] kj13 (fun kq v10 v11 v12 w' => ∃ (x10_3 : Int) (x11_3 : Int) (x12_3 : Int), v10 = .int .i64 x10_3 ∧ v11 = .int .i64 x11_3 ∧ v12 = .int .i64 x12_3 ∧ Aside0 (levyref4_numbered.l0 kq a2 x10_3 x11_3 x12_3 = some (r1, r2, r3, r4, r5, r6)) ∧ Aside0 (kq ≤ kj13) ∧ Aside0 (w'.heap[gb124]? = some (.cells #[.int .i64 0, .int .i64 0, .string ⟨#[]⟩, .int .i64 0, .int .i64 0] 57 (0, 0))) ∧ Aside0 (Below w.heap.size w w'))
        case atStart => exact ⟨(t125), (100), (0), (by first | rfl | (simp [*]; done)), (by first | rfl | (simp [*]; done)), (by first | rfl | (simp [*]; done)), H', ⟨Nat.le_refl _⟩, ⟨by (with_reducible repeat (first | refine blk_drewN ?_ _ | refine blk_drew ?_ | refine blk_alloc ?_ _)); exact BK124.out⟩, ⟨by repeat (first | (with_reducible first | exact HB.out | apply below_alloc | apply pw_below_drewN | apply below_drew1 | refine below_set ?_ GE124.out) | exact HB.out)⟩⟩
        case round =>
         clear H'
         try clear c1
         try clear c2
         try clear p2
         try clear q2
         try clear hx2
         try clear p6
         try clear c7
         try clear c7b0
         try clear c7b1
         try clear c8
         try clear c8b0
         try clear c8b1
         try clear p9
         try clear q9
         try clear hx9
         try clear qi9
         try clear c10
         try clear c13
         try clear c15
         try clear c16
         try clear c16b0
         try clear c16b1
         try clear c18
         try clear c18b0
         try clear c19
         try clear c19b0
         try clear c20
         try clear p20
         try clear q20
         try clear hx20
         try clear c21
         try clear c21b0
         try clear c21b1
         try clear c22
         try clear hcz11_0
         try clear hcz11_1
         try clear hcz11_2
         try clear hcz11_3
         try clear hcz11_4
         try clear hcz23_0
         try clear hcz23_1
         try clear hcz23_2
         try clear hcz23_3
         try clear hcz23_4
         try clear hfz11_0
         try clear hfz11_1
         try clear hfz11_2
         try clear hfz11_3
         try clear hfz11_4
         try clear hfz23_0
         try clear hfz23_1
         try clear hfz23_2
         try clear hfz23_3
         try clear hfz23_4
         try clear p2
         try clear p20
         try clear p6
         try clear p9
         try clear q2
         try clear q20
         try clear q9
         obtain ⟨x10_3, x11_3, x12_3, rfl, rfl, rfl, HA, HK3, BK124, HB⟩ := hrel
         cases gk with
         | zero => exact absurd HA.out (by simp [levyref4_numbered.l0])
         | succ k3 =>
          have H := HA.out
          clear HA
          simp only [levyref4_numbered.l0] at H
          by_cases c24 : x12_3 < (a2.size : Int)
          ·rw [if_pos c24] at H
           have c24b0 : decide (x12_3 < (a2.size : Int)) = true := decide_eq_true c24
           clear c24
           by_cases c25 : 0 ≤ x12_3
           ·rw [if_pos c25] at H
            have c25b0 : decide (0 ≤ x12_3) = true := decide_eq_true c25
            clear c25
            have H' := Aside0.mk H
            clear H
            have p26 : 0 ≤ (x12_3 : Int) := of_decide_eq_true (by assumption)
            have q26 : x12_3 < (a2.size : Int) := of_decide_eq_true (by assumption)
            have hx26 := bt_at a2 x12_3
            replace p26 := eq_true p26
            replace q26 := eq_true q26
            go_wp2
            go_roundg k3
            case measure => have := HJ4.out; have := HJ13.out; have := HK3.out; omega
            case rel => exact ⟨(wrap64 ((wrap64 (10 * x10_3)) + (((bt a2 x12_3) - 48) % 256))), (wrap64 (x11_3 * 10)), (wrap64 (x12_3 + 1)), (by first | rfl | (simp [*]; done)), (by first | rfl | (simp [*]; done)), (by first | rfl | (simp [*]; done)), H', ⟨by have := HJ4.out; have := HJ13.out; have := HK3.out; omega⟩, ⟨by (with_reducible repeat (first | refine blk_drewN ?_ _ | refine blk_drew ?_ | refine blk_alloc ?_ _)); exact BK124.out⟩, ⟨by repeat (first | (with_reducible first | exact HB.out | apply below_alloc | apply pw_below_drewN | apply below_drew1 | refine below_set ?_ GE124.out) | exact HB.out)⟩⟩
           ·rw [if_neg c25] at H
            exact absurd H (by simp)
          ·rw [if_neg c24] at H
           have c24b0 : decide (x12_3 < (a2.size : Int)) = false := decide_eq_false c24
           clear c24
           replace H := Option.bind_eq_some_iff.mp H
           obtain ⟨t126, A270, H⟩ := H
           replace H : (if t126 = 0 then (none) else (if (wrap64 (Int.tdiv x10_3 t126)) ≤ 1000000000 then (some (4, 0, (⟨#[]⟩ : ByteArray), wrap64 (Int.tdiv x10_3 t126), wrap64 (Int.tdiv x11_3 t126), decide ((wrap64 (Int.tdiv x11_3 t126)) ≤ 1000000000))) else (some (4, 0, (⟨#[]⟩ : ByteArray), wrap64 (Int.tdiv x10_3 t126), wrap64 (Int.tdiv x11_3 t126), false)))) = some (r1, r2, r3, r4, r5, r6) := H
           have A27 := Aside0.mk A270
           clear A270
           by_cases c28 : t126 = 0
           ·rw [if_pos c28] at H
            exact absurd H (by simp)
           ·rw [if_neg c28] at H
            have c28b0 : (t126 == 0) = false := beq_eq_false_iff_ne.mpr c28
            have c28b1 : (t126 != 0) = true := bne_iff_ne.mpr c28
            by_cases c29 : (wrap64 (Int.tdiv x10_3 t126)) ≤ 1000000000
            ·rw [if_pos c29] at H
             have c29b0 : decide ((wrap64 (Int.tdiv x10_3 t126)) ≤ 1000000000) = true := decide_eq_true c29
             clear c29
             simp only [Option.some.injEq, Prod.mk.injEq] at H
             obtain ⟨rfl, rfl, rfl, rfl, rfl, rfl⟩ := H
             go_wp2_with (first | ((with_reducible refine gate_callee (f := 220) rfl ?_); refine goesL_ (some 63) rfl rfl Tryz.func220 (by kernel_rfl) rfl #[.int .i64 x10_3, .int .i64 x11_3] rfl (by (try simp only [List.map_toArray, List.map_cons, List.map_nil]); first | done | rfl | (simp only [List.length_drop, List.length_take]; rfl)) ?_; (with_reducible refine (levyref4_common.calls k3 x10_3 x11_3 t126 _ A27.out).mono ?_); rintro e w' ⟨rfl, ⟨nd, rfl⟩⟩; refine ⟨_, rfl, ?_⟩; (try (rw [drewN_self wr]; generalize hq_ : World.drewN wr _ = wr; have n0_ : Aside0 (wr.heap[gb124]? = some (.cells #[.int .i64 0, .int .i64 0, .string ⟨#[]⟩, .int .i64 0, .int .i64 0] 57 (0, 0))) := ⟨by rw [← hq_]; exact (by (with_reducible repeat (first | refine blk_drewN ?_ _ | refine blk_drew ?_ | refine blk_alloc ?_ _)); exact BK124.out)⟩; have n1_ : Aside0 (Below w.heap.size w wr) := ⟨by rw [← hq_]; exact (by repeat (first | (with_reducible first | exact HB.out | apply below_alloc | apply pw_below_drewN | apply below_drew1 | refine below_set ?_ GE124.out) | exact HB.out))⟩; clear BK124 HB hq_; have BK124 := n0_; have HB := n1_; clear n0_ n1_)); have hcz30_0 : wr.cell? ⟨gb124, 0, none⟩ = some (.int .i64 0) := (blk_cell BK124.out 0).trans rfl; have hcz30_1 : wr.cell? ⟨gb124, 1, none⟩ = some (.int .i64 0) := (blk_cell BK124.out 1).trans rfl; have hcz30_2 : wr.cell? ⟨gb124, 2, none⟩ = some (.string ⟨#[]⟩) := (blk_cell BK124.out 2).trans rfl; have hcz30_3 : wr.cell? ⟨gb124, 3, none⟩ = some (.int .i64 0) := (blk_cell BK124.out 3).trans rfl; have hcz30_4 : wr.cell? ⟨gb124, 4, none⟩ = some (.int .i64 0) := (blk_cell BK124.out 4).trans rfl; have hfz30_0 := blk_frozen BK124.out 0; have hfz30_1 := blk_frozen BK124.out 1; have hfz30_2 := blk_frozen BK124.out 2; have hfz30_3 := blk_frozen BK124.out 3; have hfz30_4 := blk_frozen BK124.out 4))
             refine bodyPost_ret (results_ct rfl _ _ gb124 57 #[.int .i64 4, .int .i64 0, .string ⟨#[]⟩, .int .i64 (wrap64 (Int.tdiv x10_3 t126)), .int .i64 (wrap64 (Int.tdiv x11_3 t126))] (0, 0) _ rfl (by (with_reducible repeat (first | refine blk_drewN ?_ _ | refine blk_drew ?_ | refine blk_alloc ?_ _)); refine blk_put (cs := #[.int .i64 4, .int .i64 0, .string ⟨#[]⟩, .int .i64 (wrap64 (Int.tdiv x10_3 t126)), .int .i64 0]) ?_ 4 _ rfl; (with_reducible repeat (first | refine blk_drewN ?_ _ | refine blk_drew ?_ | refine blk_alloc ?_ _)); refine blk_put (cs := #[.int .i64 4, .int .i64 0, .string ⟨#[]⟩, .int .i64 0, .int .i64 0]) ?_ 3 _ rfl; (with_reducible repeat (first | refine blk_drewN ?_ _ | refine blk_drew ?_ | refine blk_alloc ?_ _)); refine blk_put (cs := #[.int .i64 4, .int .i64 0, .string ⟨#[]⟩, .int .i64 0, .int .i64 0]) ?_ 2 _ rfl; (with_reducible repeat (first | refine blk_drewN ?_ _ | refine blk_drew ?_ | refine blk_alloc ?_ _)); refine blk_put (cs := #[.int .i64 4, .int .i64 0, .string ⟨#[]⟩, .int .i64 0, .int .i64 0]) ?_ 1 _ rfl; (with_reducible repeat (first | refine blk_drewN ?_ _ | refine blk_drew ?_ | refine blk_alloc ?_ _)); refine blk_put (cs := #[.int .i64 0, .int .i64 0, .string ⟨#[]⟩, .int .i64 0, .int .i64 0]) ?_ 0 _ rfl; (with_reducible repeat (first | refine blk_drewN ?_ _ | refine blk_drew ?_ | refine blk_alloc ?_ _)); exact BK124.out) Tryz.underlying57 rfl (by kernel_rfl)) rfl ?_
             exact ⟨by first | rfl | (simp [errW_none, errW_some] <;> rfl) | (simp [*, errW_none, errW_some] <;> rfl), by repeat (first | (with_reducible first | exact HB.out | apply below_alloc | apply pw_below_drewN | apply below_drew1 | refine below_set ?_ GE124.out) | exact HB.out)⟩
            ·rw [if_neg c29] at H
             have c29b0 : decide ((wrap64 (Int.tdiv x10_3 t126)) ≤ 1000000000) = false := decide_eq_false c29
             clear c29
             simp only [Option.some.injEq, Prod.mk.injEq] at H
             obtain ⟨rfl, rfl, rfl, rfl, rfl, rfl⟩ := H
             go_wp2_with (first | ((with_reducible refine gate_callee (f := 220) rfl ?_); refine goesL_ (some 63) rfl rfl Tryz.func220 (by kernel_rfl) rfl #[.int .i64 x10_3, .int .i64 x11_3] rfl (by (try simp only [List.map_toArray, List.map_cons, List.map_nil]); first | done | rfl | (simp only [List.length_drop, List.length_take]; rfl)) ?_; (with_reducible refine (levyref4_common.calls k3 x10_3 x11_3 t126 _ A27.out).mono ?_); rintro e w' ⟨rfl, ⟨nd, rfl⟩⟩; refine ⟨_, rfl, ?_⟩; (try (rw [drewN_self wr]; generalize hq_ : World.drewN wr _ = wr; have n0_ : Aside0 (wr.heap[gb124]? = some (.cells #[.int .i64 0, .int .i64 0, .string ⟨#[]⟩, .int .i64 0, .int .i64 0] 57 (0, 0))) := ⟨by rw [← hq_]; exact (by (with_reducible repeat (first | refine blk_drewN ?_ _ | refine blk_drew ?_ | refine blk_alloc ?_ _)); exact BK124.out)⟩; have n1_ : Aside0 (Below w.heap.size w wr) := ⟨by rw [← hq_]; exact (by repeat (first | (with_reducible first | exact HB.out | apply below_alloc | apply pw_below_drewN | apply below_drew1 | refine below_set ?_ GE124.out) | exact HB.out))⟩; clear BK124 HB hq_; have BK124 := n0_; have HB := n1_; clear n0_ n1_)); have hcz31_0 : wr.cell? ⟨gb124, 0, none⟩ = some (.int .i64 0) := (blk_cell BK124.out 0).trans rfl; have hcz31_1 : wr.cell? ⟨gb124, 1, none⟩ = some (.int .i64 0) := (blk_cell BK124.out 1).trans rfl; have hcz31_2 : wr.cell? ⟨gb124, 2, none⟩ = some (.string ⟨#[]⟩) := (blk_cell BK124.out 2).trans rfl; have hcz31_3 : wr.cell? ⟨gb124, 3, none⟩ = some (.int .i64 0) := (blk_cell BK124.out 3).trans rfl; have hcz31_4 : wr.cell? ⟨gb124, 4, none⟩ = some (.int .i64 0) := (blk_cell BK124.out 4).trans rfl; have hfz31_0 := blk_frozen BK124.out 0; have hfz31_1 := blk_frozen BK124.out 1; have hfz31_2 := blk_frozen BK124.out 2; have hfz31_3 := blk_frozen BK124.out 3; have hfz31_4 := blk_frozen BK124.out 4))
             refine bodyPost_ret (results_ct rfl _ _ gb124 57 #[.int .i64 4, .int .i64 0, .string ⟨#[]⟩, .int .i64 (wrap64 (Int.tdiv x10_3 t126)), .int .i64 (wrap64 (Int.tdiv x11_3 t126))] (0, 0) _ rfl (by (with_reducible repeat (first | refine blk_drewN ?_ _ | refine blk_drew ?_ | refine blk_alloc ?_ _)); refine blk_put (cs := #[.int .i64 4, .int .i64 0, .string ⟨#[]⟩, .int .i64 (wrap64 (Int.tdiv x10_3 t126)), .int .i64 0]) ?_ 4 _ rfl; (with_reducible repeat (first | refine blk_drewN ?_ _ | refine blk_drew ?_ | refine blk_alloc ?_ _)); refine blk_put (cs := #[.int .i64 4, .int .i64 0, .string ⟨#[]⟩, .int .i64 0, .int .i64 0]) ?_ 3 _ rfl; (with_reducible repeat (first | refine blk_drewN ?_ _ | refine blk_drew ?_ | refine blk_alloc ?_ _)); refine blk_put (cs := #[.int .i64 4, .int .i64 0, .string ⟨#[]⟩, .int .i64 0, .int .i64 0]) ?_ 2 _ rfl; (with_reducible repeat (first | refine blk_drewN ?_ _ | refine blk_drew ?_ | refine blk_alloc ?_ _)); refine blk_put (cs := #[.int .i64 4, .int .i64 0, .string ⟨#[]⟩, .int .i64 0, .int .i64 0]) ?_ 1 _ rfl; (with_reducible repeat (first | refine blk_drewN ?_ _ | refine blk_drew ?_ | refine blk_alloc ?_ _)); refine blk_put (cs := #[.int .i64 0, .int .i64 0, .string ⟨#[]⟩, .int .i64 0, .int .i64 0]) ?_ 0 _ rfl; (with_reducible repeat (first | refine blk_drewN ?_ _ | refine blk_drew ?_ | refine blk_alloc ?_ _)); exact BK124.out) Tryz.underlying57 rfl (by kernel_rfl)) rfl ?_
             exact ⟨by first | rfl | (simp [errW_none, errW_some] <;> rfl) | (simp [*, errW_none, errW_some] <;> rfl), by repeat (first | (with_reducible first | exact HB.out | apply below_alloc | apply pw_below_drewN | apply below_drew1 | refine below_set ?_ GE124.out) | exact HB.out)⟩
    ·replace c13 := Bool.eq_false_iff.mpr c13
     subst c13
     have H1 : (if a1 = true then (if (a2.size : Int) = 2 then (if t125 > 9999999999999 then (some (0, 0, (⟨#[]⟩ : ByteArray), 0, 0, false)) else ((levyref4_whole.f kj4 a2).bind fun t127 => (some (2, 0, (⟨#[]⟩ : ByteArray), wrap64 ((wrap64 (100 * t125)) + t127), 0, decide ((wrap64 ((wrap64 (100 * t125)) + t127)) ≤ 9999999999999))))) else (some (0, 0, (⟨#[]⟩ : ByteArray), 0, 0, false))) else (some (3, 0, (⟨#[]⟩ : ByteArray), t125, 0, decide (t125 ≤ 1000000000)))) = some (r1, r2, r3, r4, r5, r6) := by rw [if_neg (show ¬ (false = true) by decide)] at H; exact H
     clear H
     have H := H1
     clear H1
     by_cases c32 : a1 = true
     ·subst c32
      have H1 : (if (a2.size : Int) = 2 then (if t125 > 9999999999999 then (some (0, 0, (⟨#[]⟩ : ByteArray), 0, 0, false)) else ((levyref4_whole.f kj4 a2).bind fun t127 => (some (2, 0, (⟨#[]⟩ : ByteArray), wrap64 ((wrap64 (100 * t125)) + t127), 0, decide ((wrap64 ((wrap64 (100 * t125)) + t127)) ≤ 9999999999999))))) else (some (0, 0, (⟨#[]⟩ : ByteArray), 0, 0, false))) = some (r1, r2, r3, r4, r5, r6) := by rw [if_pos rfl] at H; exact H
      clear H
      have H := H1
      clear H1
      by_cases c33 : (a2.size : Int) = 2
      ·rw [if_pos c33] at H
       have c33b0 : ((a2.size : Int) == 2) = true := beq_iff_eq.mpr c33
       have c33b1 : ((a2.size : Int) != 2) = false := bne_eq_false_iff_eq.mpr c33
       clear c33
       by_cases c34 : t125 > 9999999999999
       ·rw [if_pos c34] at H
        have c34b0 : decide (9999999999999 < t125) = true := decide_eq_true c34
        clear c34
        simp only [Option.some.injEq, Prod.mk.injEq] at H
        obtain ⟨rfl, rfl, rfl, rfl, rfl, rfl⟩ := H
        go_wp2_with (first | ((with_reducible refine gate_callee (f := 219) rfl ?_); refine goesL_ (some 24) rfl rfl Tryz.func219 (by kernel_rfl) rfl #[.string a0] rfl (by (try simp only [List.map_toArray, List.map_cons, List.map_nil]); first | done | rfl | (simp only [List.length_drop, List.length_take]; rfl)) ?_; (with_reducible refine (levyref4_whole.calls kj4 a0 t125 _ A12.out).mono ?_); rintro e w' ⟨rfl, ⟨nd, rfl⟩⟩; refine ⟨_, rfl, ?_⟩; (try (rw [drewN_self wc]; generalize hq_ : World.drewN wc _ = wc; have n0_ : Aside0 (wc.heap[gb124]? = some (.cells #[.int .i64 0, .int .i64 0, .string ⟨#[]⟩, .int .i64 0, .int .i64 0] 57 (0, 0))) := ⟨by rw [← hq_]; exact (by (with_reducible repeat (first | refine blk_drewN ?_ _ | refine blk_drew ?_ | refine blk_alloc ?_ _)); exact BK124.out)⟩; have n1_ : Aside0 (Below w.heap.size w wc) := ⟨by rw [← hq_]; exact (by repeat (first | (with_reducible first | exact HB.out | apply below_alloc | apply pw_below_drewN | apply below_drew1 | refine below_set ?_ GE124.out) | exact HB.out))⟩; clear BK124 HB hq_; have BK124 := n0_; have HB := n1_; clear n0_ n1_)); have hcz35_0 : wc.cell? ⟨gb124, 0, none⟩ = some (.int .i64 0) := (blk_cell BK124.out 0).trans rfl; have hcz35_1 : wc.cell? ⟨gb124, 1, none⟩ = some (.int .i64 0) := (blk_cell BK124.out 1).trans rfl; have hcz35_2 : wc.cell? ⟨gb124, 2, none⟩ = some (.string ⟨#[]⟩) := (blk_cell BK124.out 2).trans rfl; have hcz35_3 : wc.cell? ⟨gb124, 3, none⟩ = some (.int .i64 0) := (blk_cell BK124.out 3).trans rfl; have hcz35_4 : wc.cell? ⟨gb124, 4, none⟩ = some (.int .i64 0) := (blk_cell BK124.out 4).trans rfl; have hfz35_0 := blk_frozen BK124.out 0; have hfz35_1 := blk_frozen BK124.out 1; have hfz35_2 := blk_frozen BK124.out 2; have hfz35_3 := blk_frozen BK124.out 3; have hfz35_4 := blk_frozen BK124.out 4))
        refine bodyPost_ret (results_ct rfl _ _ gb124 57 #[.int .i64 0, .int .i64 0, .string ⟨#[]⟩, .int .i64 0, .int .i64 0] (0, 0) _ rfl (by (with_reducible repeat (first | refine blk_drewN ?_ _ | refine blk_drew ?_ | refine blk_alloc ?_ _)); refine blk_put (cs := #[.int .i64 0, .int .i64 0, .string ⟨#[]⟩, .int .i64 0, .int .i64 0]) ?_ 4 _ rfl; (with_reducible repeat (first | refine blk_drewN ?_ _ | refine blk_drew ?_ | refine blk_alloc ?_ _)); refine blk_put (cs := #[.int .i64 0, .int .i64 0, .string ⟨#[]⟩, .int .i64 0, .int .i64 0]) ?_ 3 _ rfl; (with_reducible repeat (first | refine blk_drewN ?_ _ | refine blk_drew ?_ | refine blk_alloc ?_ _)); refine blk_put (cs := #[.int .i64 0, .int .i64 0, .string ⟨#[]⟩, .int .i64 0, .int .i64 0]) ?_ 2 _ rfl; (with_reducible repeat (first | refine blk_drewN ?_ _ | refine blk_drew ?_ | refine blk_alloc ?_ _)); refine blk_put (cs := #[.int .i64 0, .int .i64 0, .string ⟨#[]⟩, .int .i64 0, .int .i64 0]) ?_ 1 _ rfl; (with_reducible repeat (first | refine blk_drewN ?_ _ | refine blk_drew ?_ | refine blk_alloc ?_ _)); refine blk_put (cs := #[.int .i64 0, .int .i64 0, .string ⟨#[]⟩, .int .i64 0, .int .i64 0]) ?_ 0 _ rfl; (with_reducible repeat (first | refine blk_drewN ?_ _ | refine blk_drew ?_ | refine blk_alloc ?_ _)); exact BK124.out) Tryz.underlying57 rfl (by kernel_rfl)) rfl ?_
        exact ⟨by first | rfl | (simp [errW_none, errW_some] <;> rfl) | (simp [*, errW_none, errW_some] <;> rfl), by repeat (first | (with_reducible first | exact HB.out | apply below_alloc | apply pw_below_drewN | apply below_drew1 | refine below_set ?_ GE124.out) | exact HB.out)⟩
       ·rw [if_neg c34] at H
        have c34b0 : decide (9999999999999 < t125) = false := decide_eq_false c34
        clear c34
        replace H := Option.bind_eq_some_iff.mp H
        obtain ⟨t127, A360, H⟩ := H
        replace H : (some (2, 0, (⟨#[]⟩ : ByteArray), wrap64 ((wrap64 (100 * t125)) + t127), 0, decide ((wrap64 ((wrap64 (100 * t125)) + t127)) ≤ 9999999999999))) = some (r1, r2, r3, r4, r5, r6) := H
        have A36 := Aside0.mk A360
        clear A360
        simp only [Option.some.injEq, Prod.mk.injEq] at H
        obtain ⟨rfl, rfl, rfl, rfl, rfl, rfl⟩ := H
        go_wp2_with (first | ((with_reducible refine gate_callee (f := 219) rfl ?_); refine goesL_ (some 24) rfl rfl Tryz.func219 (by kernel_rfl) rfl #[.string a0] rfl (by (try simp only [List.map_toArray, List.map_cons, List.map_nil]); first | done | rfl | (simp only [List.length_drop, List.length_take]; rfl)) ?_; (with_reducible refine (levyref4_whole.calls kj4 a0 t125 _ A12.out).mono ?_); rintro e w' ⟨rfl, ⟨nd, rfl⟩⟩; refine ⟨_, rfl, ?_⟩; (try (rw [drewN_self wc]; generalize hq_ : World.drewN wc _ = wc; have n0_ : Aside0 (wc.heap[gb124]? = some (.cells #[.int .i64 0, .int .i64 0, .string ⟨#[]⟩, .int .i64 0, .int .i64 0] 57 (0, 0))) := ⟨by rw [← hq_]; exact (by (with_reducible repeat (first | refine blk_drewN ?_ _ | refine blk_drew ?_ | refine blk_alloc ?_ _)); exact BK124.out)⟩; have n1_ : Aside0 (Below w.heap.size w wc) := ⟨by rw [← hq_]; exact (by repeat (first | (with_reducible first | exact HB.out | apply below_alloc | apply pw_below_drewN | apply below_drew1 | refine below_set ?_ GE124.out) | exact HB.out))⟩; clear BK124 HB hq_; have BK124 := n0_; have HB := n1_; clear n0_ n1_))) | ((with_reducible refine gate_callee (f := 219) rfl ?_); refine goesL_ (some 91) rfl rfl Tryz.func219 (by kernel_rfl) rfl #[.string a2] rfl (by (try simp only [List.map_toArray, List.map_cons, List.map_nil]); first | done | rfl | (simp only [List.length_drop, List.length_take]; rfl)) ?_; (with_reducible refine (levyref4_whole.calls kj4 a2 t127 _ A36.out).mono ?_); rintro e w' ⟨rfl, ⟨nd, rfl⟩⟩; refine ⟨_, rfl, ?_⟩; (try (rw [drewN_self wc]; generalize hq_ : World.drewN wc _ = wc; have n0_ : Aside0 (wc.heap[gb124]? = some (.cells #[.int .i64 0, .int .i64 0, .string ⟨#[]⟩, .int .i64 0, .int .i64 0] 57 (0, 0))) := ⟨by rw [← hq_]; exact (by (with_reducible repeat (first | refine blk_drewN ?_ _ | refine blk_drew ?_ | refine blk_alloc ?_ _)); exact BK124.out)⟩; have n1_ : Aside0 (Below w.heap.size w wc) := ⟨by rw [← hq_]; exact (by repeat (first | (with_reducible first | exact HB.out | apply below_alloc | apply pw_below_drewN | apply below_drew1 | refine below_set ?_ GE124.out) | exact HB.out))⟩; clear BK124 HB hq_; have BK124 := n0_; have HB := n1_; clear n0_ n1_)); have hcz37_0 : wc.cell? ⟨gb124, 0, none⟩ = some (.int .i64 0) := (blk_cell BK124.out 0).trans rfl; have hcz37_1 : wc.cell? ⟨gb124, 1, none⟩ = some (.int .i64 0) := (blk_cell BK124.out 1).trans rfl; have hcz37_2 : wc.cell? ⟨gb124, 2, none⟩ = some (.string ⟨#[]⟩) := (blk_cell BK124.out 2).trans rfl; have hcz37_3 : wc.cell? ⟨gb124, 3, none⟩ = some (.int .i64 0) := (blk_cell BK124.out 3).trans rfl; have hcz37_4 : wc.cell? ⟨gb124, 4, none⟩ = some (.int .i64 0) := (blk_cell BK124.out 4).trans rfl; have hfz37_0 := blk_frozen BK124.out 0; have hfz37_1 := blk_frozen BK124.out 1; have hfz37_2 := blk_frozen BK124.out 2; have hfz37_3 := blk_frozen BK124.out 3; have hfz37_4 := blk_frozen BK124.out 4))
        refine bodyPost_ret (results_ct rfl _ _ gb124 57 #[.int .i64 2, .int .i64 0, .string ⟨#[]⟩, .int .i64 (wrap64 ((wrap64 (100 * t125)) + t127)), .int .i64 0] (0, 0) _ rfl (by (with_reducible repeat (first | refine blk_drewN ?_ _ | refine blk_drew ?_ | refine blk_alloc ?_ _)); refine blk_put (cs := #[.int .i64 2, .int .i64 0, .string ⟨#[]⟩, .int .i64 (wrap64 ((wrap64 (100 * t125)) + t127)), .int .i64 0]) ?_ 4 _ rfl; (with_reducible repeat (first | refine blk_drewN ?_ _ | refine blk_drew ?_ | refine blk_alloc ?_ _)); refine blk_put (cs := #[.int .i64 2, .int .i64 0, .string ⟨#[]⟩, .int .i64 0, .int .i64 0]) ?_ 3 _ rfl; (with_reducible repeat (first | refine blk_drewN ?_ _ | refine blk_drew ?_ | refine blk_alloc ?_ _)); refine blk_put (cs := #[.int .i64 2, .int .i64 0, .string ⟨#[]⟩, .int .i64 0, .int .i64 0]) ?_ 2 _ rfl; (with_reducible repeat (first | refine blk_drewN ?_ _ | refine blk_drew ?_ | refine blk_alloc ?_ _)); refine blk_put (cs := #[.int .i64 2, .int .i64 0, .string ⟨#[]⟩, .int .i64 0, .int .i64 0]) ?_ 1 _ rfl; (with_reducible repeat (first | refine blk_drewN ?_ _ | refine blk_drew ?_ | refine blk_alloc ?_ _)); refine blk_put (cs := #[.int .i64 0, .int .i64 0, .string ⟨#[]⟩, .int .i64 0, .int .i64 0]) ?_ 0 _ rfl; (with_reducible repeat (first | refine blk_drewN ?_ _ | refine blk_drew ?_ | refine blk_alloc ?_ _)); exact BK124.out) Tryz.underlying57 rfl (by kernel_rfl)) rfl ?_
        exact ⟨by first | rfl | (simp [errW_none, errW_some] <;> rfl) | (simp [*, errW_none, errW_some] <;> rfl), by repeat (first | (with_reducible first | exact HB.out | apply below_alloc | apply pw_below_drewN | apply below_drew1 | refine below_set ?_ GE124.out) | exact HB.out)⟩
      ·rw [if_neg c33] at H
       have c33b0 : ((a2.size : Int) == 2) = false := beq_eq_false_iff_ne.mpr c33
       have c33b1 : ((a2.size : Int) != 2) = true := bne_iff_ne.mpr c33
       simp only [Option.some.injEq, Prod.mk.injEq] at H
       obtain ⟨rfl, rfl, rfl, rfl, rfl, rfl⟩ := H
       go_wp2_with (first | ((with_reducible refine gate_callee (f := 219) rfl ?_); refine goesL_ (some 24) rfl rfl Tryz.func219 (by kernel_rfl) rfl #[.string a0] rfl (by (try simp only [List.map_toArray, List.map_cons, List.map_nil]); first | done | rfl | (simp only [List.length_drop, List.length_take]; rfl)) ?_; (with_reducible refine (levyref4_whole.calls kj4 a0 t125 _ A12.out).mono ?_); rintro e w' ⟨rfl, ⟨nd, rfl⟩⟩; refine ⟨_, rfl, ?_⟩; (try (rw [drewN_self wc]; generalize hq_ : World.drewN wc _ = wc; have n0_ : Aside0 (wc.heap[gb124]? = some (.cells #[.int .i64 0, .int .i64 0, .string ⟨#[]⟩, .int .i64 0, .int .i64 0] 57 (0, 0))) := ⟨by rw [← hq_]; exact (by (with_reducible repeat (first | refine blk_drewN ?_ _ | refine blk_drew ?_ | refine blk_alloc ?_ _)); exact BK124.out)⟩; have n1_ : Aside0 (Below w.heap.size w wc) := ⟨by rw [← hq_]; exact (by repeat (first | (with_reducible first | exact HB.out | apply below_alloc | apply pw_below_drewN | apply below_drew1 | refine below_set ?_ GE124.out) | exact HB.out))⟩; clear BK124 HB hq_; have BK124 := n0_; have HB := n1_; clear n0_ n1_)); have hcz38_0 : wc.cell? ⟨gb124, 0, none⟩ = some (.int .i64 0) := (blk_cell BK124.out 0).trans rfl; have hcz38_1 : wc.cell? ⟨gb124, 1, none⟩ = some (.int .i64 0) := (blk_cell BK124.out 1).trans rfl; have hcz38_2 : wc.cell? ⟨gb124, 2, none⟩ = some (.string ⟨#[]⟩) := (blk_cell BK124.out 2).trans rfl; have hcz38_3 : wc.cell? ⟨gb124, 3, none⟩ = some (.int .i64 0) := (blk_cell BK124.out 3).trans rfl; have hcz38_4 : wc.cell? ⟨gb124, 4, none⟩ = some (.int .i64 0) := (blk_cell BK124.out 4).trans rfl; have hfz38_0 := blk_frozen BK124.out 0; have hfz38_1 := blk_frozen BK124.out 1; have hfz38_2 := blk_frozen BK124.out 2; have hfz38_3 := blk_frozen BK124.out 3; have hfz38_4 := blk_frozen BK124.out 4))
       refine bodyPost_ret (results_ct rfl _ _ gb124 57 #[.int .i64 0, .int .i64 0, .string ⟨#[]⟩, .int .i64 0, .int .i64 0] (0, 0) _ rfl (by (with_reducible repeat (first | refine blk_drewN ?_ _ | refine blk_drew ?_ | refine blk_alloc ?_ _)); refine blk_put (cs := #[.int .i64 0, .int .i64 0, .string ⟨#[]⟩, .int .i64 0, .int .i64 0]) ?_ 4 _ rfl; (with_reducible repeat (first | refine blk_drewN ?_ _ | refine blk_drew ?_ | refine blk_alloc ?_ _)); refine blk_put (cs := #[.int .i64 0, .int .i64 0, .string ⟨#[]⟩, .int .i64 0, .int .i64 0]) ?_ 3 _ rfl; (with_reducible repeat (first | refine blk_drewN ?_ _ | refine blk_drew ?_ | refine blk_alloc ?_ _)); refine blk_put (cs := #[.int .i64 0, .int .i64 0, .string ⟨#[]⟩, .int .i64 0, .int .i64 0]) ?_ 2 _ rfl; (with_reducible repeat (first | refine blk_drewN ?_ _ | refine blk_drew ?_ | refine blk_alloc ?_ _)); refine blk_put (cs := #[.int .i64 0, .int .i64 0, .string ⟨#[]⟩, .int .i64 0, .int .i64 0]) ?_ 1 _ rfl; (with_reducible repeat (first | refine blk_drewN ?_ _ | refine blk_drew ?_ | refine blk_alloc ?_ _)); refine blk_put (cs := #[.int .i64 0, .int .i64 0, .string ⟨#[]⟩, .int .i64 0, .int .i64 0]) ?_ 0 _ rfl; (with_reducible repeat (first | refine blk_drewN ?_ _ | refine blk_drew ?_ | refine blk_alloc ?_ _)); exact BK124.out) Tryz.underlying57 rfl (by kernel_rfl)) rfl ?_
       exact ⟨by first | rfl | (simp [errW_none, errW_some] <;> rfl) | (simp [*, errW_none, errW_some] <;> rfl), by repeat (first | (with_reducible first | exact HB.out | apply below_alloc | apply pw_below_drewN | apply below_drew1 | refine below_set ?_ GE124.out) | exact HB.out)⟩
     ·replace c32 := Bool.eq_false_iff.mpr c32
      subst c32
      have H1 : (some (3, 0, (⟨#[]⟩ : ByteArray), t125, 0, decide (t125 ≤ 1000000000))) = some (r1, r2, r3, r4, r5, r6) := by rw [if_neg (show ¬ (false = true) by decide)] at H; exact H
      clear H
      have H := H1
      clear H1
      simp only [Option.some.injEq, Prod.mk.injEq] at H
      obtain ⟨rfl, rfl, rfl, rfl, rfl, rfl⟩ := H
      go_wp2_with (first | ((with_reducible refine gate_callee (f := 219) rfl ?_); refine goesL_ (some 24) rfl rfl Tryz.func219 (by kernel_rfl) rfl #[.string a0] rfl (by (try simp only [List.map_toArray, List.map_cons, List.map_nil]); first | done | rfl | (simp only [List.length_drop, List.length_take]; rfl)) ?_; (with_reducible refine (levyref4_whole.calls kj4 a0 t125 _ A12.out).mono ?_); rintro e w' ⟨rfl, ⟨nd, rfl⟩⟩; refine ⟨_, rfl, ?_⟩; (try (rw [drewN_self wc]; generalize hq_ : World.drewN wc _ = wc; have n0_ : Aside0 (wc.heap[gb124]? = some (.cells #[.int .i64 0, .int .i64 0, .string ⟨#[]⟩, .int .i64 0, .int .i64 0] 57 (0, 0))) := ⟨by rw [← hq_]; exact (by (with_reducible repeat (first | refine blk_drewN ?_ _ | refine blk_drew ?_ | refine blk_alloc ?_ _)); exact BK124.out)⟩; have n1_ : Aside0 (Below w.heap.size w wc) := ⟨by rw [← hq_]; exact (by repeat (first | (with_reducible first | exact HB.out | apply below_alloc | apply pw_below_drewN | apply below_drew1 | refine below_set ?_ GE124.out) | exact HB.out))⟩; clear BK124 HB hq_; have BK124 := n0_; have HB := n1_; clear n0_ n1_)); have hcz39_0 : wc.cell? ⟨gb124, 0, none⟩ = some (.int .i64 0) := (blk_cell BK124.out 0).trans rfl; have hcz39_1 : wc.cell? ⟨gb124, 1, none⟩ = some (.int .i64 0) := (blk_cell BK124.out 1).trans rfl; have hcz39_2 : wc.cell? ⟨gb124, 2, none⟩ = some (.string ⟨#[]⟩) := (blk_cell BK124.out 2).trans rfl; have hcz39_3 : wc.cell? ⟨gb124, 3, none⟩ = some (.int .i64 0) := (blk_cell BK124.out 3).trans rfl; have hcz39_4 : wc.cell? ⟨gb124, 4, none⟩ = some (.int .i64 0) := (blk_cell BK124.out 4).trans rfl; have hfz39_0 := blk_frozen BK124.out 0; have hfz39_1 := blk_frozen BK124.out 1; have hfz39_2 := blk_frozen BK124.out 2; have hfz39_3 := blk_frozen BK124.out 3; have hfz39_4 := blk_frozen BK124.out 4))
      refine bodyPost_ret (results_ct rfl _ _ gb124 57 #[.int .i64 3, .int .i64 0, .string ⟨#[]⟩, .int .i64 t125, .int .i64 0] (0, 0) _ rfl (by (with_reducible repeat (first | refine blk_drewN ?_ _ | refine blk_drew ?_ | refine blk_alloc ?_ _)); refine blk_put (cs := #[.int .i64 3, .int .i64 0, .string ⟨#[]⟩, .int .i64 t125, .int .i64 0]) ?_ 4 _ rfl; (with_reducible repeat (first | refine blk_drewN ?_ _ | refine blk_drew ?_ | refine blk_alloc ?_ _)); refine blk_put (cs := #[.int .i64 3, .int .i64 0, .string ⟨#[]⟩, .int .i64 0, .int .i64 0]) ?_ 3 _ rfl; (with_reducible repeat (first | refine blk_drewN ?_ _ | refine blk_drew ?_ | refine blk_alloc ?_ _)); refine blk_put (cs := #[.int .i64 3, .int .i64 0, .string ⟨#[]⟩, .int .i64 0, .int .i64 0]) ?_ 2 _ rfl; (with_reducible repeat (first | refine blk_drewN ?_ _ | refine blk_drew ?_ | refine blk_alloc ?_ _)); refine blk_put (cs := #[.int .i64 3, .int .i64 0, .string ⟨#[]⟩, .int .i64 0, .int .i64 0]) ?_ 1 _ rfl; (with_reducible repeat (first | refine blk_drewN ?_ _ | refine blk_drew ?_ | refine blk_alloc ?_ _)); refine blk_put (cs := #[.int .i64 0, .int .i64 0, .string ⟨#[]⟩, .int .i64 0, .int .i64 0]) ?_ 0 _ rfl; (with_reducible repeat (first | refine blk_drewN ?_ _ | refine blk_drew ?_ | refine blk_alloc ?_ _)); exact BK124.out) Tryz.underlying57 rfl (by kernel_rfl)) rfl ?_
      exact ⟨by first | rfl | (simp [errW_none, errW_some] <;> rfl) | (simp [*, errW_none, errW_some] <;> rfl), by repeat (first | (with_reducible first | exact HB.out | apply below_alloc | apply pw_below_drewN | apply below_drew1 | refine below_set ?_ GE124.out) | exact HB.out)⟩
mutual
def levyref4_number.j0 : Nat → ByteArray → Int → ByteArray → Int → Bool → Option (Int × Int × ByteArray × Int × Int × Int × Int)
 | 0, _, _, _, _, _ => none
 | k + 1, x0, x1, x8, x9, x10 => if x10 = true then ((levyref4_run.f k x0 (wrap64 (x9 + 1)) 1).bind fun t132 => (if 0 ≤ (wrap64 (x9 + 1)) then (if (wrap64 (x9 + 1)) ≤ (wrap64 ((wrap64 (x9 + 1)) + t132)) then (if (wrap64 ((wrap64 (x9 + 1)) + t132)) ≤ (x0.size : Int) then (levyref4_number.j1 k x0 x1 x8 (wrap64 ((wrap64 (x9 + 1)) + t132)) x10 (x0.extract ((wrap64 (x9 + 1)) : Int).toNat ((wrap64 ((wrap64 (x9 + 1)) + t132)) : Int).toNat)) else (none)) else (none)) else (none))) else (levyref4_number.j1 k x0 x1 x8 x9 x10 (⟨#[]⟩ : ByteArray))
def levyref4_number.j1 : Nat → ByteArray → Int → ByteArray → Int → Bool → ByteArray → Option (Int × Int × ByteArray × Int × Int × Int × Int)
 | 0, _, _, _, _, _, _ => none
 | k + 1, x0, x1, x8, x9, x10, x11 => (levyref4_is.f x0 x9 (⟨#[37]⟩ : ByteArray)).bind fun t133 => (if t133 = true then (levyref4_number.j2 k x0 x1 x8 (wrap64 (x9 + 1)) x10 x11 t133) else (levyref4_number.j2 k x0 x1 x8 x9 x10 x11 t133))
def levyref4_number.j2 : Nat → ByteArray → Int → ByteArray → Int → Bool → ByteArray → Bool → Option (Int × Int × ByteArray × Int × Int × Int × Int)
 | 0, _, _, _, _, _, _, _ => none
 | k + 1, x0, x1, x8, x9, x10, x11, x13 => if x9 < (x0.size : Int) then (if 0 ≤ x9 then ((levyref4_isLetter.f (bt x0 x9)).bind fun t134 => (if t134 = true then (levyref4_number.j3 k x1 x8 x9 x10 x11 x13 true) else (levyref4_number.j3 k x1 x8 x9 x10 x11 x13 ((bt x0 x9) == 95)))) else (none)) else (levyref4_number.j3 k x1 x8 x9 x10 x11 x13 false)
def levyref4_number.j3 : Nat → Int → ByteArray → Int → Bool → ByteArray → Bool → Bool → Option (Int × Int × ByteArray × Int × Int × Int × Int)
 | 0, _, _, _, _, _, _, _ => none
 | k + 1, x1, x8, x9, x10, x11, x13, x76 => if x76 = true then (some (0, 0, (⟨#[]⟩ : ByteArray), 0, 0, x1, 42)) else ((levyref4_numbered.f k x8 x10 x11 x13).bind fun bt135 => (if bt135.2.2.2.2.2 = true then (some (bt135.1, bt135.2.1, bt135.2.2.1, bt135.2.2.2.1, bt135.2.2.2.2.1, x9, 0)) else (some (0, 0, (⟨#[]⟩ : ByteArray), 0, 0, x1, 42))))
end
def levyref4_number.f (k : Nat) (a0 : ByteArray) (a1 : Int) : Option (Int × Int × ByteArray × Int × Int × Int × Int) := (levyref4_run.f k a0 a1 1).bind fun t129 => (if 0 ≤ a1 then (if a1 ≤ (wrap64 (a1 + t129)) then (if (wrap64 (a1 + t129)) ≤ (a0.size : Int) then ((levyref4_is.f a0 (wrap64 (a1 + t129)) (⟨#[46]⟩ : ByteArray)).bind fun t130 => (if t130 = true then ((levyref4_run.f k a0 (wrap64 ((wrap64 (a1 + t129)) + 1)) 1).bind fun t131 => (levyref4_number.j0 k a0 a1 (a0.extract (a1 : Int).toNat ((wrap64 (a1 + t129)) : Int).toNat) (wrap64 (a1 + t129)) (decide (t131 > 0)))) else (levyref4_number.j0 k a0 a1 (a0.extract (a1 : Int).toNat ((wrap64 (a1 + t129)) : Int).toNat) (wrap64 (a1 + t129)) false))) else (none)) else (none)) else (none))
set_option maxHeartbeats 8000000 in
set_option maxRecDepth 100000 in
theorem levyref4_number.calls (k : Nat) (a0 : ByteArray) (a1 : Int) (r1 : Int) (r2 : Int) (r3 : ByteArray) (r4 : Int) (r5 : Int) (r6 : Int) (r7 : Int) (w : World) (h : levyref4_number.f k a0 a1 = some (r1, r2, r3, r4, r5, r6, r7)) :
  Calls Tryz.prog 128 #[.string a0, .int .i64 a1] w fun e w' => e = .returned (.tuple #[.agg #[.int .i64 r1, .int .i64 r2, .string r3, .int .i64 r4, .int .i64 r5], .int .i64 r6, .int .i64 r7]) ∧ Below w.heap.size w w' := by
 have hu57 := Tryz.underlying57
 have HB := Aside0.mk (Below.refl w.heap.size w)
 have H : ((levyref4_run.f k a0 a1 1).bind fun t129 => (if 0 ≤ a1 then (if a1 ≤ (wrap64 (a1 + t129)) then (if (wrap64 (a1 + t129)) ≤ (a0.size : Int) then ((levyref4_is.f a0 (wrap64 (a1 + t129)) (⟨#[46]⟩ : ByteArray)).bind fun t130 => (if t130 = true then ((levyref4_run.f k a0 (wrap64 ((wrap64 (a1 + t129)) + 1)) 1).bind fun t131 => (levyref4_number.j0 k a0 a1 (a0.extract (a1 : Int).toNat ((wrap64 (a1 + t129)) : Int).toNat) (wrap64 (a1 + t129)) (decide (t131 > 0)))) else (levyref4_number.j0 k a0 a1 (a0.extract (a1 : Int).toNat ((wrap64 (a1 + t129)) : Int).toNat) (wrap64 (a1 + t129)) false))) else (none)) else (none)) else (none))) = some (r1, r2, r3, r4, r5, r6, r7) := h
 clear h
 replace H := Option.bind_eq_some_iff.mp H
 obtain ⟨t129, A30, H⟩ := H
 replace H : (if 0 ≤ a1 then (if a1 ≤ (wrap64 (a1 + t129)) then (if (wrap64 (a1 + t129)) ≤ (a0.size : Int) then ((levyref4_is.f a0 (wrap64 (a1 + t129)) (⟨#[46]⟩ : ByteArray)).bind fun t130 => (if t130 = true then ((levyref4_run.f k a0 (wrap64 ((wrap64 (a1 + t129)) + 1)) 1).bind fun t131 => (levyref4_number.j0 k a0 a1 (a0.extract (a1 : Int).toNat ((wrap64 (a1 + t129)) : Int).toNat) (wrap64 (a1 + t129)) (decide (t131 > 0)))) else (levyref4_number.j0 k a0 a1 (a0.extract (a1 : Int).toNat ((wrap64 (a1 + t129)) : Int).toNat) (wrap64 (a1 + t129)) false))) else (none)) else (none)) else (none)) = some (r1, r2, r3, r4, r5, r6, r7) := H
 have A3 := Aside0.mk A30
 clear A30
 by_cases c4 : 0 ≤ a1
 ·rw [if_pos c4] at H
  have c4b0 := eq_true c4
  have c4b1 : decide (0 ≤ a1) = true := decide_eq_true c4
  clear c4
  by_cases c5 : a1 ≤ (wrap64 (a1 + t129))
  ·rw [if_pos c5] at H
   have c5b0 := eq_true c5
   have c5b1 : decide (a1 ≤ (wrap64 (a1 + t129))) = true := decide_eq_true c5
   by_cases c6 : (wrap64 (a1 + t129)) ≤ (a0.size : Int)
   ·rw [if_pos c6] at H
    have c6b0 := eq_true c6
    have c6b1 : decide ((wrap64 (a1 + t129)) ≤ (a0.size : Int)) = true := decide_eq_true c6
    have HC7 := Aside0.mk H
    clear H
    go_enter Tryz.func128, Tryz.ntmps128
    go_upto_region 4 with (first | ((with_reducible refine gate_dst (N := 4) rfl ?_); refine box_event ?hg (N := 4) ?hd (cs := #[.int .i64 0, .int .i64 0, .string ⟨#[]⟩, .int .i64 0, .int .i64 0]) (t := 57) ?hr ?_; (case hd => rfl); (case hg => rfl); (case hr => first | (go_simp; done) | (go_simp; rfl)); intro gb128 hg w8 hbox hb; have n0_ := Aside0.mk (below_step (by repeat (first | (with_reducible first | exact HB.out | apply below_alloc | apply pw_below_drewN | apply below_drew1) | exact HB.out)) hb); have n1_ := Aside0.mk (hbox); have n2_ := Aside0.mk ((by rw [hg]; exact (below_size (by repeat (first | (with_reducible first | exact HB.out | apply below_alloc | apply pw_below_drewN | apply below_drew1) | exact HB.out))) : w.heap.size ≤ gb128)); have n3_ := Aside0.mk ((by rw [hg]; exact (below_size (by repeat (first | (with_reducible first | exact HB.out | apply below_alloc | apply pw_below_drewN | apply below_drew1) | exact HB.out))) : w.heap.size ≤ gb128)); clear HB; have HB := n0_; have BK128 := n1_; have GW128 := n2_; have GE128 := n3_; clear n0_ n1_ n2_ n3_; clear hb hbox hg) | ((with_reducible refine gate_callee (f := 124) rfl ?_); refine goesL_ (some 18) rfl rfl Tryz.func124 (by kernel_rfl) rfl #[.string a0, .int .i64 a1, .int .i64 1] rfl (by (try simp only [List.map_toArray, List.map_cons, List.map_nil]); first | done | rfl | (simp only [List.length_drop, List.length_take]; rfl)) ?_; (with_reducible refine (levyref4_run.calls k a0 a1 1 t129 _ A3.out).mono ?_); rintro e w' ⟨rfl, ⟨nd, rfl⟩⟩; refine ⟨_, rfl, ?_⟩))
    (try simp only [Act.put, List.setIfInBounds_toArray, List.set_cons_zero, List.set_cons_succ])
    go_cut [10] (fun v10 wc => ∃ (kq : Nat) (x10_6 : Bool), v10 = .bool x10_6 ∧ Aside0 (levyref4_number.j0 kq a0 a1 (a0.extract (a1 : Int).toNat ((wrap64 (a1 + t129)) : Int).toNat) (wrap64 (a1 + t129)) x10_6 = some (r1, r2, r3, r4, r5, r6, r7)) ∧ Aside0 (kq ≤ k) ∧ Aside0 (wc.heap[gb128]? = some (.cells #[.int .i64 0, .int .i64 0, .string ⟨#[]⟩, .int .i64 0, .int .i64 0] 57 (0, 0))) ∧ Aside0 (Below w.heap.size w wc))
    case first =>
     have H := HC7.out
     clear HC7
     replace H := Option.bind_eq_some_iff.mp H
     obtain ⟨t130, A90, H⟩ := H
     replace H : (if t130 = true then ((levyref4_run.f k a0 (wrap64 ((wrap64 (a1 + t129)) + 1)) 1).bind fun t131 => (levyref4_number.j0 k a0 a1 (a0.extract (a1 : Int).toNat ((wrap64 (a1 + t129)) : Int).toNat) (wrap64 (a1 + t129)) (decide (t131 > 0)))) else (levyref4_number.j0 k a0 a1 (a0.extract (a1 : Int).toNat ((wrap64 (a1 + t129)) : Int).toNat) (wrap64 (a1 + t129)) false)) = some (r1, r2, r3, r4, r5, r6, r7) := H
     have A9 := Aside0.mk A90
     clear A90
     by_cases c10 : t130 = true
     ·subst c10
      have H1 : ((levyref4_run.f k a0 (wrap64 ((wrap64 (a1 + t129)) + 1)) 1).bind fun t131 => (levyref4_number.j0 k a0 a1 (a0.extract (a1 : Int).toNat ((wrap64 (a1 + t129)) : Int).toNat) (wrap64 (a1 + t129)) (decide (t131 > 0)))) = some (r1, r2, r3, r4, r5, r6, r7) := by rw [if_pos rfl] at H; exact H
      clear H
      have H := H1
      clear H1
      replace H := Option.bind_eq_some_iff.mp H
      obtain ⟨t131, A110, H⟩ := H
      replace H : (levyref4_number.j0 k a0 a1 (a0.extract (a1 : Int).toNat ((wrap64 (a1 + t129)) : Int).toNat) (wrap64 (a1 + t129)) (decide (t131 > 0))) = some (r1, r2, r3, r4, r5, r6, r7) := H
      have A11 := Aside0.mk A110
      clear A110
      have H' := Aside0.mk H
      clear H
      go_wp2_with (first | ((with_reducible refine gate_callee (f := 130) rfl ?_); refine goesL_ (some 30) rfl rfl Tryz.func130 (by kernel_rfl) rfl #[.string a0, .int .i64 (wrap64 (a1 + t129)), .string (⟨#[46]⟩ : ByteArray)] rfl (by (try simp only [List.map_toArray, List.map_cons, List.map_nil]); first | done | rfl | (simp only [List.length_drop, List.length_take]; rfl)) ?_; (with_reducible refine (levyref4_is.calls a0 (wrap64 (a1 + t129)) (⟨#[46]⟩ : ByteArray) true _ A9.out).mono ?_); rintro e w' ⟨rfl, ⟨nd, rfl⟩⟩; refine ⟨_, rfl, ?_⟩) | (go_at_call 124; (with_reducible refine (levyref4_run.calls k a0 (wrap64 ((wrap64 (a1 + t129)) + 1)) 1 t131 _ A11.out).mono ?_); rintro e w' ⟨rfl, ⟨nd, rfl⟩⟩))
      go_meet
      case rel => exact ⟨_, (decide (t131 > 0)), (by first | rfl | (simp [*]; done)), H', ⟨by first | omega | exact Nat.le_refl _⟩, ⟨by (with_reducible repeat (first | refine blk_drewN ?_ _ | refine blk_drew ?_ | refine blk_alloc ?_ _)); exact BK128.out⟩, ⟨by repeat (first | (with_reducible first | exact HB.out | apply below_alloc | apply pw_below_drewN | apply below_drew1 | refine below_set ?_ GE128.out) | exact HB.out)⟩⟩
     ·replace c10 := Bool.eq_false_iff.mpr c10
      subst c10
      have H1 : (levyref4_number.j0 k a0 a1 (a0.extract (a1 : Int).toNat ((wrap64 (a1 + t129)) : Int).toNat) (wrap64 (a1 + t129)) false) = some (r1, r2, r3, r4, r5, r6, r7) := by rw [if_neg (show ¬ (false = true) by decide)] at H; exact H
      clear H
      have H := H1
      clear H1
      have H' := Aside0.mk H
      clear H
      go_wp2_with (first | ((with_reducible refine gate_callee (f := 130) rfl ?_); refine goesL_ (some 30) rfl rfl Tryz.func130 (by kernel_rfl) rfl #[.string a0, .int .i64 (wrap64 (a1 + t129)), .string (⟨#[46]⟩ : ByteArray)] rfl (by (try simp only [List.map_toArray, List.map_cons, List.map_nil]); first | done | rfl | (simp only [List.length_drop, List.length_take]; rfl)) ?_; (with_reducible refine (levyref4_is.calls a0 (wrap64 (a1 + t129)) (⟨#[46]⟩ : ByteArray) false _ A9.out).mono ?_); rintro e w' ⟨rfl, ⟨nd, rfl⟩⟩; refine ⟨_, rfl, ?_⟩))
      go_meet
      case rel => exact ⟨_, (false), (by first | rfl | (simp [*]; done)), H', ⟨by first | omega | exact Nat.le_refl _⟩, ⟨by (with_reducible repeat (first | refine blk_drewN ?_ _ | refine blk_drew ?_ | refine blk_alloc ?_ _)); exact BK128.out⟩, ⟨by repeat (first | (with_reducible first | exact HB.out | apply below_alloc | apply pw_below_drewN | apply below_drew1 | refine below_set ?_ GE128.out) | exact HB.out)⟩⟩
    case rest =>
     clear HC7
     try clear c1
     try clear p2
     try clear c4
     try clear c4b0
     try clear c4b1
     try clear c5
     try clear c5b0
     try clear c5b1
     try clear c6
     try clear c6b0
     try clear c6b1
     try clear p6
     try clear c10
     obtain ⟨kq, x10_6, rfl, HA, HJ6, BK128, HB⟩ := hcut
     cases kq with
     | zero => exact absurd HA.out (by simp [levyref4_number.j0])
     | succ kj6 =>
      have H := HA.out
      clear HA
      simp only [levyref4_number.j0] at H
      have HC12 := Aside0.mk H
      clear H
      go_upto_if 38 with (fail)
      go_cut [9, 11] (fun v9 v11 wc => ∃ (kq : Nat) (x9_11 : Int) (x11_11 : ByteArray), v9 = .int .i64 x9_11 ∧ v11 = .string x11_11 ∧ Aside0 (levyref4_number.j1 kq a0 a1 (a0.extract (a1 : Int).toNat ((wrap64 (a1 + t129)) : Int).toNat) x9_11 x10_6 x11_11 = some (r1, r2, r3, r4, r5, r6, r7)) ∧ Aside0 (kq ≤ kj6) ∧ Aside0 (wc.heap[gb128]? = some (.cells #[.int .i64 0, .int .i64 0, .string ⟨#[]⟩, .int .i64 0, .int .i64 0] 57 (0, 0))) ∧ Aside0 (Below w.heap.size w wc))
      case first =>
       have H := HC12.out
       clear HC12
       by_cases c13 : x10_6 = true
       ·subst c13
        have H1 : ((levyref4_run.f kj6 a0 (wrap64 ((wrap64 (a1 + t129)) + 1)) 1).bind fun t132 => (if 0 ≤ (wrap64 ((wrap64 (a1 + t129)) + 1)) then (if (wrap64 ((wrap64 (a1 + t129)) + 1)) ≤ (wrap64 ((wrap64 ((wrap64 (a1 + t129)) + 1)) + t132)) then (if (wrap64 ((wrap64 ((wrap64 (a1 + t129)) + 1)) + t132)) ≤ (a0.size : Int) then (levyref4_number.j1 kj6 a0 a1 (a0.extract (a1 : Int).toNat ((wrap64 (a1 + t129)) : Int).toNat) (wrap64 ((wrap64 ((wrap64 (a1 + t129)) + 1)) + t132)) true (a0.extract ((wrap64 ((wrap64 (a1 + t129)) + 1)) : Int).toNat ((wrap64 ((wrap64 ((wrap64 (a1 + t129)) + 1)) + t132)) : Int).toNat)) else (none)) else (none)) else (none))) = some (r1, r2, r3, r4, r5, r6, r7) := by rw [if_pos rfl] at H; exact H
        clear H
        have H := H1
        clear H1
        replace H := Option.bind_eq_some_iff.mp H
        obtain ⟨t132, A140, H⟩ := H
        replace H : (if 0 ≤ (wrap64 ((wrap64 (a1 + t129)) + 1)) then (if (wrap64 ((wrap64 (a1 + t129)) + 1)) ≤ (wrap64 ((wrap64 ((wrap64 (a1 + t129)) + 1)) + t132)) then (if (wrap64 ((wrap64 ((wrap64 (a1 + t129)) + 1)) + t132)) ≤ (a0.size : Int) then (levyref4_number.j1 kj6 a0 a1 (a0.extract (a1 : Int).toNat ((wrap64 (a1 + t129)) : Int).toNat) (wrap64 ((wrap64 ((wrap64 (a1 + t129)) + 1)) + t132)) true (a0.extract ((wrap64 ((wrap64 (a1 + t129)) + 1)) : Int).toNat ((wrap64 ((wrap64 ((wrap64 (a1 + t129)) + 1)) + t132)) : Int).toNat)) else (none)) else (none)) else (none)) = some (r1, r2, r3, r4, r5, r6, r7) := H
        have A14 := Aside0.mk A140
        clear A140
        obtain ⟨ji15, hji15⟩ : ∃ j_ : Int, (wrap64 ((wrap64 (a1 + t129)) + 1)) = j_ := ⟨_, rfl⟩
        replace H : (if 0 ≤ (ji15) then (if (ji15) ≤ (wrap64 ((ji15) + t132)) then (if (wrap64 ((ji15) + t132)) ≤ (a0.size : Int) then (levyref4_number.j1 kj6 a0 a1 (a0.extract (a1 : Int).toNat ((wrap64 (a1 + t129)) : Int).toNat) (wrap64 ((ji15) + t132)) true (a0.extract ((ji15) : Int).toNat ((wrap64 ((ji15) + t132)) : Int).toNat)) else (none)) else (none)) else (none)) = some (r1, r2, r3, r4, r5, r6, r7) := by first | (rw [hji15] at H; exact H) | (simp only [hji15] at H ⊢; exact H)
        (try rw [hji15] at A14)
        have hji15w : (IntKind.i64.wrap ((wrap64 (a1 + t129)) + 1)) = ji15 := (i64_w _).trans hji15
        by_cases c16 : 0 ≤ (ji15)
        ·rw [if_pos c16] at H
         have c16b0 := eq_true c16
         have c16b1 : decide (0 ≤ (ji15)) = true := decide_eq_true c16
         clear c16
         by_cases c17 : (ji15) ≤ (wrap64 ((ji15) + t132))
         ·rw [if_pos c17] at H
          have c17b0 := eq_true c17
          have c17b1 : decide ((ji15) ≤ (wrap64 ((ji15) + t132))) = true := decide_eq_true c17
          by_cases c18 : (wrap64 ((ji15) + t132)) ≤ (a0.size : Int)
          ·rw [if_pos c18] at H
           have c18b0 := eq_true c18
           have c18b1 : decide ((wrap64 ((ji15) + t132)) ≤ (a0.size : Int)) = true := decide_eq_true c18
           have H' := Aside0.mk H
           clear H
           go_wp2_with (first | ((with_reducible refine gate_callee (f := 124) rfl ?_); refine goesL_ (some 42) rfl rfl Tryz.func124 (by kernel_rfl) rfl #[.string a0, .int .i64 ji15, .int .i64 1] rfl (by (try simp only [List.map_toArray, List.map_cons, List.map_nil]); first | done | (simp only [hji15]; rfl) | rfl | (simp only [List.length_drop, List.length_take]; rfl)) ?_; (with_reducible refine (levyref4_run.calls kj6 a0 ji15 1 t132 _ A14.out).mono ?_); rintro e w' ⟨rfl, ⟨nd, rfl⟩⟩; refine ⟨_, rfl, ?_⟩))
           go_meet
           case rel => exact ⟨_, (wrap64 ((ji15) + t132)), (a0.extract ((ji15) : Int).toNat ((wrap64 ((ji15) + t132)) : Int).toNat), (by first | rfl | (simp; done) | (simp only [← hji15] <;> (first | rfl | simp)) | (simp [*]; done)), (by first | rfl | (simp; done) | (simp only [← hji15] <;> (first | rfl | simp)) | (simp [*]; done)), H', ⟨by have := HJ6.out; first | omega | exact Nat.le_refl _⟩, ⟨by (with_reducible repeat (first | refine blk_drewN ?_ _ | refine blk_drew ?_ | refine blk_alloc ?_ _)); exact BK128.out⟩, ⟨by repeat (first | (with_reducible first | exact HB.out | apply below_alloc | apply pw_below_drewN | apply below_drew1 | refine below_set ?_ GE128.out) | exact HB.out)⟩⟩
          ·rw [if_neg c18] at H
           exact absurd H (by simp)
         ·rw [if_neg c17] at H
          exact absurd H (by simp)
        ·rw [if_neg c16] at H
         exact absurd H (by simp)
       ·replace c13 := Bool.eq_false_iff.mpr c13
        subst c13
        have H1 : (levyref4_number.j1 kj6 a0 a1 (a0.extract (a1 : Int).toNat ((wrap64 (a1 + t129)) : Int).toNat) (wrap64 (a1 + t129)) false (⟨#[]⟩ : ByteArray)) = some (r1, r2, r3, r4, r5, r6, r7) := by rw [if_neg (show ¬ (false = true) by decide)] at H; exact H
        clear H
        have H := H1
        clear H1
        have H' := Aside0.mk H
        clear H
        go_wp2
        go_meet
        case rel => exact ⟨_, ((wrap64 (a1 + t129))), ((⟨#[]⟩ : ByteArray)), (by first | rfl | (simp [*]; done)), (by first | rfl | (simp [*]; done)), H', ⟨by have := HJ6.out; first | omega | exact Nat.le_refl _⟩, ⟨by (with_reducible repeat (first | refine blk_drewN ?_ _ | refine blk_drew ?_ | refine blk_alloc ?_ _)); exact BK128.out⟩, ⟨by repeat (first | (with_reducible first | exact HB.out | apply below_alloc | apply pw_below_drewN | apply below_drew1 | refine below_set ?_ GE128.out) | exact HB.out)⟩⟩
      case rest =>
       clear HC12
       try clear c1
       try clear p2
       try clear c4
       try clear c4b0
       try clear c4b1
       try clear c5
       try clear c5b0
       try clear c5b1
       try clear c6
       try clear c6b0
       try clear c6b1
       try clear p6
       try clear c10
       try clear c12
       try clear c13
       try clear c16
       try clear c16b0
       try clear c16b1
       try clear c17
       try clear c17b0
       try clear c17b1
       try clear c18
       try clear c18b0
       try clear c18b1
       try clear p2
       try clear p6
       obtain ⟨kq, x9_11, x11_11, rfl, rfl, HA, HJ11, BK128, HB⟩ := hcut
       cases kq with
       | zero => exact absurd HA.out (by simp [levyref4_number.j1])
       | succ kj11 =>
        have H := HA.out
        clear HA
        simp only [levyref4_number.j1] at H
        replace H := Option.bind_eq_some_iff.mp H
        obtain ⟨t133, A190, H⟩ := H
        replace H : (if t133 = true then (levyref4_number.j2 kj11 a0 a1 (a0.extract (a1 : Int).toNat ((wrap64 (a1 + t129)) : Int).toNat) (wrap64 (x9_11 + 1)) x10_6 x11_11 t133) else (levyref4_number.j2 kj11 a0 a1 (a0.extract (a1 : Int).toNat ((wrap64 (a1 + t129)) : Int).toNat) x9_11 x10_6 x11_11 t133)) = some (r1, r2, r3, r4, r5, r6, r7) := H
        have A19 := Aside0.mk A190
        clear A190
        have HC20 := Aside0.mk H
        clear H
        go_upto_if 58 with (first | ((with_reducible refine gate_callee (f := 130) rfl ?_); refine goesL_ (some 57) rfl rfl Tryz.func130 (by kernel_rfl) rfl #[.string a0, .int .i64 x9_11, .string (⟨#[37]⟩ : ByteArray)] rfl (by (try simp only [List.map_toArray, List.map_cons, List.map_nil]); first | done | rfl | (simp only [List.length_drop, List.length_take]; rfl)) ?_; (with_reducible refine (levyref4_is.calls a0 x9_11 (⟨#[37]⟩ : ByteArray) t133 _ A19.out).mono ?_); rintro e w' ⟨rfl, ⟨nd, rfl⟩⟩; refine ⟨_, rfl, ?_⟩))
        (try simp only [Act.put, List.setIfInBounds_toArray, List.set_cons_zero, List.set_cons_succ])
        go_cut [9] (fun v9 wc => ∃ (kq : Nat) (x9_19 : Int), v9 = .int .i64 x9_19 ∧ Aside0 (levyref4_number.j2 kq a0 a1 (a0.extract (a1 : Int).toNat ((wrap64 (a1 + t129)) : Int).toNat) x9_19 x10_6 x11_11 t133 = some (r1, r2, r3, r4, r5, r6, r7)) ∧ Aside0 (kq ≤ kj11) ∧ Aside0 (wc.heap[gb128]? = some (.cells #[.int .i64 0, .int .i64 0, .string ⟨#[]⟩, .int .i64 0, .int .i64 0] 57 (0, 0))) ∧ Aside0 (Below w.heap.size w wc))
        case first =>
         have H := HC20.out
         clear HC20
         by_cases c21 : t133 = true
         ·subst c21
          have H1 : (levyref4_number.j2 kj11 a0 a1 (a0.extract (a1 : Int).toNat ((wrap64 (a1 + t129)) : Int).toNat) (wrap64 (x9_11 + 1)) x10_6 x11_11 true) = some (r1, r2, r3, r4, r5, r6, r7) := by rw [if_pos rfl] at H; exact H
          clear H
          have H := H1
          clear H1
          have H' := Aside0.mk H
          clear H
          go_wp2
          go_meet
          case rel => exact ⟨_, (wrap64 (x9_11 + 1)), (by first | rfl | (simp [*]; done)), H', ⟨by have := HJ6.out; have := HJ11.out; first | omega | exact Nat.le_refl _⟩, ⟨by (with_reducible repeat (first | refine blk_drewN ?_ _ | refine blk_drew ?_ | refine blk_alloc ?_ _)); exact BK128.out⟩, ⟨by repeat (first | (with_reducible first | exact HB.out | apply below_alloc | apply pw_below_drewN | apply below_drew1 | refine below_set ?_ GE128.out) | exact HB.out)⟩⟩
         ·replace c21 := Bool.eq_false_iff.mpr c21
          subst c21
          have H1 : (levyref4_number.j2 kj11 a0 a1 (a0.extract (a1 : Int).toNat ((wrap64 (a1 + t129)) : Int).toNat) x9_11 x10_6 x11_11 false) = some (r1, r2, r3, r4, r5, r6, r7) := by rw [if_neg (show ¬ (false = true) by decide)] at H; exact H
          clear H
          have H := H1
          clear H1
          have H' := Aside0.mk H
          clear H
          go_wp2
          go_meet
          case rel => exact ⟨_, (x9_11), (by first | rfl | (simp [*]; done)), H', ⟨by have := HJ6.out; have := HJ11.out; first | omega | exact Nat.le_refl _⟩, ⟨by (with_reducible repeat (first | refine blk_drewN ?_ _ | refine blk_drew ?_ | refine blk_alloc ?_ _)); exact BK128.out⟩, ⟨by repeat (first | (with_reducible first | exact HB.out | apply below_alloc | apply pw_below_drewN | apply below_drew1 | refine below_set ?_ GE128.out) | exact HB.out)⟩⟩
        case rest =>
         clear HC20
         try clear c1
         try clear c2
         try clear p2
         try clear c4
         try clear c4b0
         try clear c4b1
         try clear c5
         try clear c5b0
         try clear c5b1
         try clear c6
         try clear c6b0
         try clear c6b1
         try clear p6
         try clear c10
         try clear c12
         try clear c13
         try clear c16
         try clear c16b0
         try clear c16b1
         try clear c17
         try clear c17b0
         try clear c17b1
         try clear c18
         try clear c18b0
         try clear c18b1
         try clear c21
         try clear p2
         try clear p6
         obtain ⟨kq, x9_19, rfl, HA, HJ19, BK128, HB⟩ := hcut
         cases kq with
         | zero => exact absurd HA.out (by simp [levyref4_number.j2])
         | succ kj19 =>
          have H := HA.out
          clear HA
          simp only [levyref4_number.j2] at H
          have HC22 := Aside0.mk H
          clear H
          go_upto_region 13 with (fail)
          go_cut [76] (fun v76 wc => ∃ (kq : Nat) (x76_21 : Bool), v76 = .bool x76_21 ∧ Aside0 (levyref4_number.j3 kq a1 (a0.extract (a1 : Int).toNat ((wrap64 (a1 + t129)) : Int).toNat) x9_19 x10_6 x11_11 t133 x76_21 = some (r1, r2, r3, r4, r5, r6, r7)) ∧ Aside0 (kq ≤ kj19) ∧ Aside0 (wc.heap[gb128]? = some (.cells #[.int .i64 0, .int .i64 0, .string ⟨#[]⟩, .int .i64 0, .int .i64 0] 57 (0, 0))) ∧ Aside0 (Below w.heap.size w wc))
          case first =>
           have H := HC22.out
           clear HC22
           by_cases c23 : x9_19 < (a0.size : Int)
           ·rw [if_pos c23] at H
            have c23b0 : decide (x9_19 < (a0.size : Int)) = true := decide_eq_true c23
            clear c23
            (first | rw [c23b0] | (simp only [i64_w, i32_w]; rw [c23b0]) | skip)
            by_cases c24 : 0 ≤ x9_19
            ·rw [if_pos c24] at H
             have c24b0 : decide (0 ≤ x9_19) = true := decide_eq_true c24
             clear c24
             replace H := Option.bind_eq_some_iff.mp H
             obtain ⟨t134, A260, H⟩ := H
             replace H : (if t134 = true then (levyref4_number.j3 kj19 a1 (a0.extract (a1 : Int).toNat ((wrap64 (a1 + t129)) : Int).toNat) x9_19 x10_6 x11_11 t133 true) else (levyref4_number.j3 kj19 a1 (a0.extract (a1 : Int).toNat ((wrap64 (a1 + t129)) : Int).toNat) x9_19 x10_6 x11_11 t133 ((bt a0 x9_19) == 95))) = some (r1, r2, r3, r4, r5, r6, r7) := H
             have A26 := Aside0.mk A260
             clear A260
             by_cases c27 : t134 = true
             ·subst c27
              have H1 : (levyref4_number.j3 kj19 a1 (a0.extract (a1 : Int).toNat ((wrap64 (a1 + t129)) : Int).toNat) x9_19 x10_6 x11_11 t133 true) = some (r1, r2, r3, r4, r5, r6, r7) := by rw [if_pos rfl] at H; exact H
              clear H
              have H := H1
              clear H1
              have H' := Aside0.mk H
              clear H
              have p25 : 0 ≤ (x9_19 : Int) := of_decide_eq_true (by assumption)
              have q25 : x9_19 < (a0.size : Int) := of_decide_eq_true (by assumption)
              have hx25 := bt_at a0 x9_19
              replace p25 := eq_true p25
              replace q25 := eq_true q25
              go_wp2_with (first | (go_at_call 123; (with_reducible refine (levyref4_isLetter.calls (bt a0 x9_19) true _ A26.out).mono ?_); rintro e w' ⟨rfl, ⟨nd, rfl⟩⟩))
              go_meet
              case rel => exact ⟨_, (true), (by first | rfl | (simp [*]; done)), H', ⟨by have := HJ6.out; have := HJ11.out; have := HJ19.out; first | omega | exact Nat.le_refl _⟩, ⟨by (with_reducible repeat (first | refine blk_drewN ?_ _ | refine blk_drew ?_ | refine blk_alloc ?_ _)); exact BK128.out⟩, ⟨by repeat (first | (with_reducible first | exact HB.out | apply below_alloc | apply pw_below_drewN | apply below_drew1 | refine below_set ?_ GE128.out) | exact HB.out)⟩⟩
             ·replace c27 := Bool.eq_false_iff.mpr c27
              subst c27
              have H1 : (levyref4_number.j3 kj19 a1 (a0.extract (a1 : Int).toNat ((wrap64 (a1 + t129)) : Int).toNat) x9_19 x10_6 x11_11 t133 ((bt a0 x9_19) == 95)) = some (r1, r2, r3, r4, r5, r6, r7) := by rw [if_neg (show ¬ (false = true) by decide)] at H; exact H
              clear H
              have H := H1
              clear H1
              have H' := Aside0.mk H
              clear H
              have p25 : 0 ≤ (x9_19 : Int) := of_decide_eq_true (by assumption)
              have q25 : x9_19 < (a0.size : Int) := of_decide_eq_true (by assumption)
              have hx25 := bt_at a0 x9_19
              replace p25 := eq_true p25
              replace q25 := eq_true q25
              go_wp2_with (first | (go_at_call 123; (with_reducible refine (levyref4_isLetter.calls (bt a0 x9_19) false _ A26.out).mono ?_); rintro e w' ⟨rfl, ⟨nd, rfl⟩⟩; have p28 : 0 ≤ (x9_19 : Int) := of_decide_eq_true (by assumption); have q28 : x9_19 < (a0.size : Int) := of_decide_eq_true (by assumption); have hx28 := bt_at a0 x9_19; replace p28 := eq_true p28; replace q28 := eq_true q28))
              go_meet
              case rel => exact ⟨_, (((bt a0 x9_19) == 95)), (by first | rfl | (simp [*]; done)), H', ⟨by have := HJ6.out; have := HJ11.out; have := HJ19.out; first | omega | exact Nat.le_refl _⟩, ⟨by (with_reducible repeat (first | refine blk_drewN ?_ _ | refine blk_drew ?_ | refine blk_alloc ?_ _)); exact BK128.out⟩, ⟨by repeat (first | (with_reducible first | exact HB.out | apply below_alloc | apply pw_below_drewN | apply below_drew1 | refine below_set ?_ GE128.out) | exact HB.out)⟩⟩
            ·rw [if_neg c24] at H
             exact absurd H (by simp)
           ·rw [if_neg c23] at H
            have c23b0 : decide (x9_19 < (a0.size : Int)) = false := decide_eq_false c23
            clear c23
            (first | rw [c23b0] | (simp only [i64_w, i32_w]; rw [c23b0]) | skip)
            have H' := Aside0.mk H
            clear H
            go_wp2
            go_meet
            case rel => exact ⟨_, (false), (by first | rfl | (simp [*]; done)), H', ⟨by have := HJ6.out; have := HJ11.out; have := HJ19.out; first | omega | exact Nat.le_refl _⟩, ⟨by (with_reducible repeat (first | refine blk_drewN ?_ _ | refine blk_drew ?_ | refine blk_alloc ?_ _)); exact BK128.out⟩, ⟨by repeat (first | (with_reducible first | exact HB.out | apply below_alloc | apply pw_below_drewN | apply below_drew1 | refine below_set ?_ GE128.out) | exact HB.out)⟩⟩
          case rest =>
           clear HC22
           try clear c1
           try clear c2
           try clear p2
           try clear q2
           try clear hx2
           try clear c4
           try clear c4b0
           try clear c4b1
           try clear c5
           try clear c5b0
           try clear c5b1
           try clear c6
           try clear c6b0
           try clear c6b1
           try clear p6
           try clear c10
           try clear c12
           try clear c13
           try clear c16
           try clear c16b0
           try clear c16b1
           try clear c17
           try clear c17b0
           try clear c17b1
           try clear c18
           try clear c18b0
           try clear c18b1
           try clear c21
           try clear c23
           try clear c23b0
           try clear c24
           try clear c24b0
           try clear p25
           try clear q25
           try clear hx25
           try clear c27
           try clear p28
           try clear q28
           try clear hx28
           try clear p2
           try clear p25
           try clear p28
           try clear p6
           try clear q25
           try clear q28
           obtain ⟨kq, x76_21, rfl, HA, HJ21, BK128, HB⟩ := hcut
           cases kq with
           | zero => exact absurd HA.out (by simp [levyref4_number.j3])
           | succ kj21 =>
            have H := HA.out
            clear HA
            simp only [levyref4_number.j3] at H
            by_cases c29 : x76_21 = true
            ·subst c29
             have H1 : (some (0, 0, (⟨#[]⟩ : ByteArray), 0, 0, a1, 42)) = some (r1, r2, r3, r4, r5, r6, r7) := by rw [if_pos rfl] at H; exact H
             clear H
             have H := H1
             clear H1
             simp only [Option.some.injEq, Prod.mk.injEq] at H
             obtain ⟨rfl, rfl, rfl, rfl, rfl, rfl, rfl⟩ := H
             have hcz30_0 : wc.cell? ⟨gb128, 0, none⟩ = some (.int .i64 0) := (blk_cell BK128.out 0).trans rfl
             have hcz30_1 : wc.cell? ⟨gb128, 1, none⟩ = some (.int .i64 0) := (blk_cell BK128.out 1).trans rfl
             have hcz30_2 : wc.cell? ⟨gb128, 2, none⟩ = some (.string ⟨#[]⟩) := (blk_cell BK128.out 2).trans rfl
             have hcz30_3 : wc.cell? ⟨gb128, 3, none⟩ = some (.int .i64 0) := (blk_cell BK128.out 3).trans rfl
             have hcz30_4 : wc.cell? ⟨gb128, 4, none⟩ = some (.int .i64 0) := (blk_cell BK128.out 4).trans rfl
             have hfz30_0 := blk_frozen BK128.out 0
             have hfz30_1 := blk_frozen BK128.out 1
             have hfz30_2 := blk_frozen BK128.out 2
             have hfz30_3 := blk_frozen BK128.out 3
             have hfz30_4 := blk_frozen BK128.out 4
             go_wp2
             refine bodyPost_ret (results_ctt rfl _ _ gb128 57 #[.int .i64 0, .int .i64 0, .string ⟨#[]⟩, .int .i64 0, .int .i64 0] (0, 0) _ rfl (by (with_reducible repeat (first | refine blk_drewN ?_ _ | refine blk_drew ?_ | refine blk_alloc ?_ _)); refine blk_put (cs := #[.int .i64 0, .int .i64 0, .string ⟨#[]⟩, .int .i64 0, .int .i64 0]) ?_ 4 _ rfl; (with_reducible repeat (first | refine blk_drewN ?_ _ | refine blk_drew ?_ | refine blk_alloc ?_ _)); refine blk_put (cs := #[.int .i64 0, .int .i64 0, .string ⟨#[]⟩, .int .i64 0, .int .i64 0]) ?_ 3 _ rfl; (with_reducible repeat (first | refine blk_drewN ?_ _ | refine blk_drew ?_ | refine blk_alloc ?_ _)); refine blk_put (cs := #[.int .i64 0, .int .i64 0, .string ⟨#[]⟩, .int .i64 0, .int .i64 0]) ?_ 2 _ rfl; (with_reducible repeat (first | refine blk_drewN ?_ _ | refine blk_drew ?_ | refine blk_alloc ?_ _)); refine blk_put (cs := #[.int .i64 0, .int .i64 0, .string ⟨#[]⟩, .int .i64 0, .int .i64 0]) ?_ 1 _ rfl; (with_reducible repeat (first | refine blk_drewN ?_ _ | refine blk_drew ?_ | refine blk_alloc ?_ _)); refine blk_put (cs := #[.int .i64 0, .int .i64 0, .string ⟨#[]⟩, .int .i64 0, .int .i64 0]) ?_ 0 _ rfl; (with_reducible repeat (first | refine blk_drewN ?_ _ | refine blk_drew ?_ | refine blk_alloc ?_ _)); exact BK128.out) Tryz.underlying57 rfl (by kernel_rfl)) rfl ?_
             exact ⟨by first | rfl | (simp [errW_none, errW_some] <;> rfl) | (simp [*, errW_none, errW_some] <;> rfl), by repeat (first | (with_reducible first | exact HB.out | apply below_alloc | apply pw_below_drewN | apply below_drew1 | refine below_set ?_ GE128.out) | exact HB.out)⟩
            ·replace c29 := Bool.eq_false_iff.mpr c29
             subst c29
             have H1 : ((levyref4_numbered.f kj21 (a0.extract (a1 : Int).toNat ((wrap64 (a1 + t129)) : Int).toNat) x10_6 x11_11 t133).bind fun bt135 => (if bt135.2.2.2.2.2 = true then (some (bt135.1, bt135.2.1, bt135.2.2.1, bt135.2.2.2.1, bt135.2.2.2.2.1, x9_19, 0)) else (some (0, 0, (⟨#[]⟩ : ByteArray), 0, 0, a1, 42)))) = some (r1, r2, r3, r4, r5, r6, r7) := by rw [if_neg (show ¬ (false = true) by decide)] at H; exact H
             clear H
             have H := H1
             clear H1
             replace H := Option.bind_eq_some_iff.mp H
             obtain ⟨⟨t135, t136, t137, t138, t139, t140⟩, A310, H⟩ := H
             replace H : (if t140 = true then (some (t135, t136, t137, t138, t139, x9_19, 0)) else (some (0, 0, (⟨#[]⟩ : ByteArray), 0, 0, a1, 42))) = some (r1, r2, r3, r4, r5, r6, r7) := H
             have A31 := Aside0.mk A310
             clear A310
             by_cases c32 : t140 = true
             ·subst c32
              have H1 : (some (t135, t136, t137, t138, t139, x9_19, 0)) = some (r1, r2, r3, r4, r5, r6, r7) := by rw [if_pos rfl] at H; exact H
              clear H
              have H := H1
              clear H1
              simp only [Option.some.injEq, Prod.mk.injEq] at H
              obtain ⟨rfl, rfl, rfl, rfl, rfl, rfl, rfl⟩ := H
              go_wp2_with (first | ((with_reducible refine gate_callee (f := 200) rfl ?_); refine goesL_ (some 84) rfl rfl Tryz.func200 (by kernel_rfl) rfl #[.string (a0.extract (a1 : Int).toNat ((wrap64 (a1 + t129)) : Int).toNat), .bool x10_6, .string x11_11, .bool t133] rfl (by (try simp only [List.map_toArray, List.map_cons, List.map_nil]); first | done | rfl | (simp only [List.length_drop, List.length_take]; rfl)) ?_; (with_reducible refine (levyref4_numbered.calls kj21 (a0.extract (a1 : Int).toNat ((wrap64 (a1 + t129)) : Int).toNat) x10_6 x11_11 t133 t135 t136 t137 t138 t139 true _ A31.out).mono ?_); rintro e w33 ⟨rfl, hb⟩; refine ⟨_, rfl, ?_⟩; have n0_ := Aside0.mk (blk_below (g := gb128) (o := .cells #[.int .i64 0, .int .i64 0, .string ⟨#[]⟩, .int .i64 0, .int .i64 0] 57 (0, 0)) (by (with_reducible repeat (first | refine blk_drewN ?_ _ | refine blk_drew ?_ | refine blk_alloc ?_ _)); exact BK128.out) hb); have n1_ := Aside0.mk (below_step (by repeat (first | (with_reducible first | exact HB.out | apply below_alloc | apply pw_below_drewN | apply below_drew1 | refine below_set ?_ GE128.out) | exact HB.out)) hb); clear BK128; clear HB; have BK128 := n0_; have HB := n1_; clear n0_ n1_; (try clear hb); (try clear hb2); (try clear hk); (try clear hi)) | ((with_reducible refine gate_dst (N := 14) rfl ?_); refine box_event ?hg (N := 14) ?hd (cs := #[.int .i64 0, .int .i64 0, .string ⟨#[]⟩, .int .i64 0, .int .i64 0]) (t := 57) ?hr ?_; (case hd => rfl); (case hg => rfl); (case hr => first | (go_simp; done) | (go_simp; rfl)); intro gb141 hg w34 hbox hb; have n0_ := Aside0.mk (blk_below (g := gb128) (o := .cells #[.int .i64 0, .int .i64 0, .string ⟨#[]⟩, .int .i64 0, .int .i64 0] 57 (0, 0)) (by (with_reducible repeat (first | refine blk_drewN ?_ _ | refine blk_drew ?_ | refine blk_alloc ?_ _)); exact BK128.out) hb); have n1_ := Aside0.mk (below_step (by repeat (first | (with_reducible first | exact HB.out | apply below_alloc | apply pw_below_drewN | apply below_drew1 | refine below_set ?_ GE128.out) | exact HB.out)) hb); have n2_ := Aside0.mk (hbox); have n3_ := Aside0.mk ((by rw [hg]; exact (below_size (by repeat (first | (with_reducible first | exact HB.out | apply below_alloc | apply pw_below_drewN | apply below_drew1 | refine below_set ?_ GE128.out) | exact HB.out))) : w.heap.size ≤ gb141)); have n4_ := Aside0.mk ((by rw [hg]; exact (below_size (by repeat (first | (with_reducible first | exact HB.out | apply below_alloc | apply pw_below_drewN | apply below_drew1 | refine below_set ?_ GE128.out) | exact HB.out))) : w.heap.size ≤ gb141)); have n5_ := Aside0.mk ((by rw [hg]; exact Nat.ne_of_lt (blk_lt (g := gb128) (o := .cells #[.int .i64 0, .int .i64 0, .string ⟨#[]⟩, .int .i64 0, .int .i64 0] 57 (0, 0)) (by (with_reducible repeat (first | refine blk_drewN ?_ _ | refine blk_drew ?_ | refine blk_alloc ?_ _)); exact BK128.out)) : gb128 ≠ gb141)); have n6_ := Aside0.mk ((by rw [hg]; exact Nat.ne_of_gt (blk_lt (g := gb128) (o := .cells #[.int .i64 0, .int .i64 0, .string ⟨#[]⟩, .int .i64 0, .int .i64 0] 57 (0, 0)) (by (with_reducible repeat (first | refine blk_drewN ?_ _ | refine blk_drew ?_ | refine blk_alloc ?_ _)); exact BK128.out)) : gb141 ≠ gb128)); clear BK128; clear HB; have BK128 := n0_; have HB := n1_; have BK141 := n2_; have GW141 := n3_; have GE141 := n4_; have NB128_141 := n5_; have NB141_128 := n6_; clear n0_ n1_ n2_ n3_ n4_ n5_ n6_; clear hb hbox hg; have hnb35 := NB141_128.out; have hnc35 := NB128_141.out; have hcz36_0 : w34.cell? ⟨gb141, 0, none⟩ = some (.int .i64 0) := (blk_cell BK141.out 0).trans rfl; have hcz36_1 : w34.cell? ⟨gb141, 1, none⟩ = some (.int .i64 0) := (blk_cell BK141.out 1).trans rfl; have hcz36_2 : w34.cell? ⟨gb141, 2, none⟩ = some (.string ⟨#[]⟩) := (blk_cell BK141.out 2).trans rfl; have hcz36_3 : w34.cell? ⟨gb141, 3, none⟩ = some (.int .i64 0) := (blk_cell BK141.out 3).trans rfl; have hcz36_4 : w34.cell? ⟨gb141, 4, none⟩ = some (.int .i64 0) := (blk_cell BK141.out 4).trans rfl; have hfz36_0 := blk_frozen BK141.out 0; have hfz36_1 := blk_frozen BK141.out 1; have hfz36_2 := blk_frozen BK141.out 2; have hfz36_3 := blk_frozen BK141.out 3; have hfz36_4 := blk_frozen BK141.out 4; have hcz37_0 : w34.cell? ⟨gb128, 0, none⟩ = some (.int .i64 0) := (blk_cell BK128.out 0).trans rfl; have hcz37_1 : w34.cell? ⟨gb128, 1, none⟩ = some (.int .i64 0) := (blk_cell BK128.out 1).trans rfl; have hcz37_2 : w34.cell? ⟨gb128, 2, none⟩ = some (.string ⟨#[]⟩) := (blk_cell BK128.out 2).trans rfl; have hcz37_3 : w34.cell? ⟨gb128, 3, none⟩ = some (.int .i64 0) := (blk_cell BK128.out 3).trans rfl; have hcz37_4 : w34.cell? ⟨gb128, 4, none⟩ = some (.int .i64 0) := (blk_cell BK128.out 4).trans rfl; have hfz37_0 := blk_frozen BK128.out 0; have hfz37_1 := blk_frozen BK128.out 1; have hfz37_2 := blk_frozen BK128.out 2; have hfz37_3 := blk_frozen BK128.out 3; have hfz37_4 := blk_frozen BK128.out 4))
              refine bodyPost_ret (results_ctt rfl _ _ gb128 57 #[.int .i64 t135, .int .i64 t136, .string t137, .int .i64 t138, .int .i64 t139] (0, 0) _ rfl (by (with_reducible repeat (first | refine blk_drewN ?_ _ | refine blk_drew ?_ | refine blk_alloc ?_ _)); refine blk_put (cs := #[.int .i64 t135, .int .i64 t136, .string t137, .int .i64 t138, .int .i64 0]) ?_ 4 _ rfl; (with_reducible repeat (first | refine blk_drewN ?_ _ | refine blk_drew ?_ | refine blk_alloc ?_ _)); refine blk_put (cs := #[.int .i64 t135, .int .i64 t136, .string t137, .int .i64 0, .int .i64 0]) ?_ 3 _ rfl; (with_reducible repeat (first | refine blk_drewN ?_ _ | refine blk_drew ?_ | refine blk_alloc ?_ _)); refine blk_put (cs := #[.int .i64 t135, .int .i64 t136, .string ⟨#[]⟩, .int .i64 0, .int .i64 0]) ?_ 2 _ rfl; (with_reducible repeat (first | refine blk_drewN ?_ _ | refine blk_drew ?_ | refine blk_alloc ?_ _)); refine blk_put (cs := #[.int .i64 t135, .int .i64 0, .string ⟨#[]⟩, .int .i64 0, .int .i64 0]) ?_ 1 _ rfl; (with_reducible repeat (first | refine blk_drewN ?_ _ | refine blk_drew ?_ | refine blk_alloc ?_ _)); refine blk_put (cs := #[.int .i64 0, .int .i64 0, .string ⟨#[]⟩, .int .i64 0, .int .i64 0]) ?_ 0 _ rfl; (with_reducible repeat (first | refine blk_drewN ?_ _ | refine blk_drew ?_ | refine blk_alloc ?_ _)); refine blk_far ?_ NB128_141.out _; (with_reducible repeat (first | refine blk_drewN ?_ _ | refine blk_drew ?_ | refine blk_alloc ?_ _)); refine blk_far ?_ NB128_141.out _; (with_reducible repeat (first | refine blk_drewN ?_ _ | refine blk_drew ?_ | refine blk_alloc ?_ _)); refine blk_far ?_ NB128_141.out _; (with_reducible repeat (first | refine blk_drewN ?_ _ | refine blk_drew ?_ | refine blk_alloc ?_ _)); refine blk_far ?_ NB128_141.out _; (with_reducible repeat (first | refine blk_drewN ?_ _ | refine blk_drew ?_ | refine blk_alloc ?_ _)); refine blk_far ?_ NB128_141.out _; (with_reducible repeat (first | refine blk_drewN ?_ _ | refine blk_drew ?_ | refine blk_alloc ?_ _)); exact BK128.out) Tryz.underlying57 rfl (by kernel_rfl)) rfl ?_
              exact ⟨by first | rfl | (simp [errW_none, errW_some] <;> rfl) | (simp [*, errW_none, errW_some] <;> rfl), by repeat (first | (with_reducible first | exact HB.out | apply below_alloc | apply pw_below_drewN | apply below_drew1 | refine below_set ?_ GE128.out | refine below_set ?_ GE141.out) | exact HB.out)⟩
             ·replace c32 := Bool.eq_false_iff.mpr c32
              subst c32
              have H1 : (some (0, 0, (⟨#[]⟩ : ByteArray), 0, 0, a1, 42)) = some (r1, r2, r3, r4, r5, r6, r7) := by rw [if_neg (show ¬ (false = true) by decide)] at H; exact H
              clear H
              have H := H1
              clear H1
              simp only [Option.some.injEq, Prod.mk.injEq] at H
              obtain ⟨rfl, rfl, rfl, rfl, rfl, rfl, rfl⟩ := H
              go_wp2_with (first | ((with_reducible refine gate_callee (f := 200) rfl ?_); refine goesL_ (some 84) rfl rfl Tryz.func200 (by kernel_rfl) rfl #[.string (a0.extract (a1 : Int).toNat ((wrap64 (a1 + t129)) : Int).toNat), .bool x10_6, .string x11_11, .bool t133] rfl (by (try simp only [List.map_toArray, List.map_cons, List.map_nil]); first | done | rfl | (simp only [List.length_drop, List.length_take]; rfl)) ?_; (with_reducible refine (levyref4_numbered.calls kj21 (a0.extract (a1 : Int).toNat ((wrap64 (a1 + t129)) : Int).toNat) x10_6 x11_11 t133 t135 t136 t137 t138 t139 false _ A31.out).mono ?_); rintro e w38 ⟨rfl, hb⟩; refine ⟨_, rfl, ?_⟩; have n0_ := Aside0.mk (blk_below (g := gb128) (o := .cells #[.int .i64 0, .int .i64 0, .string ⟨#[]⟩, .int .i64 0, .int .i64 0] 57 (0, 0)) (by (with_reducible repeat (first | refine blk_drewN ?_ _ | refine blk_drew ?_ | refine blk_alloc ?_ _)); exact BK128.out) hb); have n1_ := Aside0.mk (below_step (by repeat (first | (with_reducible first | exact HB.out | apply below_alloc | apply pw_below_drewN | apply below_drew1 | refine below_set ?_ GE128.out) | exact HB.out)) hb); clear BK128; clear HB; have BK128 := n0_; have HB := n1_; clear n0_ n1_; (try clear hb); (try clear hb2); (try clear hk); (try clear hi)) | ((with_reducible refine gate_dst (N := 14) rfl ?_); refine box_event ?hg (N := 14) ?hd (cs := #[.int .i64 0, .int .i64 0, .string ⟨#[]⟩, .int .i64 0, .int .i64 0]) (t := 57) ?hr ?_; (case hd => rfl); (case hg => rfl); (case hr => first | (go_simp; done) | (go_simp; rfl)); intro gb141 hg w39 hbox hb; have n0_ := Aside0.mk (blk_below (g := gb128) (o := .cells #[.int .i64 0, .int .i64 0, .string ⟨#[]⟩, .int .i64 0, .int .i64 0] 57 (0, 0)) (by (with_reducible repeat (first | refine blk_drewN ?_ _ | refine blk_drew ?_ | refine blk_alloc ?_ _)); exact BK128.out) hb); have n1_ := Aside0.mk (below_step (by repeat (first | (with_reducible first | exact HB.out | apply below_alloc | apply pw_below_drewN | apply below_drew1 | refine below_set ?_ GE128.out) | exact HB.out)) hb); have n2_ := Aside0.mk (hbox); have n3_ := Aside0.mk ((by rw [hg]; exact (below_size (by repeat (first | (with_reducible first | exact HB.out | apply below_alloc | apply pw_below_drewN | apply below_drew1 | refine below_set ?_ GE128.out) | exact HB.out))) : w.heap.size ≤ gb141)); have n4_ := Aside0.mk ((by rw [hg]; exact (below_size (by repeat (first | (with_reducible first | exact HB.out | apply below_alloc | apply pw_below_drewN | apply below_drew1 | refine below_set ?_ GE128.out) | exact HB.out))) : w.heap.size ≤ gb141)); have n5_ := Aside0.mk ((by rw [hg]; exact Nat.ne_of_lt (blk_lt (g := gb128) (o := .cells #[.int .i64 0, .int .i64 0, .string ⟨#[]⟩, .int .i64 0, .int .i64 0] 57 (0, 0)) (by (with_reducible repeat (first | refine blk_drewN ?_ _ | refine blk_drew ?_ | refine blk_alloc ?_ _)); exact BK128.out)) : gb128 ≠ gb141)); have n6_ := Aside0.mk ((by rw [hg]; exact Nat.ne_of_gt (blk_lt (g := gb128) (o := .cells #[.int .i64 0, .int .i64 0, .string ⟨#[]⟩, .int .i64 0, .int .i64 0] 57 (0, 0)) (by (with_reducible repeat (first | refine blk_drewN ?_ _ | refine blk_drew ?_ | refine blk_alloc ?_ _)); exact BK128.out)) : gb141 ≠ gb128)); clear BK128; clear HB; have BK128 := n0_; have HB := n1_; have BK141 := n2_; have GW141 := n3_; have GE141 := n4_; have NB128_141 := n5_; have NB141_128 := n6_; clear n0_ n1_ n2_ n3_ n4_ n5_ n6_; clear hb hbox hg; have hnb40 := NB141_128.out; have hnc40 := NB128_141.out; have hcz41_0 : w39.cell? ⟨gb141, 0, none⟩ = some (.int .i64 0) := (blk_cell BK141.out 0).trans rfl; have hcz41_1 : w39.cell? ⟨gb141, 1, none⟩ = some (.int .i64 0) := (blk_cell BK141.out 1).trans rfl; have hcz41_2 : w39.cell? ⟨gb141, 2, none⟩ = some (.string ⟨#[]⟩) := (blk_cell BK141.out 2).trans rfl; have hcz41_3 : w39.cell? ⟨gb141, 3, none⟩ = some (.int .i64 0) := (blk_cell BK141.out 3).trans rfl; have hcz41_4 : w39.cell? ⟨gb141, 4, none⟩ = some (.int .i64 0) := (blk_cell BK141.out 4).trans rfl; have hfz41_0 := blk_frozen BK141.out 0; have hfz41_1 := blk_frozen BK141.out 1; have hfz41_2 := blk_frozen BK141.out 2; have hfz41_3 := blk_frozen BK141.out 3; have hfz41_4 := blk_frozen BK141.out 4; have hcz42_0 : w39.cell? ⟨gb128, 0, none⟩ = some (.int .i64 0) := (blk_cell BK128.out 0).trans rfl; have hcz42_1 : w39.cell? ⟨gb128, 1, none⟩ = some (.int .i64 0) := (blk_cell BK128.out 1).trans rfl; have hcz42_2 : w39.cell? ⟨gb128, 2, none⟩ = some (.string ⟨#[]⟩) := (blk_cell BK128.out 2).trans rfl; have hcz42_3 : w39.cell? ⟨gb128, 3, none⟩ = some (.int .i64 0) := (blk_cell BK128.out 3).trans rfl; have hcz42_4 : w39.cell? ⟨gb128, 4, none⟩ = some (.int .i64 0) := (blk_cell BK128.out 4).trans rfl; have hfz42_0 := blk_frozen BK128.out 0; have hfz42_1 := blk_frozen BK128.out 1; have hfz42_2 := blk_frozen BK128.out 2; have hfz42_3 := blk_frozen BK128.out 3; have hfz42_4 := blk_frozen BK128.out 4))
              refine bodyPost_ret (results_ctt rfl _ _ gb128 57 #[.int .i64 0, .int .i64 0, .string ⟨#[]⟩, .int .i64 0, .int .i64 0] (0, 0) _ rfl (by (with_reducible repeat (first | refine blk_drewN ?_ _ | refine blk_drew ?_ | refine blk_alloc ?_ _)); refine blk_put (cs := #[.int .i64 0, .int .i64 0, .string ⟨#[]⟩, .int .i64 0, .int .i64 0]) ?_ 4 _ rfl; (with_reducible repeat (first | refine blk_drewN ?_ _ | refine blk_drew ?_ | refine blk_alloc ?_ _)); refine blk_put (cs := #[.int .i64 0, .int .i64 0, .string ⟨#[]⟩, .int .i64 0, .int .i64 0]) ?_ 3 _ rfl; (with_reducible repeat (first | refine blk_drewN ?_ _ | refine blk_drew ?_ | refine blk_alloc ?_ _)); refine blk_put (cs := #[.int .i64 0, .int .i64 0, .string ⟨#[]⟩, .int .i64 0, .int .i64 0]) ?_ 2 _ rfl; (with_reducible repeat (first | refine blk_drewN ?_ _ | refine blk_drew ?_ | refine blk_alloc ?_ _)); refine blk_put (cs := #[.int .i64 0, .int .i64 0, .string ⟨#[]⟩, .int .i64 0, .int .i64 0]) ?_ 1 _ rfl; (with_reducible repeat (first | refine blk_drewN ?_ _ | refine blk_drew ?_ | refine blk_alloc ?_ _)); refine blk_put (cs := #[.int .i64 0, .int .i64 0, .string ⟨#[]⟩, .int .i64 0, .int .i64 0]) ?_ 0 _ rfl; (with_reducible repeat (first | refine blk_drewN ?_ _ | refine blk_drew ?_ | refine blk_alloc ?_ _)); refine blk_far ?_ NB128_141.out _; (with_reducible repeat (first | refine blk_drewN ?_ _ | refine blk_drew ?_ | refine blk_alloc ?_ _)); refine blk_far ?_ NB128_141.out _; (with_reducible repeat (first | refine blk_drewN ?_ _ | refine blk_drew ?_ | refine blk_alloc ?_ _)); refine blk_far ?_ NB128_141.out _; (with_reducible repeat (first | refine blk_drewN ?_ _ | refine blk_drew ?_ | refine blk_alloc ?_ _)); refine blk_far ?_ NB128_141.out _; (with_reducible repeat (first | refine blk_drewN ?_ _ | refine blk_drew ?_ | refine blk_alloc ?_ _)); refine blk_far ?_ NB128_141.out _; (with_reducible repeat (first | refine blk_drewN ?_ _ | refine blk_drew ?_ | refine blk_alloc ?_ _)); exact BK128.out) Tryz.underlying57 rfl (by kernel_rfl)) rfl ?_
              exact ⟨by first | rfl | (simp [errW_none, errW_some] <;> rfl) | (simp [*, errW_none, errW_some] <;> rfl), by repeat (first | (with_reducible first | exact HB.out | apply below_alloc | apply pw_below_drewN | apply below_drew1 | refine below_set ?_ GE128.out | refine below_set ?_ GE141.out) | exact HB.out)⟩
   ·rw [if_neg c6] at H
    exact absurd H (by simp)
  ·rw [if_neg c5] at H
   exact absurd H (by simp)
 ·rw [if_neg c4] at H
  exact absurd H (by simp)
mutual
def levyref4_text.l0 : Nat → ByteArray → Int → Int → ByteArray → Option (Int × Int × ByteArray × Int × Int × Int × Int)
 | 0, _, _, _, _ => none
 | k + 1, x0, x1, x7, x8 => if x7 < (x0.size : Int) then (if 0 ≤ x7 then (levyref4_text.j1 k x0 x1 x7 x8 ((bt x0 x7) != 34)) else (none)) else (levyref4_text.j1 k x0 x1 x7 x8 false)
def levyref4_text.j1 : Nat → ByteArray → Int → Int → ByteArray → Bool → Option (Int × Int × ByteArray × Int × Int × Int × Int)
 | 0, _, _, _, _, _ => none
 | k + 1, x0, x1, x7, x8, x21 => if x21 = true then (if 0 ≤ x7 then (if x7 < (x0.size : Int) then (if (bt x0 x7) = 10 then (some (0, 0, (⟨#[]⟩ : ByteArray), 0, 0, x1, 43)) else (if (bt x0 x7) < 32 then (levyref4_text.j2 k x0 x1 x7 x8 (bt x0 x7) true) else (levyref4_text.j2 k x0 x1 x7 x8 (bt x0 x7) (decide ((bt x0 x7) > 126))))) else (none)) else (none)) else (if x7 ≥ (x0.size : Int) then (some (0, 0, (⟨#[]⟩ : ByteArray), 0, 0, x1, 43)) else (if (x8.size : Int) > 40 then (some (0, 0, (⟨#[]⟩ : ByteArray), 0, 0, x1, 40)) else (some (6, 0, x8, 0, 0, wrap64 (x7 + 1), 0))))
def levyref4_text.j2 : Nat → ByteArray → Int → Int → ByteArray → Int → Bool → Option (Int × Int × ByteArray × Int × Int × Int × Int)
 | 0, _, _, _, _, _, _ => none
 | k + 1, x0, x1, x7, x8, x9, x30 => if x30 = true then (some (0, 0, (⟨#[]⟩ : ByteArray), 0, 0, x7, 43)) else (if x9 = 92 then ((levyref4_is.f x0 (wrap64 (x7 + 1)) (⟨#[34]⟩ : ByteArray)).bind fun t143 => (if t143 = true then (if 0 ≤ (wrap64 (x7 + 1)) then (if (wrap64 (x7 + 1)) ≤ (wrap64 ((wrap64 (x7 + 1)) + 1)) then (if (wrap64 ((wrap64 (x7 + 1)) + 1)) ≤ (x0.size : Int) then (if x8.size + (x0.extract ((wrap64 (x7 + 1)) : Int).toNat ((wrap64 ((wrap64 (x7 + 1)) + 1)) : Int).toNat).size ≤ 9223372036854775807 then (levyref4_text.l0 k x0 x1 (wrap64 ((wrap64 (x7 + 1)) + 1)) (x8 ++ (x0.extract ((wrap64 (x7 + 1)) : Int).toNat ((wrap64 ((wrap64 (x7 + 1)) + 1)) : Int).toNat))) else (none)) else (none)) else (none)) else (none)) else ((levyref4_is.f x0 (wrap64 (x7 + 1)) (⟨#[92]⟩ : ByteArray)).bind fun t144 => (if t144 = true then (if 0 ≤ (wrap64 (x7 + 1)) then (if (wrap64 (x7 + 1)) ≤ (wrap64 ((wrap64 (x7 + 1)) + 1)) then (if (wrap64 ((wrap64 (x7 + 1)) + 1)) ≤ (x0.size : Int) then (if x8.size + (x0.extract ((wrap64 (x7 + 1)) : Int).toNat ((wrap64 ((wrap64 (x7 + 1)) + 1)) : Int).toNat).size ≤ 9223372036854775807 then (levyref4_text.l0 k x0 x1 (wrap64 ((wrap64 (x7 + 1)) + 1)) (x8 ++ (x0.extract ((wrap64 (x7 + 1)) : Int).toNat ((wrap64 ((wrap64 (x7 + 1)) + 1)) : Int).toNat))) else (none)) else (none)) else (none)) else (none)) else (some (0, 0, (⟨#[]⟩ : ByteArray), 0, 0, x7, 43)))))) else (if 0 ≤ x7 then (if x7 ≤ (wrap64 (x7 + 1)) then (if (wrap64 (x7 + 1)) ≤ (x0.size : Int) then (if x8.size + (x0.extract (x7 : Int).toNat ((wrap64 (x7 + 1)) : Int).toNat).size ≤ 9223372036854775807 then (levyref4_text.l0 k x0 x1 (wrap64 (x7 + 1)) (x8 ++ (x0.extract (x7 : Int).toNat ((wrap64 (x7 + 1)) : Int).toNat))) else (none)) else (none)) else (none)) else (none)))
end
def levyref4_text.f (k : Nat) (a0 : ByteArray) (a1 : Int) : Option (Int × Int × ByteArray × Int × Int × Int × Int) := levyref4_text.l0 k a0 a1 (wrap64 (a1 + 1)) (⟨#[]⟩ : ByteArray)
set_option maxHeartbeats 8000000 in
set_option maxRecDepth 100000 in
theorem levyref4_text.calls (k : Nat) (a0 : ByteArray) (a1 : Int) (r1 : Int) (r2 : Int) (r3 : ByteArray) (r4 : Int) (r5 : Int) (r6 : Int) (r7 : Int) (w : World) (h : levyref4_text.f k a0 a1 = some (r1, r2, r3, r4, r5, r6, r7)) :
  Calls Tryz.prog 129 #[.string a0, .int .i64 a1] w fun e w' => e = .returned (.tuple #[.agg #[.int .i64 r1, .int .i64 r2, .string r3, .int .i64 r4, .int .i64 r5], .int .i64 r6, .int .i64 r7]) ∧ Below w.heap.size w w' := by
 have hu57 := Tryz.underlying57
 have HB := Aside0.mk (Below.refl w.heap.size w)
 have H : (levyref4_text.l0 k a0 a1 (wrap64 (a1 + 1)) (⟨#[]⟩ : ByteArray)) = some (r1, r2, r3, r4, r5, r6, r7) := h
 clear h
 have H' := Aside0.mk H
 clear H
 go_enter Tryz.func129, Tryz.ntmps129
 go_wp2_with (first | ((with_reducible refine gate_dst (N := 4) rfl ?_); refine box_event ?hg (N := 4) ?hd (cs := #[.int .i64 0, .int .i64 0, .string ⟨#[]⟩, .int .i64 0, .int .i64 0]) (t := 57) ?hr ?_; (case hd => rfl); (case hg => rfl); (case hr => first | (go_simp; done) | (go_simp; rfl)); intro gb142 hg w3 hbox hb; have n0_ := Aside0.mk (below_step (by repeat (first | (with_reducible first | exact HB.out | apply below_alloc | apply pw_below_drewN | apply below_drew1) | exact HB.out)) hb); have n1_ := Aside0.mk (hbox); have n2_ := Aside0.mk ((by rw [hg]; exact (below_size (by repeat (first | (with_reducible first | exact HB.out | apply below_alloc | apply pw_below_drewN | apply below_drew1) | exact HB.out))) : w.heap.size ≤ gb142)); have n3_ := Aside0.mk ((by rw [hg]; exact (below_size (by repeat (first | (with_reducible first | exact HB.out | apply below_alloc | apply pw_below_drewN | apply below_drew1) | exact HB.out))) : w.heap.size ≤ gb142)); clear HB; have HB := n0_; have BK142 := n1_; have GW142 := n2_; have GE142 := n3_; clear n0_ n1_ n2_ n3_; clear hb hbox hg))
 go_loopg [7, 8] k (fun kq v7 v8 w' => ∃ (x7_1 : Int) (x8_1 : ByteArray) (x143000_1 : Int) (x143001_1 : Int) (x143002_1 : ByteArray) (x143003_1 : Int) (x143004_1 : Int), v7 = .int .i64 x7_1 ∧ v8 = .string x8_1 ∧ Aside0 (levyref4_text.l0 kq a0 a1 x7_1 x8_1 = some (r1, r2, r3, r4, r5, r6, r7)) ∧ Aside0 (kq ≤ k) ∧ Aside0 (w'.heap[gb142]? = some (.cells #[.int .i64 x143000_1, .int .i64 x143001_1, .string x143002_1, .int .i64 x143003_1, .int .i64 x143004_1] 57 (0, 0))) ∧ Aside0 (Below w.heap.size w w'))
 case atStart => exact ⟨(wrap64 (a1 + 1)), ((⟨#[]⟩ : ByteArray)), (0), (0), ((⟨#[]⟩ : ByteArray)), (0), (0), (by first | rfl | (simp [*]; done)), (by first | rfl | (simp [*]; done)), H', ⟨Nat.le_refl _⟩, ⟨by (with_reducible repeat (first | refine blk_drewN ?_ _ | refine blk_drew ?_ | refine blk_alloc ?_ _)); exact BK142.out⟩, ⟨by repeat (first | (with_reducible first | exact HB.out | apply below_alloc | apply pw_below_drewN | apply below_drew1 | refine below_set ?_ GE142.out) | exact HB.out)⟩⟩
 case round =>
  clear H'
  try clear c1
  try clear p2
  obtain ⟨x7_1, x8_1, x143000_1, x143001_1, x143002_1, x143003_1, x143004_1, rfl, rfl, HA, HK1, BK142, HB⟩ := hrel
  cases gk with
  | zero => exact absurd HA.out (by simp [levyref4_text.l0])
  | succ k1 =>
   have H := HA.out
   clear HA
   simp only [levyref4_text.l0] at H
   have HC4 := Aside0.mk H
   clear H
   go_upto_region 3 with (fail)
   go_cut [21] (fun v21 wc => ∃ (kq : Nat) (x21_3 : Bool), v21 = .bool x21_3 ∧ Aside0 (levyref4_text.j1 kq a0 a1 x7_1 x8_1 x21_3 = some (r1, r2, r3, r4, r5, r6, r7)) ∧ Aside0 (kq ≤ k1) ∧ Aside0 (wc.heap[gb142]? = some (.cells #[.int .i64 x143000_1, .int .i64 x143001_1, .string x143002_1, .int .i64 x143003_1, .int .i64 x143004_1] 57 (0, 0))) ∧ Aside0 (Below w.heap.size w wc))
   case first =>
    have H := HC4.out
    clear HC4
    by_cases c5 : x7_1 < (a0.size : Int)
    ·rw [if_pos c5] at H
     have c5b0 : decide (x7_1 < (a0.size : Int)) = true := decide_eq_true c5
     clear c5
     (first | rw [c5b0] | (simp only [i64_w, i32_w]; rw [c5b0]) | skip)
     by_cases c6 : 0 ≤ x7_1
     ·rw [if_pos c6] at H
      have c6b0 : decide (0 ≤ x7_1) = true := decide_eq_true c6
      clear c6
      have H' := Aside0.mk H
      clear H
      have p7 : 0 ≤ (x7_1 : Int) := of_decide_eq_true (by assumption)
      have q7 : x7_1 < (a0.size : Int) := of_decide_eq_true (by assumption)
      have hx7 := bt_at a0 x7_1
      replace p7 := eq_true p7
      replace q7 := eq_true q7
      go_wp2
      go_meet
      case rel => exact ⟨_, (((bt a0 x7_1) != 34)), (by first | rfl | (simp [*]; done)), H', ⟨by have := HK1.out; first | omega | exact Nat.le_refl _⟩, ⟨by (with_reducible repeat (first | refine blk_drewN ?_ _ | refine blk_drew ?_ | refine blk_alloc ?_ _)); exact BK142.out⟩, ⟨by repeat (first | (with_reducible first | exact HB.out | apply below_alloc | apply pw_below_drewN | apply below_drew1 | refine below_set ?_ GE142.out) | exact HB.out)⟩⟩
     ·rw [if_neg c6] at H
      exact absurd H (by simp)
    ·rw [if_neg c5] at H
     have c5b0 : decide (x7_1 < (a0.size : Int)) = false := decide_eq_false c5
     clear c5
     (first | rw [c5b0] | (simp only [i64_w, i32_w]; rw [c5b0]) | skip)
     have H' := Aside0.mk H
     clear H
     go_wp2
     go_meet
     case rel => exact ⟨_, (false), (by first | rfl | (simp [*]; done)), H', ⟨by have := HK1.out; first | omega | exact Nat.le_refl _⟩, ⟨by (with_reducible repeat (first | refine blk_drewN ?_ _ | refine blk_drew ?_ | refine blk_alloc ?_ _)); exact BK142.out⟩, ⟨by repeat (first | (with_reducible first | exact HB.out | apply below_alloc | apply pw_below_drewN | apply below_drew1 | refine below_set ?_ GE142.out) | exact HB.out)⟩⟩
   case rest =>
    clear HC4
    try clear c1
    try clear p2
    try clear c5
    try clear c5b0
    try clear c6
    try clear c6b0
    try clear p6
    try clear p7
    try clear q7
    try clear hx7
    try clear p2
    try clear p7
    try clear q7
    obtain ⟨kq, x21_3, rfl, HA, HJ3, BK142, HB⟩ := hcut
    cases kq with
    | zero => exact absurd HA.out (by simp [levyref4_text.j1])
    | succ kj3 =>
     have H := HA.out
     clear HA
     simp only [levyref4_text.j1] at H
     by_cases c8 : x21_3 = true
     ·subst c8
      have H1 : (if 0 ≤ x7_1 then (if x7_1 < (a0.size : Int) then (if (bt a0 x7_1) = 10 then (some (0, 0, (⟨#[]⟩ : ByteArray), 0, 0, a1, 43)) else (if (bt a0 x7_1) < 32 then (levyref4_text.j2 kj3 a0 a1 x7_1 x8_1 (bt a0 x7_1) true) else (levyref4_text.j2 kj3 a0 a1 x7_1 x8_1 (bt a0 x7_1) (decide ((bt a0 x7_1) > 126))))) else (none)) else (none)) = some (r1, r2, r3, r4, r5, r6, r7) := by rw [if_pos rfl] at H; exact H
      clear H
      have H := H1
      clear H1
      by_cases c9 : 0 ≤ x7_1
      ·rw [if_pos c9] at H
       have c9b0 : decide (0 ≤ x7_1) = true := decide_eq_true c9
       clear c9
       by_cases c10 : x7_1 < (a0.size : Int)
       ·rw [if_pos c10] at H
        have c10b0 : decide (x7_1 < (a0.size : Int)) = true := decide_eq_true c10
        clear c10
        by_cases c12 : (bt a0 x7_1) = 10
        ·rw [if_pos c12] at H
         have c12b0 : ((bt a0 x7_1) == 10) = true := beq_iff_eq.mpr c12
         have c12b1 : ((bt a0 x7_1) != 10) = false := bne_eq_false_iff_eq.mpr c12
         clear c12
         simp only [Option.some.injEq, Prod.mk.injEq] at H
         obtain ⟨rfl, rfl, rfl, rfl, rfl, rfl, rfl⟩ := H
         have p11 : 0 ≤ (x7_1 : Int) := of_decide_eq_true (by assumption)
         have q11 : x7_1 < (a0.size : Int) := of_decide_eq_true (by assumption)
         have hx11 := bt_at a0 x7_1
         replace p11 := eq_true p11
         replace q11 := eq_true q11
         have hcz13_0 : wc.cell? ⟨gb142, 0, none⟩ = some (.int .i64 x143000_1) := (blk_cell BK142.out 0).trans rfl
         have hcz13_1 : wc.cell? ⟨gb142, 1, none⟩ = some (.int .i64 x143001_1) := (blk_cell BK142.out 1).trans rfl
         have hcz13_2 : wc.cell? ⟨gb142, 2, none⟩ = some (.string x143002_1) := (blk_cell BK142.out 2).trans rfl
         have hcz13_3 : wc.cell? ⟨gb142, 3, none⟩ = some (.int .i64 x143003_1) := (blk_cell BK142.out 3).trans rfl
         have hcz13_4 : wc.cell? ⟨gb142, 4, none⟩ = some (.int .i64 x143004_1) := (blk_cell BK142.out 4).trans rfl
         have hfz13_0 := blk_frozen BK142.out 0
         have hfz13_1 := blk_frozen BK142.out 1
         have hfz13_2 := blk_frozen BK142.out 2
         have hfz13_3 := blk_frozen BK142.out 3
         have hfz13_4 := blk_frozen BK142.out 4
         go_wp2
         refine bodyPost_ret (results_ctt rfl _ _ gb142 57 #[.int .i64 0, .int .i64 0, .string ⟨#[]⟩, .int .i64 0, .int .i64 0] (0, 0) _ rfl (by (with_reducible repeat (first | refine blk_drewN ?_ _ | refine blk_drew ?_ | refine blk_alloc ?_ _)); refine blk_put (cs := #[.int .i64 0, .int .i64 0, .string ⟨#[]⟩, .int .i64 0, .int .i64 x143004_1]) ?_ 4 _ rfl; (with_reducible repeat (first | refine blk_drewN ?_ _ | refine blk_drew ?_ | refine blk_alloc ?_ _)); refine blk_put (cs := #[.int .i64 0, .int .i64 0, .string ⟨#[]⟩, .int .i64 x143003_1, .int .i64 x143004_1]) ?_ 3 _ rfl; (with_reducible repeat (first | refine blk_drewN ?_ _ | refine blk_drew ?_ | refine blk_alloc ?_ _)); refine blk_put (cs := #[.int .i64 0, .int .i64 0, .string x143002_1, .int .i64 x143003_1, .int .i64 x143004_1]) ?_ 2 _ rfl; (with_reducible repeat (first | refine blk_drewN ?_ _ | refine blk_drew ?_ | refine blk_alloc ?_ _)); refine blk_put (cs := #[.int .i64 0, .int .i64 x143001_1, .string x143002_1, .int .i64 x143003_1, .int .i64 x143004_1]) ?_ 1 _ rfl; (with_reducible repeat (first | refine blk_drewN ?_ _ | refine blk_drew ?_ | refine blk_alloc ?_ _)); refine blk_put (cs := #[.int .i64 x143000_1, .int .i64 x143001_1, .string x143002_1, .int .i64 x143003_1, .int .i64 x143004_1]) ?_ 0 _ rfl; (with_reducible repeat (first | refine blk_drewN ?_ _ | refine blk_drew ?_ | refine blk_alloc ?_ _)); exact BK142.out) Tryz.underlying57 rfl (by kernel_rfl)) rfl ?_
         exact ⟨by first | rfl | (simp [errW_none, errW_some] <;> rfl) | (simp [*, errW_none, errW_some] <;> rfl), by repeat (first | (with_reducible first | exact HB.out | apply below_alloc | apply pw_below_drewN | apply below_drew1 | refine below_set ?_ GE142.out) | exact HB.out)⟩
        ·rw [if_neg c12] at H
         have c12b0 : ((bt a0 x7_1) == 10) = false := beq_eq_false_iff_ne.mpr c12
         have c12b1 : ((bt a0 x7_1) != 10) = true := bne_iff_ne.mpr c12
         have HC14 := Aside0.mk H
         clear H
         have p11 : 0 ≤ (x7_1 : Int) := of_decide_eq_true (by assumption)
         have q11 : x7_1 < (a0.size : Int) := of_decide_eq_true (by assumption)
         have hx11 := bt_at a0 x7_1
         replace p11 := eq_true p11
         replace q11 := eq_true q11
         go_upto_region 7 with (fail)
         go_cut [30] (fun v30 wc => ∃ (kq : Nat) (x30_13 : Bool), v30 = .bool x30_13 ∧ Aside0 (levyref4_text.j2 kq a0 a1 x7_1 x8_1 (bt a0 x7_1) x30_13 = some (r1, r2, r3, r4, r5, r6, r7)) ∧ Aside0 (kq ≤ kj3) ∧ Aside0 (wc.heap[gb142]? = some (.cells #[.int .i64 x143000_1, .int .i64 x143001_1, .string x143002_1, .int .i64 x143003_1, .int .i64 x143004_1] 57 (0, 0))) ∧ Aside0 (Below w.heap.size w wc))
         case first =>
          have H := HC14.out
          clear HC14
          by_cases c15 : (bt a0 x7_1) < 32
          ·rw [if_pos c15] at H
           have c15b0 : decide ((bt a0 x7_1) < 32) = true := decide_eq_true c15
           clear c15
           (first | rw [c15b0] | (simp only [i64_w, i32_w]; rw [c15b0]) | skip)
           have H' := Aside0.mk H
           clear H
           go_wp2
           go_meet
           case rel => exact ⟨_, (true), (by first | rfl | (simp [*]; done)), H', ⟨by have := HK1.out; have := HJ3.out; first | omega | exact Nat.le_refl _⟩, ⟨by (with_reducible repeat (first | refine blk_drewN ?_ _ | refine blk_drew ?_ | refine blk_alloc ?_ _)); exact BK142.out⟩, ⟨by repeat (first | (with_reducible first | exact HB.out | apply below_alloc | apply pw_below_drewN | apply below_drew1 | refine below_set ?_ GE142.out) | exact HB.out)⟩⟩
          ·rw [if_neg c15] at H
           have c15b0 : decide ((bt a0 x7_1) < 32) = false := decide_eq_false c15
           clear c15
           (first | rw [c15b0] | (simp only [i64_w, i32_w]; rw [c15b0]) | skip)
           have H' := Aside0.mk H
           clear H
           go_wp2
           go_meet
           case rel => exact ⟨_, (decide ((bt a0 x7_1) > 126)), (by first | rfl | (simp [*]; done)), H', ⟨by have := HK1.out; have := HJ3.out; first | omega | exact Nat.le_refl _⟩, ⟨by (with_reducible repeat (first | refine blk_drewN ?_ _ | refine blk_drew ?_ | refine blk_alloc ?_ _)); exact BK142.out⟩, ⟨by repeat (first | (with_reducible first | exact HB.out | apply below_alloc | apply pw_below_drewN | apply below_drew1 | refine below_set ?_ GE142.out) | exact HB.out)⟩⟩
         case rest =>
          clear HC14
          try clear c1
          try clear p1
          try clear q1
          try clear hx1
          try clear p2
          try clear c5
          try clear c5b0
          try clear c6
          try clear c6b0
          try clear p6
          try clear p7
          try clear q7
          try clear hx7
          try clear c8
          try clear c9
          try clear c9b0
          try clear c10
          try clear c10b0
          try clear p11
          try clear q11
          try clear hx11
          try clear c12
          try clear c12b0
          try clear c12b1
          try clear c15
          try clear c15b0
          try clear hcz13_0
          try clear hcz13_1
          try clear hcz13_2
          try clear hcz13_3
          try clear hcz13_4
          try clear hfz13_0
          try clear hfz13_1
          try clear hfz13_2
          try clear hfz13_3
          try clear hfz13_4
          try clear p11
          try clear p2
          try clear p6
          try clear p7
          try clear q11
          try clear q7
          obtain ⟨kq, x30_13, rfl, HA, HJ13, BK142, HB⟩ := hcut
          cases kq with
          | zero => exact absurd HA.out (by simp [levyref4_text.j2])
          | succ kj13 =>
           have H := HA.out
           clear HA
           simp only [levyref4_text.j2] at H
           by_cases c16 : x30_13 = true
           ·subst c16
            have H1 : (some (0, 0, (⟨#[]⟩ : ByteArray), 0, 0, x7_1, 43)) = some (r1, r2, r3, r4, r5, r6, r7) := by rw [if_pos rfl] at H; exact H
            clear H
            have H := H1
            clear H1
            simp only [Option.some.injEq, Prod.mk.injEq] at H
            obtain ⟨rfl, rfl, rfl, rfl, rfl, rfl, rfl⟩ := H
            have hcz17_0 : wc.cell? ⟨gb142, 0, none⟩ = some (.int .i64 x143000_1) := (blk_cell BK142.out 0).trans rfl
            have hcz17_1 : wc.cell? ⟨gb142, 1, none⟩ = some (.int .i64 x143001_1) := (blk_cell BK142.out 1).trans rfl
            have hcz17_2 : wc.cell? ⟨gb142, 2, none⟩ = some (.string x143002_1) := (blk_cell BK142.out 2).trans rfl
            have hcz17_3 : wc.cell? ⟨gb142, 3, none⟩ = some (.int .i64 x143003_1) := (blk_cell BK142.out 3).trans rfl
            have hcz17_4 : wc.cell? ⟨gb142, 4, none⟩ = some (.int .i64 x143004_1) := (blk_cell BK142.out 4).trans rfl
            have hfz17_0 := blk_frozen BK142.out 0
            have hfz17_1 := blk_frozen BK142.out 1
            have hfz17_2 := blk_frozen BK142.out 2
            have hfz17_3 := blk_frozen BK142.out 3
            have hfz17_4 := blk_frozen BK142.out 4
            go_wp2
            refine bodyPost_ret (results_ctt rfl _ _ gb142 57 #[.int .i64 0, .int .i64 0, .string ⟨#[]⟩, .int .i64 0, .int .i64 0] (0, 0) _ rfl (by (with_reducible repeat (first | refine blk_drewN ?_ _ | refine blk_drew ?_ | refine blk_alloc ?_ _)); refine blk_put (cs := #[.int .i64 0, .int .i64 0, .string ⟨#[]⟩, .int .i64 0, .int .i64 x143004_1]) ?_ 4 _ rfl; (with_reducible repeat (first | refine blk_drewN ?_ _ | refine blk_drew ?_ | refine blk_alloc ?_ _)); refine blk_put (cs := #[.int .i64 0, .int .i64 0, .string ⟨#[]⟩, .int .i64 x143003_1, .int .i64 x143004_1]) ?_ 3 _ rfl; (with_reducible repeat (first | refine blk_drewN ?_ _ | refine blk_drew ?_ | refine blk_alloc ?_ _)); refine blk_put (cs := #[.int .i64 0, .int .i64 0, .string x143002_1, .int .i64 x143003_1, .int .i64 x143004_1]) ?_ 2 _ rfl; (with_reducible repeat (first | refine blk_drewN ?_ _ | refine blk_drew ?_ | refine blk_alloc ?_ _)); refine blk_put (cs := #[.int .i64 0, .int .i64 x143001_1, .string x143002_1, .int .i64 x143003_1, .int .i64 x143004_1]) ?_ 1 _ rfl; (with_reducible repeat (first | refine blk_drewN ?_ _ | refine blk_drew ?_ | refine blk_alloc ?_ _)); refine blk_put (cs := #[.int .i64 x143000_1, .int .i64 x143001_1, .string x143002_1, .int .i64 x143003_1, .int .i64 x143004_1]) ?_ 0 _ rfl; (with_reducible repeat (first | refine blk_drewN ?_ _ | refine blk_drew ?_ | refine blk_alloc ?_ _)); exact BK142.out) Tryz.underlying57 rfl (by kernel_rfl)) rfl ?_
            exact ⟨by first | rfl | (simp [errW_none, errW_some] <;> rfl) | (simp [*, errW_none, errW_some] <;> rfl), by repeat (first | (with_reducible first | exact HB.out | apply below_alloc | apply pw_below_drewN | apply below_drew1 | refine below_set ?_ GE142.out) | exact HB.out)⟩
           ·replace c16 := Bool.eq_false_iff.mpr c16
            subst c16
            have H1 : (if (bt a0 x7_1) = 92 then ((levyref4_is.f a0 (wrap64 (x7_1 + 1)) (⟨#[34]⟩ : ByteArray)).bind fun t143 => (if t143 = true then (if 0 ≤ (wrap64 (x7_1 + 1)) then (if (wrap64 (x7_1 + 1)) ≤ (wrap64 ((wrap64 (x7_1 + 1)) + 1)) then (if (wrap64 ((wrap64 (x7_1 + 1)) + 1)) ≤ (a0.size : Int) then (if x8_1.size + (a0.extract ((wrap64 (x7_1 + 1)) : Int).toNat ((wrap64 ((wrap64 (x7_1 + 1)) + 1)) : Int).toNat).size ≤ 9223372036854775807 then (levyref4_text.l0 kj13 a0 a1 (wrap64 ((wrap64 (x7_1 + 1)) + 1)) (x8_1 ++ (a0.extract ((wrap64 (x7_1 + 1)) : Int).toNat ((wrap64 ((wrap64 (x7_1 + 1)) + 1)) : Int).toNat))) else (none)) else (none)) else (none)) else (none)) else ((levyref4_is.f a0 (wrap64 (x7_1 + 1)) (⟨#[92]⟩ : ByteArray)).bind fun t144 => (if t144 = true then (if 0 ≤ (wrap64 (x7_1 + 1)) then (if (wrap64 (x7_1 + 1)) ≤ (wrap64 ((wrap64 (x7_1 + 1)) + 1)) then (if (wrap64 ((wrap64 (x7_1 + 1)) + 1)) ≤ (a0.size : Int) then (if x8_1.size + (a0.extract ((wrap64 (x7_1 + 1)) : Int).toNat ((wrap64 ((wrap64 (x7_1 + 1)) + 1)) : Int).toNat).size ≤ 9223372036854775807 then (levyref4_text.l0 kj13 a0 a1 (wrap64 ((wrap64 (x7_1 + 1)) + 1)) (x8_1 ++ (a0.extract ((wrap64 (x7_1 + 1)) : Int).toNat ((wrap64 ((wrap64 (x7_1 + 1)) + 1)) : Int).toNat))) else (none)) else (none)) else (none)) else (none)) else (some (0, 0, (⟨#[]⟩ : ByteArray), 0, 0, x7_1, 43)))))) else (if 0 ≤ x7_1 then (if x7_1 ≤ (wrap64 (x7_1 + 1)) then (if (wrap64 (x7_1 + 1)) ≤ (a0.size : Int) then (if x8_1.size + (a0.extract (x7_1 : Int).toNat ((wrap64 (x7_1 + 1)) : Int).toNat).size ≤ 9223372036854775807 then (levyref4_text.l0 kj13 a0 a1 (wrap64 (x7_1 + 1)) (x8_1 ++ (a0.extract (x7_1 : Int).toNat ((wrap64 (x7_1 + 1)) : Int).toNat))) else (none)) else (none)) else (none)) else (none))) = some (r1, r2, r3, r4, r5, r6, r7) := by rw [if_neg (show ¬ (false = true) by decide)] at H; exact H
            clear H
            have H := H1
            clear H1
            by_cases c18 : (bt a0 x7_1) = 92
            ·rw [if_pos c18] at H
             have c18b0 : ((bt a0 x7_1) == 92) = true := beq_iff_eq.mpr c18
             have c18b1 : ((bt a0 x7_1) != 92) = false := bne_eq_false_iff_eq.mpr c18
             clear c18
             replace H := Option.bind_eq_some_iff.mp H
             obtain ⟨t143, A190, H⟩ := H
             replace H : (if t143 = true then (if 0 ≤ (wrap64 (x7_1 + 1)) then (if (wrap64 (x7_1 + 1)) ≤ (wrap64 ((wrap64 (x7_1 + 1)) + 1)) then (if (wrap64 ((wrap64 (x7_1 + 1)) + 1)) ≤ (a0.size : Int) then (if x8_1.size + (a0.extract ((wrap64 (x7_1 + 1)) : Int).toNat ((wrap64 ((wrap64 (x7_1 + 1)) + 1)) : Int).toNat).size ≤ 9223372036854775807 then (levyref4_text.l0 kj13 a0 a1 (wrap64 ((wrap64 (x7_1 + 1)) + 1)) (x8_1 ++ (a0.extract ((wrap64 (x7_1 + 1)) : Int).toNat ((wrap64 ((wrap64 (x7_1 + 1)) + 1)) : Int).toNat))) else (none)) else (none)) else (none)) else (none)) else ((levyref4_is.f a0 (wrap64 (x7_1 + 1)) (⟨#[92]⟩ : ByteArray)).bind fun t144 => (if t144 = true then (if 0 ≤ (wrap64 (x7_1 + 1)) then (if (wrap64 (x7_1 + 1)) ≤ (wrap64 ((wrap64 (x7_1 + 1)) + 1)) then (if (wrap64 ((wrap64 (x7_1 + 1)) + 1)) ≤ (a0.size : Int) then (if x8_1.size + (a0.extract ((wrap64 (x7_1 + 1)) : Int).toNat ((wrap64 ((wrap64 (x7_1 + 1)) + 1)) : Int).toNat).size ≤ 9223372036854775807 then (levyref4_text.l0 kj13 a0 a1 (wrap64 ((wrap64 (x7_1 + 1)) + 1)) (x8_1 ++ (a0.extract ((wrap64 (x7_1 + 1)) : Int).toNat ((wrap64 ((wrap64 (x7_1 + 1)) + 1)) : Int).toNat))) else (none)) else (none)) else (none)) else (none)) else (some (0, 0, (⟨#[]⟩ : ByteArray), 0, 0, x7_1, 43))))) = some (r1, r2, r3, r4, r5, r6, r7) := H
             have A19 := Aside0.mk A190
             clear A190
             by_cases c20 : t143 = true
             ·subst c20
              have H1 : (if 0 ≤ (wrap64 (x7_1 + 1)) then (if (wrap64 (x7_1 + 1)) ≤ (wrap64 ((wrap64 (x7_1 + 1)) + 1)) then (if (wrap64 ((wrap64 (x7_1 + 1)) + 1)) ≤ (a0.size : Int) then (if x8_1.size + (a0.extract ((wrap64 (x7_1 + 1)) : Int).toNat ((wrap64 ((wrap64 (x7_1 + 1)) + 1)) : Int).toNat).size ≤ 9223372036854775807 then (levyref4_text.l0 kj13 a0 a1 (wrap64 ((wrap64 (x7_1 + 1)) + 1)) (x8_1 ++ (a0.extract ((wrap64 (x7_1 + 1)) : Int).toNat ((wrap64 ((wrap64 (x7_1 + 1)) + 1)) : Int).toNat))) else (none)) else (none)) else (none)) else (none)) = some (r1, r2, r3, r4, r5, r6, r7) := by rw [if_pos rfl] at H; exact H
              clear H
              have H := H1
              clear H1
              obtain ⟨ji21, hji21⟩ : ∃ j_ : Int, (wrap64 (x7_1 + 1)) = j_ := ⟨_, rfl⟩
              replace H : (if 0 ≤ (ji21) then (if (ji21) ≤ (wrap64 ((ji21) + 1)) then (if (wrap64 ((ji21) + 1)) ≤ (a0.size : Int) then (if x8_1.size + (a0.extract ((ji21) : Int).toNat ((wrap64 ((ji21) + 1)) : Int).toNat).size ≤ 9223372036854775807 then (levyref4_text.l0 kj13 a0 a1 (wrap64 ((ji21) + 1)) (x8_1 ++ (a0.extract ((ji21) : Int).toNat ((wrap64 ((ji21) + 1)) : Int).toNat))) else (none)) else (none)) else (none)) else (none)) = some (r1, r2, r3, r4, r5, r6, r7) := by first | (rw [hji21] at H; exact H) | (simp only [hji21] at H ⊢; exact H)
              (try rw [hji21] at A19)
              have hji21w : (IntKind.i64.wrap (x7_1 + 1)) = ji21 := (i64_w _).trans hji21
              by_cases c22 : 0 ≤ (ji21)
              ·rw [if_pos c22] at H
               have c22b0 := eq_true c22
               have c22b1 : decide (0 ≤ (ji21)) = true := decide_eq_true c22
               clear c22
               by_cases c23 : (ji21) ≤ (wrap64 ((ji21) + 1))
               ·rw [if_pos c23] at H
                have c23b0 := eq_true c23
                have c23b1 : decide ((ji21) ≤ (wrap64 ((ji21) + 1))) = true := decide_eq_true c23
                by_cases c24 : (wrap64 ((ji21) + 1)) ≤ (a0.size : Int)
                ·rw [if_pos c24] at H
                 have c24b0 := eq_true c24
                 have c24b1 : decide ((wrap64 ((ji21) + 1)) ≤ (a0.size : Int)) = true := decide_eq_true c24
                 by_cases c25 : x8_1.size + (a0.extract ((ji21) : Int).toNat ((wrap64 ((ji21) + 1)) : Int).toNat).size ≤ 9223372036854775807
                 ·rw [if_pos c25] at H
                  have c25b0 := eq_true c25
                  have c25b1 : decide (x8_1.size + (a0.extract ((ji21) : Int).toNat ((wrap64 ((ji21) + 1)) : Int).toNat).size ≤ 9223372036854775807) = true := decide_eq_true c25
                  try have c25b2 : (9223372036854775807 < x8_1.size + (a0.extract ((ji21) : Int).toNat ((wrap64 ((ji21) + 1)) : Int).toNat).size) = False := eq_false (Nat.not_lt.2 c25)
                  have H' := Aside0.mk H
                  clear H
                  go_wp2_with (first | ((with_reducible refine gate_callee (f := 130) rfl ?_); refine goesL_ (some 45) rfl rfl Tryz.func130 (by kernel_rfl) rfl #[.string a0, .int .i64 ji21, .string (⟨#[34]⟩ : ByteArray)] rfl (by (try simp only [List.map_toArray, List.map_cons, List.map_nil]); first | done | (simp only [hji21]; rfl) | rfl | (simp only [List.length_drop, List.length_take]; rfl)) ?_; (with_reducible refine (levyref4_is.calls a0 ji21 (⟨#[34]⟩ : ByteArray) true _ A19.out).mono ?_); rintro e w' ⟨rfl, ⟨nd, rfl⟩⟩; refine ⟨_, rfl, ?_⟩))
                  go_roundg kj13
                  case measure => have := HK1.out; have := HJ3.out; have := HJ13.out; omega
                  case rel => exact ⟨(wrap64 ((ji21) + 1)), (x8_1 ++ (a0.extract ((ji21) : Int).toNat ((wrap64 ((ji21) + 1)) : Int).toNat)), (x143000_1), (x143001_1), (x143002_1), (x143003_1), (x143004_1), (by first | rfl | (simp; done) | (simp only [← hji21] <;> (first | rfl | simp)) | (simp [*]; done)), (by first | rfl | (simp; done) | (simp only [← hji21] <;> (first | rfl | simp)) | (simp [*]; done)), H', ⟨by have := HK1.out; have := HJ3.out; have := HJ13.out; omega⟩, ⟨by (with_reducible repeat (first | refine blk_drewN ?_ _ | refine blk_drew ?_ | refine blk_alloc ?_ _)); exact BK142.out⟩, ⟨by repeat (first | (with_reducible first | exact HB.out | apply below_alloc | apply pw_below_drewN | apply below_drew1 | refine below_set ?_ GE142.out) | exact HB.out)⟩⟩
                 ·rw [if_neg c25] at H
                  exact absurd H (by simp)
                ·rw [if_neg c24] at H
                 exact absurd H (by simp)
               ·rw [if_neg c23] at H
                exact absurd H (by simp)
              ·rw [if_neg c22] at H
               exact absurd H (by simp)
             ·replace c20 := Bool.eq_false_iff.mpr c20
              subst c20
              have H1 : ((levyref4_is.f a0 (wrap64 (x7_1 + 1)) (⟨#[92]⟩ : ByteArray)).bind fun t144 => (if t144 = true then (if 0 ≤ (wrap64 (x7_1 + 1)) then (if (wrap64 (x7_1 + 1)) ≤ (wrap64 ((wrap64 (x7_1 + 1)) + 1)) then (if (wrap64 ((wrap64 (x7_1 + 1)) + 1)) ≤ (a0.size : Int) then (if x8_1.size + (a0.extract ((wrap64 (x7_1 + 1)) : Int).toNat ((wrap64 ((wrap64 (x7_1 + 1)) + 1)) : Int).toNat).size ≤ 9223372036854775807 then (levyref4_text.l0 kj13 a0 a1 (wrap64 ((wrap64 (x7_1 + 1)) + 1)) (x8_1 ++ (a0.extract ((wrap64 (x7_1 + 1)) : Int).toNat ((wrap64 ((wrap64 (x7_1 + 1)) + 1)) : Int).toNat))) else (none)) else (none)) else (none)) else (none)) else (some (0, 0, (⟨#[]⟩ : ByteArray), 0, 0, x7_1, 43)))) = some (r1, r2, r3, r4, r5, r6, r7) := by rw [if_neg (show ¬ (false = true) by decide)] at H; exact H
              clear H
              have H := H1
              clear H1
              replace H := Option.bind_eq_some_iff.mp H
              obtain ⟨t144, A260, H⟩ := H
              replace H : (if t144 = true then (if 0 ≤ (wrap64 (x7_1 + 1)) then (if (wrap64 (x7_1 + 1)) ≤ (wrap64 ((wrap64 (x7_1 + 1)) + 1)) then (if (wrap64 ((wrap64 (x7_1 + 1)) + 1)) ≤ (a0.size : Int) then (if x8_1.size + (a0.extract ((wrap64 (x7_1 + 1)) : Int).toNat ((wrap64 ((wrap64 (x7_1 + 1)) + 1)) : Int).toNat).size ≤ 9223372036854775807 then (levyref4_text.l0 kj13 a0 a1 (wrap64 ((wrap64 (x7_1 + 1)) + 1)) (x8_1 ++ (a0.extract ((wrap64 (x7_1 + 1)) : Int).toNat ((wrap64 ((wrap64 (x7_1 + 1)) + 1)) : Int).toNat))) else (none)) else (none)) else (none)) else (none)) else (some (0, 0, (⟨#[]⟩ : ByteArray), 0, 0, x7_1, 43))) = some (r1, r2, r3, r4, r5, r6, r7) := H
              have A26 := Aside0.mk A260
              clear A260
              by_cases c27 : t144 = true
              ·subst c27
               have H1 : (if 0 ≤ (wrap64 (x7_1 + 1)) then (if (wrap64 (x7_1 + 1)) ≤ (wrap64 ((wrap64 (x7_1 + 1)) + 1)) then (if (wrap64 ((wrap64 (x7_1 + 1)) + 1)) ≤ (a0.size : Int) then (if x8_1.size + (a0.extract ((wrap64 (x7_1 + 1)) : Int).toNat ((wrap64 ((wrap64 (x7_1 + 1)) + 1)) : Int).toNat).size ≤ 9223372036854775807 then (levyref4_text.l0 kj13 a0 a1 (wrap64 ((wrap64 (x7_1 + 1)) + 1)) (x8_1 ++ (a0.extract ((wrap64 (x7_1 + 1)) : Int).toNat ((wrap64 ((wrap64 (x7_1 + 1)) + 1)) : Int).toNat))) else (none)) else (none)) else (none)) else (none)) = some (r1, r2, r3, r4, r5, r6, r7) := by rw [if_pos rfl] at H; exact H
               clear H
               have H := H1
               clear H1
               obtain ⟨ji28, hji28⟩ : ∃ j_ : Int, (wrap64 (x7_1 + 1)) = j_ := ⟨_, rfl⟩
               replace H : (if 0 ≤ (ji28) then (if (ji28) ≤ (wrap64 ((ji28) + 1)) then (if (wrap64 ((ji28) + 1)) ≤ (a0.size : Int) then (if x8_1.size + (a0.extract ((ji28) : Int).toNat ((wrap64 ((ji28) + 1)) : Int).toNat).size ≤ 9223372036854775807 then (levyref4_text.l0 kj13 a0 a1 (wrap64 ((ji28) + 1)) (x8_1 ++ (a0.extract ((ji28) : Int).toNat ((wrap64 ((ji28) + 1)) : Int).toNat))) else (none)) else (none)) else (none)) else (none)) = some (r1, r2, r3, r4, r5, r6, r7) := by first | (rw [hji28] at H; exact H) | (simp only [hji28] at H ⊢; exact H)
               (try rw [hji28] at A19)
               (try rw [hji28] at A26)
               have hji28w : (IntKind.i64.wrap (x7_1 + 1)) = ji28 := (i64_w _).trans hji28
               by_cases c29 : 0 ≤ (ji28)
               ·rw [if_pos c29] at H
                have c29b0 := eq_true c29
                have c29b1 : decide (0 ≤ (ji28)) = true := decide_eq_true c29
                clear c29
                by_cases c30 : (ji28) ≤ (wrap64 ((ji28) + 1))
                ·rw [if_pos c30] at H
                 have c30b0 := eq_true c30
                 have c30b1 : decide ((ji28) ≤ (wrap64 ((ji28) + 1))) = true := decide_eq_true c30
                 by_cases c31 : (wrap64 ((ji28) + 1)) ≤ (a0.size : Int)
                 ·rw [if_pos c31] at H
                  have c31b0 := eq_true c31
                  have c31b1 : decide ((wrap64 ((ji28) + 1)) ≤ (a0.size : Int)) = true := decide_eq_true c31
                  by_cases c32 : x8_1.size + (a0.extract ((ji28) : Int).toNat ((wrap64 ((ji28) + 1)) : Int).toNat).size ≤ 9223372036854775807
                  ·rw [if_pos c32] at H
                   have c32b0 := eq_true c32
                   have c32b1 : decide (x8_1.size + (a0.extract ((ji28) : Int).toNat ((wrap64 ((ji28) + 1)) : Int).toNat).size ≤ 9223372036854775807) = true := decide_eq_true c32
                   try have c32b2 : (9223372036854775807 < x8_1.size + (a0.extract ((ji28) : Int).toNat ((wrap64 ((ji28) + 1)) : Int).toNat).size) = False := eq_false (Nat.not_lt.2 c32)
                   have H' := Aside0.mk H
                   clear H
                   go_wp2_with (first | ((with_reducible refine gate_callee (f := 130) rfl ?_); refine goesL_ (some 45) rfl rfl Tryz.func130 (by kernel_rfl) rfl #[.string a0, .int .i64 ji28, .string (⟨#[34]⟩ : ByteArray)] rfl (by (try simp only [List.map_toArray, List.map_cons, List.map_nil]); first | done | (simp only [hji28]; rfl) | rfl | (simp only [List.length_drop, List.length_take]; rfl)) ?_; (with_reducible refine (levyref4_is.calls a0 ji28 (⟨#[34]⟩ : ByteArray) false _ A19.out).mono ?_); rintro e w' ⟨rfl, ⟨nd, rfl⟩⟩; refine ⟨_, rfl, ?_⟩) | (go_at_call 130; (with_reducible refine (levyref4_is.calls a0 ji28 (⟨#[92]⟩ : ByteArray) true _ A26.out).mono ?_); rintro e w' ⟨rfl, ⟨nd, rfl⟩⟩))
                   go_roundg kj13
                   case measure => have := HK1.out; have := HJ3.out; have := HJ13.out; omega
                   case rel => exact ⟨(wrap64 ((ji28) + 1)), (x8_1 ++ (a0.extract ((ji28) : Int).toNat ((wrap64 ((ji28) + 1)) : Int).toNat)), (x143000_1), (x143001_1), (x143002_1), (x143003_1), (x143004_1), (by first | rfl | (simp; done) | (simp only [← hji28] <;> (first | rfl | simp)) | (simp [*]; done)), (by first | rfl | (simp; done) | (simp only [← hji28] <;> (first | rfl | simp)) | (simp [*]; done)), H', ⟨by have := HK1.out; have := HJ3.out; have := HJ13.out; omega⟩, ⟨by (with_reducible repeat (first | refine blk_drewN ?_ _ | refine blk_drew ?_ | refine blk_alloc ?_ _)); exact BK142.out⟩, ⟨by repeat (first | (with_reducible first | exact HB.out | apply below_alloc | apply pw_below_drewN | apply below_drew1 | refine below_set ?_ GE142.out) | exact HB.out)⟩⟩
                  ·rw [if_neg c32] at H
                   exact absurd H (by simp)
                 ·rw [if_neg c31] at H
                  exact absurd H (by simp)
                ·rw [if_neg c30] at H
                 exact absurd H (by simp)
               ·rw [if_neg c29] at H
                exact absurd H (by simp)
              ·replace c27 := Bool.eq_false_iff.mpr c27
               subst c27
               have H1 : (some (0, 0, (⟨#[]⟩ : ByteArray), 0, 0, x7_1, 43)) = some (r1, r2, r3, r4, r5, r6, r7) := by rw [if_neg (show ¬ (false = true) by decide)] at H; exact H
               clear H
               have H := H1
               clear H1
               simp only [Option.some.injEq, Prod.mk.injEq] at H
               obtain ⟨rfl, rfl, rfl, rfl, rfl, rfl, rfl⟩ := H
               go_wp2_with (first | ((with_reducible refine gate_callee (f := 130) rfl ?_); refine goesL_ (some 45) rfl rfl Tryz.func130 (by kernel_rfl) rfl #[.string a0, .int .i64 (wrap64 (x7_1 + 1)), .string (⟨#[34]⟩ : ByteArray)] rfl (by (try simp only [List.map_toArray, List.map_cons, List.map_nil]); first | done | rfl | (simp only [List.length_drop, List.length_take]; rfl)) ?_; (with_reducible refine (levyref4_is.calls a0 (wrap64 (x7_1 + 1)) (⟨#[34]⟩ : ByteArray) false _ A19.out).mono ?_); rintro e w' ⟨rfl, ⟨nd, rfl⟩⟩; refine ⟨_, rfl, ?_⟩; (try (rw [drewN_self wc]; generalize hq_ : World.drewN wc _ = wc; have n0_ : Aside0 (wc.heap[gb142]? = some (.cells #[.int .i64 x143000_1, .int .i64 x143001_1, .string x143002_1, .int .i64 x143003_1, .int .i64 x143004_1] 57 (0, 0))) := ⟨by rw [← hq_]; exact (by (with_reducible repeat (first | refine blk_drewN ?_ _ | refine blk_drew ?_ | refine blk_alloc ?_ _)); exact BK142.out)⟩; have n1_ : Aside0 (Below w.heap.size w wc) := ⟨by rw [← hq_]; exact (by repeat (first | (with_reducible first | exact HB.out | apply below_alloc | apply pw_below_drewN | apply below_drew1 | refine below_set ?_ GE142.out) | exact HB.out))⟩; clear BK142 HB hq_; have BK142 := n0_; have HB := n1_; clear n0_ n1_))) | (go_at_call 130; (with_reducible refine (levyref4_is.calls a0 (wrap64 (x7_1 + 1)) (⟨#[92]⟩ : ByteArray) false _ A26.out).mono ?_); rintro e w' ⟨rfl, ⟨nd, rfl⟩⟩; (try (rw [drewN_self wc]; generalize hq_ : World.drewN wc _ = wc; have n0_ : Aside0 (wc.heap[gb142]? = some (.cells #[.int .i64 x143000_1, .int .i64 x143001_1, .string x143002_1, .int .i64 x143003_1, .int .i64 x143004_1] 57 (0, 0))) := ⟨by rw [← hq_]; exact (by (with_reducible repeat (first | refine blk_drewN ?_ _ | refine blk_drew ?_ | refine blk_alloc ?_ _)); exact BK142.out)⟩; have n1_ : Aside0 (Below w.heap.size w wc) := ⟨by rw [← hq_]; exact (by repeat (first | (with_reducible first | exact HB.out | apply below_alloc | apply pw_below_drewN | apply below_drew1 | refine below_set ?_ GE142.out) | exact HB.out))⟩; clear BK142 HB hq_; have BK142 := n0_; have HB := n1_; clear n0_ n1_)); have hcz33_0 : wc.cell? ⟨gb142, 0, none⟩ = some (.int .i64 x143000_1) := (blk_cell BK142.out 0).trans rfl; have hcz33_1 : wc.cell? ⟨gb142, 1, none⟩ = some (.int .i64 x143001_1) := (blk_cell BK142.out 1).trans rfl; have hcz33_2 : wc.cell? ⟨gb142, 2, none⟩ = some (.string x143002_1) := (blk_cell BK142.out 2).trans rfl; have hcz33_3 : wc.cell? ⟨gb142, 3, none⟩ = some (.int .i64 x143003_1) := (blk_cell BK142.out 3).trans rfl; have hcz33_4 : wc.cell? ⟨gb142, 4, none⟩ = some (.int .i64 x143004_1) := (blk_cell BK142.out 4).trans rfl; have hfz33_0 := blk_frozen BK142.out 0; have hfz33_1 := blk_frozen BK142.out 1; have hfz33_2 := blk_frozen BK142.out 2; have hfz33_3 := blk_frozen BK142.out 3; have hfz33_4 := blk_frozen BK142.out 4))
               refine bodyPost_ret (results_ctt rfl _ _ gb142 57 #[.int .i64 0, .int .i64 0, .string ⟨#[]⟩, .int .i64 0, .int .i64 0] (0, 0) _ rfl (by (with_reducible repeat (first | refine blk_drewN ?_ _ | refine blk_drew ?_ | refine blk_alloc ?_ _)); refine blk_put (cs := #[.int .i64 0, .int .i64 0, .string ⟨#[]⟩, .int .i64 0, .int .i64 x143004_1]) ?_ 4 _ rfl; (with_reducible repeat (first | refine blk_drewN ?_ _ | refine blk_drew ?_ | refine blk_alloc ?_ _)); refine blk_put (cs := #[.int .i64 0, .int .i64 0, .string ⟨#[]⟩, .int .i64 x143003_1, .int .i64 x143004_1]) ?_ 3 _ rfl; (with_reducible repeat (first | refine blk_drewN ?_ _ | refine blk_drew ?_ | refine blk_alloc ?_ _)); refine blk_put (cs := #[.int .i64 0, .int .i64 0, .string x143002_1, .int .i64 x143003_1, .int .i64 x143004_1]) ?_ 2 _ rfl; (with_reducible repeat (first | refine blk_drewN ?_ _ | refine blk_drew ?_ | refine blk_alloc ?_ _)); refine blk_put (cs := #[.int .i64 0, .int .i64 x143001_1, .string x143002_1, .int .i64 x143003_1, .int .i64 x143004_1]) ?_ 1 _ rfl; (with_reducible repeat (first | refine blk_drewN ?_ _ | refine blk_drew ?_ | refine blk_alloc ?_ _)); refine blk_put (cs := #[.int .i64 x143000_1, .int .i64 x143001_1, .string x143002_1, .int .i64 x143003_1, .int .i64 x143004_1]) ?_ 0 _ rfl; (with_reducible repeat (first | refine blk_drewN ?_ _ | refine blk_drew ?_ | refine blk_alloc ?_ _)); exact BK142.out) Tryz.underlying57 rfl (by kernel_rfl)) rfl ?_
               exact ⟨by first | rfl | (simp [errW_none, errW_some] <;> rfl) | (simp [*, errW_none, errW_some] <;> rfl), by repeat (first | (with_reducible first | exact HB.out | apply below_alloc | apply pw_below_drewN | apply below_drew1 | refine below_set ?_ GE142.out) | exact HB.out)⟩
            ·rw [if_neg c18] at H
             have c18b0 : ((bt a0 x7_1) == 92) = false := beq_eq_false_iff_ne.mpr c18
             have c18b1 : ((bt a0 x7_1) != 92) = true := bne_iff_ne.mpr c18
             by_cases c34 : 0 ≤ x7_1
             ·rw [if_pos c34] at H
              have c34b0 := eq_true c34
              have c34b1 : decide (0 ≤ x7_1) = true := decide_eq_true c34
              clear c34
              by_cases c35 : x7_1 ≤ (wrap64 (x7_1 + 1))
              ·rw [if_pos c35] at H
               have c35b0 := eq_true c35
               have c35b1 : decide (x7_1 ≤ (wrap64 (x7_1 + 1))) = true := decide_eq_true c35
               by_cases c36 : (wrap64 (x7_1 + 1)) ≤ (a0.size : Int)
               ·rw [if_pos c36] at H
                have c36b0 := eq_true c36
                have c36b1 : decide ((wrap64 (x7_1 + 1)) ≤ (a0.size : Int)) = true := decide_eq_true c36
                by_cases c37 : x8_1.size + (a0.extract (x7_1 : Int).toNat ((wrap64 (x7_1 + 1)) : Int).toNat).size ≤ 9223372036854775807
                ·rw [if_pos c37] at H
                 have c37b0 := eq_true c37
                 have c37b1 : decide (x8_1.size + (a0.extract (x7_1 : Int).toNat ((wrap64 (x7_1 + 1)) : Int).toNat).size ≤ 9223372036854775807) = true := decide_eq_true c37
                 try have c37b2 : (9223372036854775807 < x8_1.size + (a0.extract (x7_1 : Int).toNat ((wrap64 (x7_1 + 1)) : Int).toNat).size) = False := eq_false (Nat.not_lt.2 c37)
                 have H' := Aside0.mk H
                 clear H
                 go_wp2
                 go_roundg kj13
                 case measure => have := HK1.out; have := HJ3.out; have := HJ13.out; omega
                 case rel => exact ⟨(wrap64 (x7_1 + 1)), (x8_1 ++ (a0.extract (x7_1 : Int).toNat ((wrap64 (x7_1 + 1)) : Int).toNat)), (x143000_1), (x143001_1), (x143002_1), (x143003_1), (x143004_1), (by first | rfl | (simp [*]; done)), (by first | rfl | (simp [*]; done)), H', ⟨by have := HK1.out; have := HJ3.out; have := HJ13.out; omega⟩, ⟨by (with_reducible repeat (first | refine blk_drewN ?_ _ | refine blk_drew ?_ | refine blk_alloc ?_ _)); exact BK142.out⟩, ⟨by repeat (first | (with_reducible first | exact HB.out | apply below_alloc | apply pw_below_drewN | apply below_drew1 | refine below_set ?_ GE142.out) | exact HB.out)⟩⟩
                ·rw [if_neg c37] at H
                 exact absurd H (by simp)
               ·rw [if_neg c36] at H
                exact absurd H (by simp)
              ·rw [if_neg c35] at H
               exact absurd H (by simp)
             ·rw [if_neg c34] at H
              exact absurd H (by simp)
       ·rw [if_neg c10] at H
        exact absurd H (by simp)
      ·rw [if_neg c9] at H
       exact absurd H (by simp)
     ·replace c8 := Bool.eq_false_iff.mpr c8
      subst c8
      have H1 : (if x7_1 ≥ (a0.size : Int) then (some (0, 0, (⟨#[]⟩ : ByteArray), 0, 0, a1, 43)) else (if (x8_1.size : Int) > 40 then (some (0, 0, (⟨#[]⟩ : ByteArray), 0, 0, a1, 40)) else (some (6, 0, x8_1, 0, 0, wrap64 (x7_1 + 1), 0)))) = some (r1, r2, r3, r4, r5, r6, r7) := by rw [if_neg (show ¬ (false = true) by decide)] at H; exact H
      clear H
      have H := H1
      clear H1
      by_cases c38 : x7_1 ≥ (a0.size : Int)
      ·rw [if_pos c38] at H
       have c38b0 : decide ((a0.size : Int) ≤ x7_1) = true := decide_eq_true c38
       clear c38
       simp only [Option.some.injEq, Prod.mk.injEq] at H
       obtain ⟨rfl, rfl, rfl, rfl, rfl, rfl, rfl⟩ := H
       have hcz39_0 : wc.cell? ⟨gb142, 0, none⟩ = some (.int .i64 x143000_1) := (blk_cell BK142.out 0).trans rfl
       have hcz39_1 : wc.cell? ⟨gb142, 1, none⟩ = some (.int .i64 x143001_1) := (blk_cell BK142.out 1).trans rfl
       have hcz39_2 : wc.cell? ⟨gb142, 2, none⟩ = some (.string x143002_1) := (blk_cell BK142.out 2).trans rfl
       have hcz39_3 : wc.cell? ⟨gb142, 3, none⟩ = some (.int .i64 x143003_1) := (blk_cell BK142.out 3).trans rfl
       have hcz39_4 : wc.cell? ⟨gb142, 4, none⟩ = some (.int .i64 x143004_1) := (blk_cell BK142.out 4).trans rfl
       have hfz39_0 := blk_frozen BK142.out 0
       have hfz39_1 := blk_frozen BK142.out 1
       have hfz39_2 := blk_frozen BK142.out 2
       have hfz39_3 := blk_frozen BK142.out 3
       have hfz39_4 := blk_frozen BK142.out 4
       go_wp2
       refine bodyPost_ret (results_ctt rfl _ _ gb142 57 #[.int .i64 0, .int .i64 0, .string ⟨#[]⟩, .int .i64 0, .int .i64 0] (0, 0) _ rfl (by (with_reducible repeat (first | refine blk_drewN ?_ _ | refine blk_drew ?_ | refine blk_alloc ?_ _)); refine blk_put (cs := #[.int .i64 0, .int .i64 0, .string ⟨#[]⟩, .int .i64 0, .int .i64 x143004_1]) ?_ 4 _ rfl; (with_reducible repeat (first | refine blk_drewN ?_ _ | refine blk_drew ?_ | refine blk_alloc ?_ _)); refine blk_put (cs := #[.int .i64 0, .int .i64 0, .string ⟨#[]⟩, .int .i64 x143003_1, .int .i64 x143004_1]) ?_ 3 _ rfl; (with_reducible repeat (first | refine blk_drewN ?_ _ | refine blk_drew ?_ | refine blk_alloc ?_ _)); refine blk_put (cs := #[.int .i64 0, .int .i64 0, .string x143002_1, .int .i64 x143003_1, .int .i64 x143004_1]) ?_ 2 _ rfl; (with_reducible repeat (first | refine blk_drewN ?_ _ | refine blk_drew ?_ | refine blk_alloc ?_ _)); refine blk_put (cs := #[.int .i64 0, .int .i64 x143001_1, .string x143002_1, .int .i64 x143003_1, .int .i64 x143004_1]) ?_ 1 _ rfl; (with_reducible repeat (first | refine blk_drewN ?_ _ | refine blk_drew ?_ | refine blk_alloc ?_ _)); refine blk_put (cs := #[.int .i64 x143000_1, .int .i64 x143001_1, .string x143002_1, .int .i64 x143003_1, .int .i64 x143004_1]) ?_ 0 _ rfl; (with_reducible repeat (first | refine blk_drewN ?_ _ | refine blk_drew ?_ | refine blk_alloc ?_ _)); exact BK142.out) Tryz.underlying57 rfl (by kernel_rfl)) rfl ?_
       exact ⟨by first | rfl | (simp [errW_none, errW_some] <;> rfl) | (simp [*, errW_none, errW_some] <;> rfl), by repeat (first | (with_reducible first | exact HB.out | apply below_alloc | apply pw_below_drewN | apply below_drew1 | refine below_set ?_ GE142.out) | exact HB.out)⟩
      ·rw [if_neg c38] at H
       have c38b0 : decide ((a0.size : Int) ≤ x7_1) = false := decide_eq_false c38
       clear c38
       by_cases c40 : (x8_1.size : Int) > 40
       ·rw [if_pos c40] at H
        have c40b0 : decide (40 < (x8_1.size : Int)) = true := decide_eq_true c40
        have c40b1 : decide (40 < x8_1.size) = true := decide_eq_true (by omega)
        clear c40
        simp only [Option.some.injEq, Prod.mk.injEq] at H
        obtain ⟨rfl, rfl, rfl, rfl, rfl, rfl, rfl⟩ := H
        have hcz41_0 : wc.cell? ⟨gb142, 0, none⟩ = some (.int .i64 x143000_1) := (blk_cell BK142.out 0).trans rfl
        have hcz41_1 : wc.cell? ⟨gb142, 1, none⟩ = some (.int .i64 x143001_1) := (blk_cell BK142.out 1).trans rfl
        have hcz41_2 : wc.cell? ⟨gb142, 2, none⟩ = some (.string x143002_1) := (blk_cell BK142.out 2).trans rfl
        have hcz41_3 : wc.cell? ⟨gb142, 3, none⟩ = some (.int .i64 x143003_1) := (blk_cell BK142.out 3).trans rfl
        have hcz41_4 : wc.cell? ⟨gb142, 4, none⟩ = some (.int .i64 x143004_1) := (blk_cell BK142.out 4).trans rfl
        have hfz41_0 := blk_frozen BK142.out 0
        have hfz41_1 := blk_frozen BK142.out 1
        have hfz41_2 := blk_frozen BK142.out 2
        have hfz41_3 := blk_frozen BK142.out 3
        have hfz41_4 := blk_frozen BK142.out 4
        go_wp2
        refine bodyPost_ret (results_ctt rfl _ _ gb142 57 #[.int .i64 0, .int .i64 0, .string ⟨#[]⟩, .int .i64 0, .int .i64 0] (0, 0) _ rfl (by (with_reducible repeat (first | refine blk_drewN ?_ _ | refine blk_drew ?_ | refine blk_alloc ?_ _)); refine blk_put (cs := #[.int .i64 0, .int .i64 0, .string ⟨#[]⟩, .int .i64 0, .int .i64 x143004_1]) ?_ 4 _ rfl; (with_reducible repeat (first | refine blk_drewN ?_ _ | refine blk_drew ?_ | refine blk_alloc ?_ _)); refine blk_put (cs := #[.int .i64 0, .int .i64 0, .string ⟨#[]⟩, .int .i64 x143003_1, .int .i64 x143004_1]) ?_ 3 _ rfl; (with_reducible repeat (first | refine blk_drewN ?_ _ | refine blk_drew ?_ | refine blk_alloc ?_ _)); refine blk_put (cs := #[.int .i64 0, .int .i64 0, .string x143002_1, .int .i64 x143003_1, .int .i64 x143004_1]) ?_ 2 _ rfl; (with_reducible repeat (first | refine blk_drewN ?_ _ | refine blk_drew ?_ | refine blk_alloc ?_ _)); refine blk_put (cs := #[.int .i64 0, .int .i64 x143001_1, .string x143002_1, .int .i64 x143003_1, .int .i64 x143004_1]) ?_ 1 _ rfl; (with_reducible repeat (first | refine blk_drewN ?_ _ | refine blk_drew ?_ | refine blk_alloc ?_ _)); refine blk_put (cs := #[.int .i64 x143000_1, .int .i64 x143001_1, .string x143002_1, .int .i64 x143003_1, .int .i64 x143004_1]) ?_ 0 _ rfl; (with_reducible repeat (first | refine blk_drewN ?_ _ | refine blk_drew ?_ | refine blk_alloc ?_ _)); exact BK142.out) Tryz.underlying57 rfl (by kernel_rfl)) rfl ?_
        exact ⟨by first | rfl | (simp [errW_none, errW_some] <;> rfl) | (simp [*, errW_none, errW_some] <;> rfl), by repeat (first | (with_reducible first | exact HB.out | apply below_alloc | apply pw_below_drewN | apply below_drew1 | refine below_set ?_ GE142.out) | exact HB.out)⟩
       ·rw [if_neg c40] at H
        have c40b0 : decide (40 < (x8_1.size : Int)) = false := decide_eq_false c40
        have c40b1 : decide (40 < x8_1.size) = false := decide_eq_false (by omega)
        clear c40
        simp only [Option.some.injEq, Prod.mk.injEq] at H
        obtain ⟨rfl, rfl, rfl, rfl, rfl, rfl, rfl⟩ := H
        have hcz42_0 : wc.cell? ⟨gb142, 0, none⟩ = some (.int .i64 x143000_1) := (blk_cell BK142.out 0).trans rfl
        have hcz42_1 : wc.cell? ⟨gb142, 1, none⟩ = some (.int .i64 x143001_1) := (blk_cell BK142.out 1).trans rfl
        have hcz42_2 : wc.cell? ⟨gb142, 2, none⟩ = some (.string x143002_1) := (blk_cell BK142.out 2).trans rfl
        have hcz42_3 : wc.cell? ⟨gb142, 3, none⟩ = some (.int .i64 x143003_1) := (blk_cell BK142.out 3).trans rfl
        have hcz42_4 : wc.cell? ⟨gb142, 4, none⟩ = some (.int .i64 x143004_1) := (blk_cell BK142.out 4).trans rfl
        have hfz42_0 := blk_frozen BK142.out 0
        have hfz42_1 := blk_frozen BK142.out 1
        have hfz42_2 := blk_frozen BK142.out 2
        have hfz42_3 := blk_frozen BK142.out 3
        have hfz42_4 := blk_frozen BK142.out 4
        go_wp2
        refine bodyPost_ret (results_ctt rfl _ _ gb142 57 #[.int .i64 6, .int .i64 0, .string x8_1, .int .i64 0, .int .i64 0] (0, 0) _ rfl (by (with_reducible repeat (first | refine blk_drewN ?_ _ | refine blk_drew ?_ | refine blk_alloc ?_ _)); refine blk_put (cs := #[.int .i64 6, .int .i64 0, .string x8_1, .int .i64 0, .int .i64 x143004_1]) ?_ 4 _ rfl; (with_reducible repeat (first | refine blk_drewN ?_ _ | refine blk_drew ?_ | refine blk_alloc ?_ _)); refine blk_put (cs := #[.int .i64 6, .int .i64 0, .string x8_1, .int .i64 x143003_1, .int .i64 x143004_1]) ?_ 3 _ rfl; (with_reducible repeat (first | refine blk_drewN ?_ _ | refine blk_drew ?_ | refine blk_alloc ?_ _)); refine blk_put (cs := #[.int .i64 6, .int .i64 0, .string x143002_1, .int .i64 x143003_1, .int .i64 x143004_1]) ?_ 2 _ rfl; (with_reducible repeat (first | refine blk_drewN ?_ _ | refine blk_drew ?_ | refine blk_alloc ?_ _)); refine blk_put (cs := #[.int .i64 6, .int .i64 x143001_1, .string x143002_1, .int .i64 x143003_1, .int .i64 x143004_1]) ?_ 1 _ rfl; (with_reducible repeat (first | refine blk_drewN ?_ _ | refine blk_drew ?_ | refine blk_alloc ?_ _)); refine blk_put (cs := #[.int .i64 x143000_1, .int .i64 x143001_1, .string x143002_1, .int .i64 x143003_1, .int .i64 x143004_1]) ?_ 0 _ rfl; (with_reducible repeat (first | refine blk_drewN ?_ _ | refine blk_drew ?_ | refine blk_alloc ?_ _)); exact BK142.out) Tryz.underlying57 rfl (by kernel_rfl)) rfl ?_
        exact ⟨by first | rfl | (simp [errW_none, errW_some] <;> rfl) | (simp [*, errW_none, errW_some] <;> rfl), by repeat (first | (with_reducible first | exact HB.out | apply below_alloc | apply pw_below_drewN | apply below_drew1 | refine below_set ?_ GE142.out) | exact HB.out)⟩
mutual
def levyref4_word.j0 : Nat → ByteArray → Int → Bool → Option (Int × Int × ByteArray × Int × Int × Int × Int)
 | 0, _, _, _ => none
 | k + 1, x0, x1, x31 => if x31 = true then ((levyref4_dated.f k x0 x1).bind fun bt150 => (some (bt150.1, bt150.2.1, bt150.2.2.1, bt150.2.2.2.1, bt150.2.2.2.2.1, bt150.2.2.2.2.2.1, bt150.2.2.2.2.2.2))) else (if 0 ≤ x1 then (if x1 < (x0.size : Int) then ((levyref4_isDigit.f (bt x0 x1)).bind fun t157 => (if t157 = true then ((levyref4_number.f k x0 x1).bind fun bt158 => (some (bt158.1, bt158.2.1, bt158.2.2.1, bt158.2.2.2.1, bt158.2.2.2.2.1, bt158.2.2.2.2.2.1, bt158.2.2.2.2.2.2))) else (if (bt x0 x1) = 34 then ((levyref4_text.f k x0 x1).bind fun bt165 => (some (bt165.1, bt165.2.1, bt165.2.2.1, bt165.2.2.2.1, bt165.2.2.2.2.1, bt165.2.2.2.2.2.1, bt165.2.2.2.2.2.2))) else (levyref4_word.l0 k x0 x1 0)))) else (none)) else (none))
def levyref4_word.l0 : Nat → ByteArray → Int → Int → Option (Int × Int × ByteArray × Int × Int × Int × Int)
 | 0, _, _, _ => none
 | k + 1, x0, x1, x8 => if x8 < 15 then (if 0 ≤ x8 then ((levyref4_is.f x0 x1 (rdOf ByteArray.empty tab0 x8)).bind fun t172 => (if t172 = true then (some (7, 0, rdOf ByteArray.empty tab0 x8, 0, 0, wrap64 (x1 + ((rdOf ByteArray.empty tab0 x8).size : Int)), 0)) else (levyref4_word.l0 k x0 x1 (wrap64 (x8 + 1))))) else (none)) else (some (0, 0, (⟨#[]⟩ : ByteArray), 0, 0, x1, 41))
end
def levyref4_word.f (k : Nat) (a0 : ByteArray) (a1 : Int) : Option (Int × Int × ByteArray × Int × Int × Int × Int) := if 0 ≤ a1 then (if a1 < (a0.size : Int) then ((levyref4_isLetter.f (bt a0 a1)).bind fun t146 => (if t146 = true then ((levyref4_run.f k a0 a1 2).bind fun t147 => (if t147 > 12 then (some (0, 0, (⟨#[]⟩ : ByteArray), 0, 0, a1, 40)) else (if a1 ≤ (wrap64 (a1 + t147)) then (if (wrap64 (a1 + t147)) ≤ (a0.size : Int) then (some (1, 0, a0.extract (a1 : Int).toNat ((wrap64 (a1 + t147)) : Int).toNat, 0, 0, wrap64 (a1 + t147), 0)) else (none)) else (none)))) else ((levyref4_isDigit.f (bt a0 a1)).bind fun t148 => (if t148 = true then ((levyref4_dateAt.f k a0 a1).bind fun t149 => (levyref4_word.j0 k a0 a1 t149)) else (levyref4_word.j0 k a0 a1 false))))) else (none)) else (none)
def levyref4_word.T16 : Bool × List (List Nat × List Nat) := (true, [([], []), ([0], [0]), ([1], [1]), ([2], [2]), ([], []), ([], []), ([5], [5]), ([6], [6]), ([7], [7]), ([4, 8], [4, 8]), ([3, 0, 1, 2, 3], [3]), ([9, 10, 0, 1, 2, 3, 4, 5, 6, 7, 8, 9, 10], [9]), ([11, 0, 1, 2, 3, 4, 5, 6, 7, 8, 9, 10, 11], [])])
def levyref4_word.B16 : List Nat := [0, 1, 3, 7, 0, 0, 32, 96, 224, 496, 15, 2047, 4095]
theorem levyref4_word.tab16 : rtab .any (opsOf Tryz.f84 16) = levyref4_word.T16 := by kernel_rfl
theorem levyref4_word.bits16 : waitsOk levyref4_word.T16.2 levyref4_word.B16 = true := by kernel_rfl
set_option maxHeartbeats 8000000 in
set_option maxRecDepth 100000 in
theorem levyref4_word.calls (k : Nat) (a0 : ByteArray) (a1 : Int) (r1 : Int) (r2 : Int) (r3 : ByteArray) (r4 : Int) (r5 : Int) (r6 : Int) (r7 : Int) (w : World) (hT : Tabs w) (h : levyref4_word.f k a0 a1 = some (r1, r2, r3, r4, r5, r6, r7)) :
  Calls Tryz.prog 84 #[.string a0, .int .i64 a1] w fun e w' => e = .returned (.tuple #[.agg #[.int .i64 r1, .int .i64 r2, .string r3, .int .i64 r4, .int .i64 r5], .int .i64 r6, .int .i64 r7]) ∧ Below w.heap.size w w' := by
 have hu57 := Tryz.underlying57
 have HB := Aside0.mk (Below.refl w.heap.size w)
 have HT := Aside0.mk hT
 clear hT
 have H : (if 0 ≤ a1 then (if a1 < (a0.size : Int) then ((levyref4_isLetter.f (bt a0 a1)).bind fun t146 => (if t146 = true then ((levyref4_run.f k a0 a1 2).bind fun t147 => (if t147 > 12 then (some (0, 0, (⟨#[]⟩ : ByteArray), 0, 0, a1, 40)) else (if a1 ≤ (wrap64 (a1 + t147)) then (if (wrap64 (a1 + t147)) ≤ (a0.size : Int) then (some (1, 0, a0.extract (a1 : Int).toNat ((wrap64 (a1 + t147)) : Int).toNat, 0, 0, wrap64 (a1 + t147), 0)) else (none)) else (none)))) else ((levyref4_isDigit.f (bt a0 a1)).bind fun t148 => (if t148 = true then ((levyref4_dateAt.f k a0 a1).bind fun t149 => (levyref4_word.j0 k a0 a1 t149)) else (levyref4_word.j0 k a0 a1 false))))) else (none)) else (none)) = some (r1, r2, r3, r4, r5, r6, r7) := h
 clear h
 by_cases c3 : 0 ≤ a1
 ·rw [if_pos c3] at H
  have c3b0 : decide (0 ≤ a1) = true := decide_eq_true c3
  clear c3
  by_cases c4 : a1 < (a0.size : Int)
  ·rw [if_pos c4] at H
   have c4b0 : decide (a1 < (a0.size : Int)) = true := decide_eq_true c4
   clear c4
   replace H := Option.bind_eq_some_iff.mp H
   obtain ⟨t146, A60, H⟩ := H
   replace H : (if t146 = true then ((levyref4_run.f k a0 a1 2).bind fun t147 => (if t147 > 12 then (some (0, 0, (⟨#[]⟩ : ByteArray), 0, 0, a1, 40)) else (if a1 ≤ (wrap64 (a1 + t147)) then (if (wrap64 (a1 + t147)) ≤ (a0.size : Int) then (some (1, 0, a0.extract (a1 : Int).toNat ((wrap64 (a1 + t147)) : Int).toNat, 0, 0, wrap64 (a1 + t147), 0)) else (none)) else (none)))) else ((levyref4_isDigit.f (bt a0 a1)).bind fun t148 => (if t148 = true then ((levyref4_dateAt.f k a0 a1).bind fun t149 => (levyref4_word.j0 k a0 a1 t149)) else (levyref4_word.j0 k a0 a1 false)))) = some (r1, r2, r3, r4, r5, r6, r7) := H
   have A6 := Aside0.mk A60
   clear A60
   by_cases c7 : t146 = true
   ·subst c7
    have H1 : ((levyref4_run.f k a0 a1 2).bind fun t147 => (if t147 > 12 then (some (0, 0, (⟨#[]⟩ : ByteArray), 0, 0, a1, 40)) else (if a1 ≤ (wrap64 (a1 + t147)) then (if (wrap64 (a1 + t147)) ≤ (a0.size : Int) then (some (1, 0, a0.extract (a1 : Int).toNat ((wrap64 (a1 + t147)) : Int).toNat, 0, 0, wrap64 (a1 + t147), 0)) else (none)) else (none)))) = some (r1, r2, r3, r4, r5, r6, r7) := by rw [if_pos rfl] at H; exact H
    clear H
    have H := H1
    clear H1
    replace H := Option.bind_eq_some_iff.mp H
    obtain ⟨t147, A80, H⟩ := H
    replace H : (if t147 > 12 then (some (0, 0, (⟨#[]⟩ : ByteArray), 0, 0, a1, 40)) else (if a1 ≤ (wrap64 (a1 + t147)) then (if (wrap64 (a1 + t147)) ≤ (a0.size : Int) then (some (1, 0, a0.extract (a1 : Int).toNat ((wrap64 (a1 + t147)) : Int).toNat, 0, 0, wrap64 (a1 + t147), 0)) else (none)) else (none))) = some (r1, r2, r3, r4, r5, r6, r7) := H
    have A8 := Aside0.mk A80
    clear A80
    by_cases c9 : t147 > 12
    ·rw [if_pos c9] at H
     have c9b0 : decide (12 < t147) = true := decide_eq_true c9
     clear c9
     simp only [Option.some.injEq, Prod.mk.injEq] at H
     obtain ⟨rfl, rfl, rfl, rfl, rfl, rfl, rfl⟩ := H
     go_enter Tryz.func84, Tryz.ntmps84
     go_wp2_with (first | ((with_reducible refine gate_dst (N := 4) rfl ?_); refine box_event ?hg (N := 4) ?hd (cs := #[.int .i64 0, .int .i64 0, .string ⟨#[]⟩, .int .i64 0, .int .i64 0]) (t := 57) ?hr ?_; (case hd => rfl); (case hg => rfl); (case hr => first | (go_simp; done) | (go_simp; rfl)); intro gb145 hg w10 hbox hb; have n0_ := Aside0.mk (below_step (by repeat (first | (with_reducible first | exact HB.out | apply below_alloc | apply pw_below_drewN | apply below_drew1) | exact HB.out)) hb); have n1_ := Aside0.mk (hbox); have n2_ := Aside0.mk ((by rw [hg]; exact (below_size (by repeat (first | (with_reducible first | exact HB.out | apply below_alloc | apply pw_below_drewN | apply below_drew1) | exact HB.out))) : w.heap.size ≤ gb145)); have n3_ := Aside0.mk ((by rw [hg]; exact (below_size (by repeat (first | (with_reducible first | exact HB.out | apply below_alloc | apply pw_below_drewN | apply below_drew1) | exact HB.out))) : w.heap.size ≤ gb145)); clear HB; have HB := n0_; have BK145 := n1_; have GW145 := n2_; have GE145 := n3_; clear n0_ n1_ n2_ n3_; clear hb hbox hg; have p5 : 0 ≤ (a1 : Int) := of_decide_eq_true (by assumption); have q5 : a1 < (a0.size : Int) := of_decide_eq_true (by assumption); have hx5 := bt_at a0 a1; replace p5 := eq_true p5; replace q5 := eq_true q5) | ((with_reducible refine gate_callee (f := 123) rfl ?_); refine goesL_ (some 13) rfl rfl Tryz.func123 (by kernel_rfl) rfl #[.int .u8 (bt a0 a1)] rfl (by (try simp only [List.map_toArray, List.map_cons, List.map_nil]); first | done | rfl | (simp only [List.length_drop, List.length_take]; rfl)) ?_; (with_reducible refine (levyref4_isLetter.calls (bt a0 a1) true _ A6.out).mono ?_); rintro e w' ⟨rfl, ⟨nd, rfl⟩⟩; refine ⟨_, rfl, ?_⟩; (try (rw [drewN_self w10]; generalize hq_ : World.drewN w10 _ = w10; have n0_ : Aside0 (w10.heap[gb145]? = some (.cells #[.int .i64 0, .int .i64 0, .string ⟨#[]⟩, .int .i64 0, .int .i64 0] 57 (0, 0))) := ⟨by rw [← hq_]; exact (by (with_reducible repeat (first | refine blk_drewN ?_ _ | refine blk_drew ?_ | refine blk_alloc ?_ _)); exact BK145.out)⟩; have n1_ : Aside0 (Below w.heap.size w w10) := ⟨by rw [← hq_]; exact (by repeat (first | (with_reducible first | exact HB.out | apply below_alloc | apply pw_below_drewN | apply below_drew1 | refine below_set ?_ GE145.out) | exact HB.out))⟩; clear BK145 HB hq_; have BK145 := n0_; have HB := n1_; clear n0_ n1_))) | ((with_reducible refine gate_callee (f := 124) rfl ?_); refine goesL_ (some 16) rfl rfl Tryz.func124 (by kernel_rfl) rfl #[.string a0, .int .i64 a1, .int .i64 2] rfl (by (try simp only [List.map_toArray, List.map_cons, List.map_nil]); first | done | rfl | (simp only [List.length_drop, List.length_take]; rfl)) ?_; (with_reducible refine (levyref4_run.calls k a0 a1 2 t147 _ A8.out).mono ?_); rintro e w' ⟨rfl, ⟨nd, rfl⟩⟩; refine ⟨_, rfl, ?_⟩; (try (rw [drewN_self w10]; generalize hq_ : World.drewN w10 _ = w10; have n0_ : Aside0 (w10.heap[gb145]? = some (.cells #[.int .i64 0, .int .i64 0, .string ⟨#[]⟩, .int .i64 0, .int .i64 0] 57 (0, 0))) := ⟨by rw [← hq_]; exact (by (with_reducible repeat (first | refine blk_drewN ?_ _ | refine blk_drew ?_ | refine blk_alloc ?_ _)); exact BK145.out)⟩; have n1_ : Aside0 (Below w.heap.size w w10) := ⟨by rw [← hq_]; exact (by repeat (first | (with_reducible first | exact HB.out | apply below_alloc | apply pw_below_drewN | apply below_drew1 | refine below_set ?_ GE145.out) | exact HB.out))⟩; clear BK145 HB hq_; have BK145 := n0_; have HB := n1_; clear n0_ n1_)); have hcz11_0 : w10.cell? ⟨gb145, 0, none⟩ = some (.int .i64 0) := (blk_cell BK145.out 0).trans rfl; have hcz11_1 : w10.cell? ⟨gb145, 1, none⟩ = some (.int .i64 0) := (blk_cell BK145.out 1).trans rfl; have hcz11_2 : w10.cell? ⟨gb145, 2, none⟩ = some (.string ⟨#[]⟩) := (blk_cell BK145.out 2).trans rfl; have hcz11_3 : w10.cell? ⟨gb145, 3, none⟩ = some (.int .i64 0) := (blk_cell BK145.out 3).trans rfl; have hcz11_4 : w10.cell? ⟨gb145, 4, none⟩ = some (.int .i64 0) := (blk_cell BK145.out 4).trans rfl; have hfz11_0 := blk_frozen BK145.out 0; have hfz11_1 := blk_frozen BK145.out 1; have hfz11_2 := blk_frozen BK145.out 2; have hfz11_3 := blk_frozen BK145.out 3; have hfz11_4 := blk_frozen BK145.out 4))
     refine bodyPost_ret (results_ctt rfl _ _ gb145 57 #[.int .i64 0, .int .i64 0, .string ⟨#[]⟩, .int .i64 0, .int .i64 0] (0, 0) _ rfl (by (with_reducible repeat (first | refine blk_drewN ?_ _ | refine blk_drew ?_ | refine blk_alloc ?_ _)); refine blk_put (cs := #[.int .i64 0, .int .i64 0, .string ⟨#[]⟩, .int .i64 0, .int .i64 0]) ?_ 4 _ rfl; (with_reducible repeat (first | refine blk_drewN ?_ _ | refine blk_drew ?_ | refine blk_alloc ?_ _)); refine blk_put (cs := #[.int .i64 0, .int .i64 0, .string ⟨#[]⟩, .int .i64 0, .int .i64 0]) ?_ 3 _ rfl; (with_reducible repeat (first | refine blk_drewN ?_ _ | refine blk_drew ?_ | refine blk_alloc ?_ _)); refine blk_put (cs := #[.int .i64 0, .int .i64 0, .string ⟨#[]⟩, .int .i64 0, .int .i64 0]) ?_ 2 _ rfl; (with_reducible repeat (first | refine blk_drewN ?_ _ | refine blk_drew ?_ | refine blk_alloc ?_ _)); refine blk_put (cs := #[.int .i64 0, .int .i64 0, .string ⟨#[]⟩, .int .i64 0, .int .i64 0]) ?_ 1 _ rfl; (with_reducible repeat (first | refine blk_drewN ?_ _ | refine blk_drew ?_ | refine blk_alloc ?_ _)); refine blk_put (cs := #[.int .i64 0, .int .i64 0, .string ⟨#[]⟩, .int .i64 0, .int .i64 0]) ?_ 0 _ rfl; (with_reducible repeat (first | refine blk_drewN ?_ _ | refine blk_drew ?_ | refine blk_alloc ?_ _)); exact BK145.out) Tryz.underlying57 rfl (by kernel_rfl)) rfl ?_
     exact ⟨by first | rfl | (simp [errW_none, errW_some] <;> rfl) | (simp [*, errW_none, errW_some] <;> rfl), by repeat (first | (with_reducible first | exact HB.out | apply below_alloc | apply pw_below_drewN | apply below_drew1 | refine below_set ?_ GE145.out) | exact HB.out)⟩
    ·rw [if_neg c9] at H
     have c9b0 : decide (12 < t147) = false := decide_eq_false c9
     clear c9
     have c12b0 := eq_true (of_decide_eq_true (by assumption) : 0 ≤ a1)
     by_cases c13 : a1 ≤ (wrap64 (a1 + t147))
     ·rw [if_pos c13] at H
      have c13b0 := eq_true c13
      have c13b1 : decide (a1 ≤ (wrap64 (a1 + t147))) = true := decide_eq_true c13
      by_cases c14 : (wrap64 (a1 + t147)) ≤ (a0.size : Int)
      ·rw [if_pos c14] at H
       have c14b0 := eq_true c14
       have c14b1 : decide ((wrap64 (a1 + t147)) ≤ (a0.size : Int)) = true := decide_eq_true c14
       simp only [Option.some.injEq, Prod.mk.injEq] at H
       obtain ⟨rfl, rfl, rfl, rfl, rfl, rfl, rfl⟩ := H
       go_enter Tryz.func84, Tryz.ntmps84
       go_wp2_with (first | ((with_reducible refine gate_dst (N := 4) rfl ?_); refine box_event ?hg (N := 4) ?hd (cs := #[.int .i64 0, .int .i64 0, .string ⟨#[]⟩, .int .i64 0, .int .i64 0]) (t := 57) ?hr ?_; (case hd => rfl); (case hg => rfl); (case hr => first | (go_simp; done) | (go_simp; rfl)); intro gb145 hg w15 hbox hb; have n0_ := Aside0.mk (below_step (by repeat (first | (with_reducible first | exact HB.out | apply below_alloc | apply pw_below_drewN | apply below_drew1) | exact HB.out)) hb); have n1_ := Aside0.mk (hbox); have n2_ := Aside0.mk ((by rw [hg]; exact (below_size (by repeat (first | (with_reducible first | exact HB.out | apply below_alloc | apply pw_below_drewN | apply below_drew1) | exact HB.out))) : w.heap.size ≤ gb145)); have n3_ := Aside0.mk ((by rw [hg]; exact (below_size (by repeat (first | (with_reducible first | exact HB.out | apply below_alloc | apply pw_below_drewN | apply below_drew1) | exact HB.out))) : w.heap.size ≤ gb145)); clear HB; have HB := n0_; have BK145 := n1_; have GW145 := n2_; have GE145 := n3_; clear n0_ n1_ n2_ n3_; clear hb hbox hg; have p5 : 0 ≤ (a1 : Int) := of_decide_eq_true (by assumption); have q5 : a1 < (a0.size : Int) := of_decide_eq_true (by assumption); have hx5 := bt_at a0 a1; replace p5 := eq_true p5; replace q5 := eq_true q5) | ((with_reducible refine gate_callee (f := 123) rfl ?_); refine goesL_ (some 13) rfl rfl Tryz.func123 (by kernel_rfl) rfl #[.int .u8 (bt a0 a1)] rfl (by (try simp only [List.map_toArray, List.map_cons, List.map_nil]); first | done | rfl | (simp only [List.length_drop, List.length_take]; rfl)) ?_; (with_reducible refine (levyref4_isLetter.calls (bt a0 a1) true _ A6.out).mono ?_); rintro e w' ⟨rfl, ⟨nd, rfl⟩⟩; refine ⟨_, rfl, ?_⟩; (try (rw [drewN_self w15]; generalize hq_ : World.drewN w15 _ = w15; have n0_ : Aside0 (w15.heap[gb145]? = some (.cells #[.int .i64 0, .int .i64 0, .string ⟨#[]⟩, .int .i64 0, .int .i64 0] 57 (0, 0))) := ⟨by rw [← hq_]; exact (by (with_reducible repeat (first | refine blk_drewN ?_ _ | refine blk_drew ?_ | refine blk_alloc ?_ _)); exact BK145.out)⟩; have n1_ : Aside0 (Below w.heap.size w w15) := ⟨by rw [← hq_]; exact (by repeat (first | (with_reducible first | exact HB.out | apply below_alloc | apply pw_below_drewN | apply below_drew1 | refine below_set ?_ GE145.out) | exact HB.out))⟩; clear BK145 HB hq_; have BK145 := n0_; have HB := n1_; clear n0_ n1_))) | ((with_reducible refine gate_callee (f := 124) rfl ?_); refine goesL_ (some 16) rfl rfl Tryz.func124 (by kernel_rfl) rfl #[.string a0, .int .i64 a1, .int .i64 2] rfl (by (try simp only [List.map_toArray, List.map_cons, List.map_nil]); first | done | rfl | (simp only [List.length_drop, List.length_take]; rfl)) ?_; (with_reducible refine (levyref4_run.calls k a0 a1 2 t147 _ A8.out).mono ?_); rintro e w' ⟨rfl, ⟨nd, rfl⟩⟩; refine ⟨_, rfl, ?_⟩; (try (rw [drewN_self w15]; generalize hq_ : World.drewN w15 _ = w15; have n0_ : Aside0 (w15.heap[gb145]? = some (.cells #[.int .i64 0, .int .i64 0, .string ⟨#[]⟩, .int .i64 0, .int .i64 0] 57 (0, 0))) := ⟨by rw [← hq_]; exact (by (with_reducible repeat (first | refine blk_drewN ?_ _ | refine blk_drew ?_ | refine blk_alloc ?_ _)); exact BK145.out)⟩; have n1_ : Aside0 (Below w.heap.size w w15) := ⟨by rw [← hq_]; exact (by repeat (first | (with_reducible first | exact HB.out | apply below_alloc | apply pw_below_drewN | apply below_drew1 | refine below_set ?_ GE145.out) | exact HB.out))⟩; clear BK145 HB hq_; have BK145 := n0_; have HB := n1_; clear n0_ n1_)); have hcz16_0 : w15.cell? ⟨gb145, 0, none⟩ = some (.int .i64 0) := (blk_cell BK145.out 0).trans rfl; have hcz16_1 : w15.cell? ⟨gb145, 1, none⟩ = some (.int .i64 0) := (blk_cell BK145.out 1).trans rfl; have hcz16_2 : w15.cell? ⟨gb145, 2, none⟩ = some (.string ⟨#[]⟩) := (blk_cell BK145.out 2).trans rfl; have hcz16_3 : w15.cell? ⟨gb145, 3, none⟩ = some (.int .i64 0) := (blk_cell BK145.out 3).trans rfl; have hcz16_4 : w15.cell? ⟨gb145, 4, none⟩ = some (.int .i64 0) := (blk_cell BK145.out 4).trans rfl; have hfz16_0 := blk_frozen BK145.out 0; have hfz16_1 := blk_frozen BK145.out 1; have hfz16_2 := blk_frozen BK145.out 2; have hfz16_3 := blk_frozen BK145.out 3; have hfz16_4 := blk_frozen BK145.out 4))
       refine bodyPost_ret (results_ctt rfl _ _ gb145 57 #[.int .i64 1, .int .i64 0, .string (a0.extract (a1 : Int).toNat ((wrap64 (a1 + t147)) : Int).toNat), .int .i64 0, .int .i64 0] (0, 0) _ rfl (by (with_reducible repeat (first | refine blk_drewN ?_ _ | refine blk_drew ?_ | refine blk_alloc ?_ _)); refine blk_put (cs := #[.int .i64 1, .int .i64 0, .string (a0.extract (a1 : Int).toNat ((wrap64 (a1 + t147)) : Int).toNat), .int .i64 0, .int .i64 0]) ?_ 4 _ rfl; (with_reducible repeat (first | refine blk_drewN ?_ _ | refine blk_drew ?_ | refine blk_alloc ?_ _)); refine blk_put (cs := #[.int .i64 1, .int .i64 0, .string (a0.extract (a1 : Int).toNat ((wrap64 (a1 + t147)) : Int).toNat), .int .i64 0, .int .i64 0]) ?_ 3 _ rfl; (with_reducible repeat (first | refine blk_drewN ?_ _ | refine blk_drew ?_ | refine blk_alloc ?_ _)); refine blk_put (cs := #[.int .i64 1, .int .i64 0, .string ⟨#[]⟩, .int .i64 0, .int .i64 0]) ?_ 2 _ rfl; (with_reducible repeat (first | refine blk_drewN ?_ _ | refine blk_drew ?_ | refine blk_alloc ?_ _)); refine blk_put (cs := #[.int .i64 1, .int .i64 0, .string ⟨#[]⟩, .int .i64 0, .int .i64 0]) ?_ 1 _ rfl; (with_reducible repeat (first | refine blk_drewN ?_ _ | refine blk_drew ?_ | refine blk_alloc ?_ _)); refine blk_put (cs := #[.int .i64 0, .int .i64 0, .string ⟨#[]⟩, .int .i64 0, .int .i64 0]) ?_ 0 _ rfl; (with_reducible repeat (first | refine blk_drewN ?_ _ | refine blk_drew ?_ | refine blk_alloc ?_ _)); exact BK145.out) Tryz.underlying57 rfl (by kernel_rfl)) rfl ?_
       exact ⟨by first | rfl | (simp [errW_none, errW_some] <;> rfl) | (simp [*, errW_none, errW_some] <;> rfl), by repeat (first | (with_reducible first | exact HB.out | apply below_alloc | apply pw_below_drewN | apply below_drew1 | refine below_set ?_ GE145.out) | exact HB.out)⟩
      ·rw [if_neg c14] at H
       exact absurd H (by simp)
     ·rw [if_neg c13] at H
      exact absurd H (by simp)
   ·replace c7 := Bool.eq_false_iff.mpr c7
    subst c7
    have H1 : ((levyref4_isDigit.f (bt a0 a1)).bind fun t148 => (if t148 = true then ((levyref4_dateAt.f k a0 a1).bind fun t149 => (levyref4_word.j0 k a0 a1 t149)) else (levyref4_word.j0 k a0 a1 false))) = some (r1, r2, r3, r4, r5, r6, r7) := by rw [if_neg (show ¬ (false = true) by decide)] at H; exact H
    clear H
    have H := H1
    clear H1
    have HC17 := Aside0.mk H
    clear H
    go_enter Tryz.func84, Tryz.ntmps84
    go_upto_region 6 with (first | ((with_reducible refine gate_dst (N := 4) rfl ?_); refine box_event ?hg (N := 4) ?hd (cs := #[.int .i64 0, .int .i64 0, .string ⟨#[]⟩, .int .i64 0, .int .i64 0]) (t := 57) ?hr ?_; (case hd => rfl); (case hg => rfl); (case hr => first | (go_simp; done) | (go_simp; rfl)); intro gb145 hg w18 hbox hb; have n0_ := Aside0.mk (below_step (by repeat (first | (with_reducible first | exact HB.out | apply below_alloc | apply pw_below_drewN | apply below_drew1) | exact HB.out)) hb); have n1_ := Aside0.mk (hbox); have n2_ := Aside0.mk ((by rw [hg]; exact (below_size (by repeat (first | (with_reducible first | exact HB.out | apply below_alloc | apply pw_below_drewN | apply below_drew1) | exact HB.out))) : w.heap.size ≤ gb145)); have n3_ := Aside0.mk ((by rw [hg]; exact (below_size (by repeat (first | (with_reducible first | exact HB.out | apply below_alloc | apply pw_below_drewN | apply below_drew1) | exact HB.out))) : w.heap.size ≤ gb145)); clear HB; have HB := n0_; have BK145 := n1_; have GW145 := n2_; have GE145 := n3_; clear n0_ n1_ n2_ n3_; clear hb hbox hg; have p5 : 0 ≤ (a1 : Int) := of_decide_eq_true (by assumption); have q5 : a1 < (a0.size : Int) := of_decide_eq_true (by assumption); have hx5 := bt_at a0 a1; replace p5 := eq_true p5; replace q5 := eq_true q5) | ((with_reducible refine gate_callee (f := 123) rfl ?_); refine goesL_ (some 13) rfl rfl Tryz.func123 (by kernel_rfl) rfl #[.int .u8 (bt a0 a1)] rfl (by (try simp only [List.map_toArray, List.map_cons, List.map_nil]); first | done | rfl | (simp only [List.length_drop, List.length_take]; rfl)) ?_; (with_reducible refine (levyref4_isLetter.calls (bt a0 a1) false _ A6.out).mono ?_); rintro e w' ⟨rfl, ⟨nd, rfl⟩⟩; refine ⟨_, rfl, ?_⟩))
    (try simp only [Act.put, List.setIfInBounds_toArray, List.set_cons_zero, List.set_cons_succ])
    go_cut [31] (fun v31 wc => ∃ (kq : Nat) (x31_16 : Bool), v31 = .bool x31_16 ∧ Aside0 (levyref4_word.j0 kq a0 a1 x31_16 = some (r1, r2, r3, r4, r5, r6, r7)) ∧ Aside0 (kq ≤ k) ∧ Aside0 (wc.heap[gb145]? = some (.cells #[.int .i64 0, .int .i64 0, .string ⟨#[]⟩, .int .i64 0, .int .i64 0] 57 (0, 0))) ∧ Aside0 (Below w.heap.size w wc))
    case first =>
     have H := HC17.out
     clear HC17
     replace H := Option.bind_eq_some_iff.mp H
     obtain ⟨t148, A200, H⟩ := H
     replace H : (if t148 = true then ((levyref4_dateAt.f k a0 a1).bind fun t149 => (levyref4_word.j0 k a0 a1 t149)) else (levyref4_word.j0 k a0 a1 false)) = some (r1, r2, r3, r4, r5, r6, r7) := H
     have A20 := Aside0.mk A200
     clear A200
     by_cases c21 : t148 = true
     ·subst c21
      have H1 : ((levyref4_dateAt.f k a0 a1).bind fun t149 => (levyref4_word.j0 k a0 a1 t149)) = some (r1, r2, r3, r4, r5, r6, r7) := by rw [if_pos rfl] at H; exact H
      clear H
      have H := H1
      clear H1
      replace H := Option.bind_eq_some_iff.mp H
      obtain ⟨t149, A220, H⟩ := H
      replace H : (levyref4_word.j0 k a0 a1 t149) = some (r1, r2, r3, r4, r5, r6, r7) := H
      have A22 := Aside0.mk A220
      clear A220
      have H' := Aside0.mk H
      clear H
      have p19 : 0 ≤ (a1 : Int) := of_decide_eq_true (by assumption)
      have q19 : a1 < (a0.size : Int) := of_decide_eq_true (by assumption)
      have hx19 := bt_at a0 a1
      replace p19 := eq_true p19
      replace q19 := eq_true q19
      go_wp2_with (first | ((with_reducible refine gate_callee (f := 125) rfl ?_); refine goesL_ (some 35) rfl rfl Tryz.func125 (by kernel_rfl) rfl #[.int .u8 (bt a0 a1)] rfl (by (try simp only [List.map_toArray, List.map_cons, List.map_nil]); first | done | rfl | (simp only [List.length_drop, List.length_take]; rfl)) ?_; (with_reducible refine (levyref4_isDigit.calls (bt a0 a1) true _ A20.out).mono ?_); rintro e w' ⟨rfl, ⟨nd, rfl⟩⟩; refine ⟨_, rfl, ?_⟩) | (go_at_call 126; (with_reducible refine (levyref4_dateAt.calls k a0 a1 t149 _ A22.out).mono ?_); rintro e w' ⟨rfl, ⟨nd, rfl⟩⟩))
      go_meet
      case rel => exact ⟨_, (t149), (by first | rfl | (simp [*]; done)), H', ⟨by first | omega | exact Nat.le_refl _⟩, ⟨by (with_reducible repeat (first | refine blk_drewN ?_ _ | refine blk_drew ?_ | refine blk_alloc ?_ _)); exact BK145.out⟩, ⟨by repeat (first | (with_reducible first | exact HB.out | apply below_alloc | apply pw_below_drewN | apply below_drew1 | refine below_set ?_ GE145.out) | exact HB.out)⟩⟩
     ·replace c21 := Bool.eq_false_iff.mpr c21
      subst c21
      have H1 : (levyref4_word.j0 k a0 a1 false) = some (r1, r2, r3, r4, r5, r6, r7) := by rw [if_neg (show ¬ (false = true) by decide)] at H; exact H
      clear H
      have H := H1
      clear H1
      have H' := Aside0.mk H
      clear H
      have p19 : 0 ≤ (a1 : Int) := of_decide_eq_true (by assumption)
      have q19 : a1 < (a0.size : Int) := of_decide_eq_true (by assumption)
      have hx19 := bt_at a0 a1
      replace p19 := eq_true p19
      replace q19 := eq_true q19
      go_wp2_with (first | ((with_reducible refine gate_callee (f := 125) rfl ?_); refine goesL_ (some 35) rfl rfl Tryz.func125 (by kernel_rfl) rfl #[.int .u8 (bt a0 a1)] rfl (by (try simp only [List.map_toArray, List.map_cons, List.map_nil]); first | done | rfl | (simp only [List.length_drop, List.length_take]; rfl)) ?_; (with_reducible refine (levyref4_isDigit.calls (bt a0 a1) false _ A20.out).mono ?_); rintro e w' ⟨rfl, ⟨nd, rfl⟩⟩; refine ⟨_, rfl, ?_⟩))
      go_meet
      case rel => exact ⟨_, (false), (by first | rfl | (simp [*]; done)), H', ⟨by first | omega | exact Nat.le_refl _⟩, ⟨by (with_reducible repeat (first | refine blk_drewN ?_ _ | refine blk_drew ?_ | refine blk_alloc ?_ _)); exact BK145.out⟩, ⟨by repeat (first | (with_reducible first | exact HB.out | apply below_alloc | apply pw_below_drewN | apply below_drew1 | refine below_set ?_ GE145.out) | exact HB.out)⟩⟩
    case rest =>
     clear HC17
     try clear c1
     try clear p1
     try clear q1
     try clear hx1
     try clear c2
     try clear p2
     try clear c3
     try clear c3b0
     try clear c4
     try clear c4b0
     try clear p5
     try clear q5
     try clear hx5
     try clear p6
     try clear c7
     try clear c8
     try clear c9
     try clear c9b0
     try clear c12
     try clear c12b0
     try clear c13
     try clear c13b0
     try clear c13b1
     try clear c14
     try clear c14b0
     try clear c14b1
     try clear p19
     try clear q19
     try clear hx19
     try clear c21
     try clear hcz11_0
     try clear hcz11_1
     try clear hcz11_2
     try clear hcz11_3
     try clear hcz11_4
     try clear hcz16_0
     try clear hcz16_1
     try clear hcz16_2
     try clear hcz16_3
     try clear hcz16_4
     try clear hfz11_0
     try clear hfz11_1
     try clear hfz11_2
     try clear hfz11_3
     try clear hfz11_4
     try clear hfz16_0
     try clear hfz16_1
     try clear hfz16_2
     try clear hfz16_3
     try clear hfz16_4
     try clear p19
     try clear p5
     try clear q19
     try clear q5
     obtain ⟨kq, x31_16, rfl, HA, HJ16, BK145, HB⟩ := hcut
     cases kq with
     | zero => exact absurd HA.out (by simp [levyref4_word.j0])
     | succ kj16 =>
      have H := HA.out
      clear HA
      simp only [levyref4_word.j0] at H
      by_cases c23 : x31_16 = true
      ·subst c23
       have H1 : ((levyref4_dated.f kj16 a0 a1).bind fun bt150 => (some (bt150.1, bt150.2.1, bt150.2.2.1, bt150.2.2.2.1, bt150.2.2.2.2.1, bt150.2.2.2.2.2.1, bt150.2.2.2.2.2.2))) = some (r1, r2, r3, r4, r5, r6, r7) := by rw [if_pos rfl] at H; exact H
       clear H
       have H := H1
       clear H1
       replace H := Option.bind_eq_some_iff.mp H
       obtain ⟨⟨t150, t151, t152, t153, t154, t155, t156⟩, A240, H⟩ := H
       replace H : (some (t150, t151, t152, t153, t154, t155, t156)) = some (r1, r2, r3, r4, r5, r6, r7) := H
       have A24 := Aside0.mk A240
       clear A240
       simp only [Option.some.injEq, Prod.mk.injEq] at H
       obtain ⟨rfl, rfl, rfl, rfl, rfl, rfl, rfl⟩ := H
       go_wp2_with (first | ((with_reducible refine gate_callee (f := 127) rfl ?_); refine goesL_ (some 43) rfl rfl Tryz.func127 (by kernel_rfl) rfl #[.string a0, .int .i64 a1] rfl (by (try simp only [List.map_toArray, List.map_cons, List.map_nil]); first | done | rfl | (simp only [List.length_drop, List.length_take]; rfl)) ?_; (with_reducible refine (levyref4_dated.calls kj16 a0 a1 t150 t151 t152 t153 t154 t155 t156 _ A24.out).mono ?_); rintro e w25 ⟨rfl, hb⟩; refine ⟨_, rfl, ?_⟩; have n0_ := Aside0.mk (blk_below (g := gb145) (o := .cells #[.int .i64 0, .int .i64 0, .string ⟨#[]⟩, .int .i64 0, .int .i64 0] 57 (0, 0)) (by (with_reducible repeat (first | refine blk_drewN ?_ _ | refine blk_drew ?_ | refine blk_alloc ?_ _)); exact BK145.out) hb); have n1_ := Aside0.mk (below_step (by repeat (first | (with_reducible first | exact HB.out | apply below_alloc | apply pw_below_drewN | apply below_drew1 | refine below_set ?_ GE145.out) | exact HB.out)) hb); clear BK145; clear HB; have BK145 := n0_; have HB := n1_; clear n0_ n1_; (try clear hb); (try clear hb2); (try clear hk); (try clear hi); have hcz26_0 : w25.cell? ⟨gb145, 0, none⟩ = some (.int .i64 0) := (blk_cell BK145.out 0).trans rfl; have hcz26_1 : w25.cell? ⟨gb145, 1, none⟩ = some (.int .i64 0) := (blk_cell BK145.out 1).trans rfl; have hcz26_2 : w25.cell? ⟨gb145, 2, none⟩ = some (.string ⟨#[]⟩) := (blk_cell BK145.out 2).trans rfl; have hcz26_3 : w25.cell? ⟨gb145, 3, none⟩ = some (.int .i64 0) := (blk_cell BK145.out 3).trans rfl; have hcz26_4 : w25.cell? ⟨gb145, 4, none⟩ = some (.int .i64 0) := (blk_cell BK145.out 4).trans rfl; have hfz26_0 := blk_frozen BK145.out 0; have hfz26_1 := blk_frozen BK145.out 1; have hfz26_2 := blk_frozen BK145.out 2; have hfz26_3 := blk_frozen BK145.out 3; have hfz26_4 := blk_frozen BK145.out 4))
       refine bodyPost_ret (results_ctt rfl _ _ gb145 57 #[.int .i64 t150, .int .i64 t151, .string t152, .int .i64 t153, .int .i64 t154] (0, 0) _ rfl (by (with_reducible repeat (first | refine blk_drewN ?_ _ | refine blk_drew ?_ | refine blk_alloc ?_ _)); refine blk_put (cs := #[.int .i64 t150, .int .i64 t151, .string t152, .int .i64 t153, .int .i64 0]) ?_ 4 _ rfl; (with_reducible repeat (first | refine blk_drewN ?_ _ | refine blk_drew ?_ | refine blk_alloc ?_ _)); refine blk_put (cs := #[.int .i64 t150, .int .i64 t151, .string t152, .int .i64 0, .int .i64 0]) ?_ 3 _ rfl; (with_reducible repeat (first | refine blk_drewN ?_ _ | refine blk_drew ?_ | refine blk_alloc ?_ _)); refine blk_put (cs := #[.int .i64 t150, .int .i64 t151, .string ⟨#[]⟩, .int .i64 0, .int .i64 0]) ?_ 2 _ rfl; (with_reducible repeat (first | refine blk_drewN ?_ _ | refine blk_drew ?_ | refine blk_alloc ?_ _)); refine blk_put (cs := #[.int .i64 t150, .int .i64 0, .string ⟨#[]⟩, .int .i64 0, .int .i64 0]) ?_ 1 _ rfl; (with_reducible repeat (first | refine blk_drewN ?_ _ | refine blk_drew ?_ | refine blk_alloc ?_ _)); refine blk_put (cs := #[.int .i64 0, .int .i64 0, .string ⟨#[]⟩, .int .i64 0, .int .i64 0]) ?_ 0 _ rfl; (with_reducible repeat (first | refine blk_drewN ?_ _ | refine blk_drew ?_ | refine blk_alloc ?_ _)); exact BK145.out) Tryz.underlying57 rfl (by kernel_rfl)) rfl ?_
       exact ⟨by first | rfl | (simp [errW_none, errW_some] <;> rfl) | (simp [*, errW_none, errW_some] <;> rfl), by repeat (first | (with_reducible first | exact HB.out | apply below_alloc | apply pw_below_drewN | apply below_drew1 | refine below_set ?_ GE145.out) | exact HB.out)⟩
      ·replace c23 := Bool.eq_false_iff.mpr c23
       subst c23
       have H1 : (if 0 ≤ a1 then (if a1 < (a0.size : Int) then ((levyref4_isDigit.f (bt a0 a1)).bind fun t157 => (if t157 = true then ((levyref4_number.f kj16 a0 a1).bind fun bt158 => (some (bt158.1, bt158.2.1, bt158.2.2.1, bt158.2.2.2.1, bt158.2.2.2.2.1, bt158.2.2.2.2.2.1, bt158.2.2.2.2.2.2))) else (if (bt a0 a1) = 34 then ((levyref4_text.f kj16 a0 a1).bind fun bt165 => (some (bt165.1, bt165.2.1, bt165.2.2.1, bt165.2.2.2.1, bt165.2.2.2.2.1, bt165.2.2.2.2.2.1, bt165.2.2.2.2.2.2))) else (levyref4_word.l0 kj16 a0 a1 0)))) else (none)) else (none)) = some (r1, r2, r3, r4, r5, r6, r7) := by rw [if_neg (show ¬ (false = true) by decide)] at H; exact H
       clear H
       have H := H1
       clear H1
       by_cases c27 : 0 ≤ a1
       ·rw [if_pos c27] at H
        have c27b0 : decide (0 ≤ a1) = true := decide_eq_true c27
        clear c27
        by_cases c28 : a1 < (a0.size : Int)
        ·rw [if_pos c28] at H
         have c28b0 : decide (a1 < (a0.size : Int)) = true := decide_eq_true c28
         clear c28
         replace H := Option.bind_eq_some_iff.mp H
         obtain ⟨t157, A300, H⟩ := H
         replace H : (if t157 = true then ((levyref4_number.f kj16 a0 a1).bind fun bt158 => (some (bt158.1, bt158.2.1, bt158.2.2.1, bt158.2.2.2.1, bt158.2.2.2.2.1, bt158.2.2.2.2.2.1, bt158.2.2.2.2.2.2))) else (if (bt a0 a1) = 34 then ((levyref4_text.f kj16 a0 a1).bind fun bt165 => (some (bt165.1, bt165.2.1, bt165.2.2.1, bt165.2.2.2.1, bt165.2.2.2.2.1, bt165.2.2.2.2.2.1, bt165.2.2.2.2.2.2))) else (levyref4_word.l0 kj16 a0 a1 0))) = some (r1, r2, r3, r4, r5, r6, r7) := H
         have A30 := Aside0.mk A300
         clear A300
         by_cases c31 : t157 = true
         ·subst c31
          have H1 : ((levyref4_number.f kj16 a0 a1).bind fun bt158 => (some (bt158.1, bt158.2.1, bt158.2.2.1, bt158.2.2.2.1, bt158.2.2.2.2.1, bt158.2.2.2.2.2.1, bt158.2.2.2.2.2.2))) = some (r1, r2, r3, r4, r5, r6, r7) := by rw [if_pos rfl] at H; exact H
          clear H
          have H := H1
          clear H1
          replace H := Option.bind_eq_some_iff.mp H
          obtain ⟨⟨t158, t159, t160, t161, t162, t163, t164⟩, A320, H⟩ := H
          replace H : (some (t158, t159, t160, t161, t162, t163, t164)) = some (r1, r2, r3, r4, r5, r6, r7) := H
          have A32 := Aside0.mk A320
          clear A320
          simp only [Option.some.injEq, Prod.mk.injEq] at H
          obtain ⟨rfl, rfl, rfl, rfl, rfl, rfl, rfl⟩ := H
          have p29 : 0 ≤ (a1 : Int) := of_decide_eq_true (by assumption)
          have q29 : a1 < (a0.size : Int) := of_decide_eq_true (by assumption)
          have hx29 := bt_at a0 a1
          replace p29 := eq_true p29
          replace q29 := eq_true q29
          go_wp2_with (first | ((with_reducible refine gate_callee (f := 125) rfl ?_); refine goesL_ (some 51) rfl rfl Tryz.func125 (by kernel_rfl) rfl #[.int .u8 (bt a0 a1)] rfl (by (try simp only [List.map_toArray, List.map_cons, List.map_nil]); first | done | rfl | (simp only [List.length_drop, List.length_take]; rfl)) ?_; (with_reducible refine (levyref4_isDigit.calls (bt a0 a1) true _ A30.out).mono ?_); rintro e w' ⟨rfl, ⟨nd, rfl⟩⟩; refine ⟨_, rfl, ?_⟩; (try (rw [drewN_self wc]; generalize hq_ : World.drewN wc _ = wc; have n0_ : Aside0 (wc.heap[gb145]? = some (.cells #[.int .i64 0, .int .i64 0, .string ⟨#[]⟩, .int .i64 0, .int .i64 0] 57 (0, 0))) := ⟨by rw [← hq_]; exact (by (with_reducible repeat (first | refine blk_drewN ?_ _ | refine blk_drew ?_ | refine blk_alloc ?_ _)); exact BK145.out)⟩; have n1_ : Aside0 (Below w.heap.size w wc) := ⟨by rw [← hq_]; exact (by repeat (first | (with_reducible first | exact HB.out | apply below_alloc | apply pw_below_drewN | apply below_drew1 | refine below_set ?_ GE145.out) | exact HB.out))⟩; clear BK145 HB hq_; have BK145 := n0_; have HB := n1_; clear n0_ n1_))) | ((with_reducible refine gate_callee (f := 128) rfl ?_); refine goesL_ (some 54) rfl rfl Tryz.func128 (by kernel_rfl) rfl #[.string a0, .int .i64 a1] rfl (by (try simp only [List.map_toArray, List.map_cons, List.map_nil]); first | done | rfl | (simp only [List.length_drop, List.length_take]; rfl)) ?_; (with_reducible refine (levyref4_number.calls kj16 a0 a1 t158 t159 t160 t161 t162 t163 t164 _ A32.out).mono ?_); rintro e w33 ⟨rfl, hb⟩; refine ⟨_, rfl, ?_⟩; have n0_ := Aside0.mk (blk_below (g := gb145) (o := .cells #[.int .i64 0, .int .i64 0, .string ⟨#[]⟩, .int .i64 0, .int .i64 0] 57 (0, 0)) (by (with_reducible repeat (first | refine blk_drewN ?_ _ | refine blk_drew ?_ | refine blk_alloc ?_ _)); exact BK145.out) hb); have n1_ := Aside0.mk (below_step (by repeat (first | (with_reducible first | exact HB.out | apply below_alloc | apply pw_below_drewN | apply below_drew1 | refine below_set ?_ GE145.out) | exact HB.out)) hb); clear BK145; clear HB; have BK145 := n0_; have HB := n1_; clear n0_ n1_; (try clear hb); (try clear hb2); (try clear hk); (try clear hi); have hcz34_0 : w33.cell? ⟨gb145, 0, none⟩ = some (.int .i64 0) := (blk_cell BK145.out 0).trans rfl; have hcz34_1 : w33.cell? ⟨gb145, 1, none⟩ = some (.int .i64 0) := (blk_cell BK145.out 1).trans rfl; have hcz34_2 : w33.cell? ⟨gb145, 2, none⟩ = some (.string ⟨#[]⟩) := (blk_cell BK145.out 2).trans rfl; have hcz34_3 : w33.cell? ⟨gb145, 3, none⟩ = some (.int .i64 0) := (blk_cell BK145.out 3).trans rfl; have hcz34_4 : w33.cell? ⟨gb145, 4, none⟩ = some (.int .i64 0) := (blk_cell BK145.out 4).trans rfl; have hfz34_0 := blk_frozen BK145.out 0; have hfz34_1 := blk_frozen BK145.out 1; have hfz34_2 := blk_frozen BK145.out 2; have hfz34_3 := blk_frozen BK145.out 3; have hfz34_4 := blk_frozen BK145.out 4))
          refine bodyPost_ret (results_ctt rfl _ _ gb145 57 #[.int .i64 t158, .int .i64 t159, .string t160, .int .i64 t161, .int .i64 t162] (0, 0) _ rfl (by (with_reducible repeat (first | refine blk_drewN ?_ _ | refine blk_drew ?_ | refine blk_alloc ?_ _)); refine blk_put (cs := #[.int .i64 t158, .int .i64 t159, .string t160, .int .i64 t161, .int .i64 0]) ?_ 4 _ rfl; (with_reducible repeat (first | refine blk_drewN ?_ _ | refine blk_drew ?_ | refine blk_alloc ?_ _)); refine blk_put (cs := #[.int .i64 t158, .int .i64 t159, .string t160, .int .i64 0, .int .i64 0]) ?_ 3 _ rfl; (with_reducible repeat (first | refine blk_drewN ?_ _ | refine blk_drew ?_ | refine blk_alloc ?_ _)); refine blk_put (cs := #[.int .i64 t158, .int .i64 t159, .string ⟨#[]⟩, .int .i64 0, .int .i64 0]) ?_ 2 _ rfl; (with_reducible repeat (first | refine blk_drewN ?_ _ | refine blk_drew ?_ | refine blk_alloc ?_ _)); refine blk_put (cs := #[.int .i64 t158, .int .i64 0, .string ⟨#[]⟩, .int .i64 0, .int .i64 0]) ?_ 1 _ rfl; (with_reducible repeat (first | refine blk_drewN ?_ _ | refine blk_drew ?_ | refine blk_alloc ?_ _)); refine blk_put (cs := #[.int .i64 0, .int .i64 0, .string ⟨#[]⟩, .int .i64 0, .int .i64 0]) ?_ 0 _ rfl; (with_reducible repeat (first | refine blk_drewN ?_ _ | refine blk_drew ?_ | refine blk_alloc ?_ _)); exact BK145.out) Tryz.underlying57 rfl (by kernel_rfl)) rfl ?_
          exact ⟨by first | rfl | (simp [errW_none, errW_some] <;> rfl) | (simp [*, errW_none, errW_some] <;> rfl), by repeat (first | (with_reducible first | exact HB.out | apply below_alloc | apply pw_below_drewN | apply below_drew1 | refine below_set ?_ GE145.out) | exact HB.out)⟩
         ·replace c31 := Bool.eq_false_iff.mpr c31
          subst c31
          have H1 : (if (bt a0 a1) = 34 then ((levyref4_text.f kj16 a0 a1).bind fun bt165 => (some (bt165.1, bt165.2.1, bt165.2.2.1, bt165.2.2.2.1, bt165.2.2.2.2.1, bt165.2.2.2.2.2.1, bt165.2.2.2.2.2.2))) else (levyref4_word.l0 kj16 a0 a1 0)) = some (r1, r2, r3, r4, r5, r6, r7) := by rw [if_neg (show ¬ (false = true) by decide)] at H; exact H
          clear H
          have H := H1
          clear H1
          by_cases c36 : (bt a0 a1) = 34
          ·rw [if_pos c36] at H
           have c36b0 : ((bt a0 a1) == 34) = true := beq_iff_eq.mpr c36
           have c36b1 : ((bt a0 a1) != 34) = false := bne_eq_false_iff_eq.mpr c36
           clear c36
           replace H := Option.bind_eq_some_iff.mp H
           obtain ⟨⟨t165, t166, t167, t168, t169, t170, t171⟩, A370, H⟩ := H
           replace H : (some (t165, t166, t167, t168, t169, t170, t171)) = some (r1, r2, r3, r4, r5, r6, r7) := H
           have A37 := Aside0.mk A370
           clear A370
           simp only [Option.some.injEq, Prod.mk.injEq] at H
           obtain ⟨rfl, rfl, rfl, rfl, rfl, rfl, rfl⟩ := H
           have p29 : 0 ≤ (a1 : Int) := of_decide_eq_true (by assumption)
           have q29 : a1 < (a0.size : Int) := of_decide_eq_true (by assumption)
           have hx29 := bt_at a0 a1
           replace p29 := eq_true p29
           replace q29 := eq_true q29
           go_wp2_with (first | ((with_reducible refine gate_callee (f := 125) rfl ?_); refine goesL_ (some 51) rfl rfl Tryz.func125 (by kernel_rfl) rfl #[.int .u8 (bt a0 a1)] rfl (by (try simp only [List.map_toArray, List.map_cons, List.map_nil]); first | done | rfl | (simp only [List.length_drop, List.length_take]; rfl)) ?_; (with_reducible refine (levyref4_isDigit.calls (bt a0 a1) false _ A30.out).mono ?_); rintro e w' ⟨rfl, ⟨nd, rfl⟩⟩; refine ⟨_, rfl, ?_⟩; (try (rw [drewN_self wc]; generalize hq_ : World.drewN wc _ = wc; have n0_ : Aside0 (wc.heap[gb145]? = some (.cells #[.int .i64 0, .int .i64 0, .string ⟨#[]⟩, .int .i64 0, .int .i64 0] 57 (0, 0))) := ⟨by rw [← hq_]; exact (by (with_reducible repeat (first | refine blk_drewN ?_ _ | refine blk_drew ?_ | refine blk_alloc ?_ _)); exact BK145.out)⟩; have n1_ : Aside0 (Below w.heap.size w wc) := ⟨by rw [← hq_]; exact (by repeat (first | (with_reducible first | exact HB.out | apply below_alloc | apply pw_below_drewN | apply below_drew1 | refine below_set ?_ GE145.out) | exact HB.out))⟩; clear BK145 HB hq_; have BK145 := n0_; have HB := n1_; clear n0_ n1_)); have p35 : 0 ≤ (a1 : Int) := of_decide_eq_true (by assumption); have q35 : a1 < (a0.size : Int) := of_decide_eq_true (by assumption); have hx35 := bt_at a0 a1; replace p35 := eq_true p35; replace q35 := eq_true q35) | ((with_reducible refine gate_callee (f := 129) rfl ?_); refine goesL_ (some 65) rfl rfl Tryz.func129 (by kernel_rfl) rfl #[.string a0, .int .i64 a1] rfl (by (try simp only [List.map_toArray, List.map_cons, List.map_nil]); first | done | rfl | (simp only [List.length_drop, List.length_take]; rfl)) ?_; (with_reducible refine (levyref4_text.calls kj16 a0 a1 t165 t166 t167 t168 t169 t170 t171 _ A37.out).mono ?_); rintro e w38 ⟨rfl, hb⟩; refine ⟨_, rfl, ?_⟩; have n0_ := Aside0.mk (blk_below (g := gb145) (o := .cells #[.int .i64 0, .int .i64 0, .string ⟨#[]⟩, .int .i64 0, .int .i64 0] 57 (0, 0)) (by (with_reducible repeat (first | refine blk_drewN ?_ _ | refine blk_drew ?_ | refine blk_alloc ?_ _)); exact BK145.out) hb); have n1_ := Aside0.mk (below_step (by repeat (first | (with_reducible first | exact HB.out | apply below_alloc | apply pw_below_drewN | apply below_drew1 | refine below_set ?_ GE145.out) | exact HB.out)) hb); clear BK145; clear HB; have BK145 := n0_; have HB := n1_; clear n0_ n1_; (try clear hb); (try clear hb2); (try clear hk); (try clear hi); have hcz39_0 : w38.cell? ⟨gb145, 0, none⟩ = some (.int .i64 0) := (blk_cell BK145.out 0).trans rfl; have hcz39_1 : w38.cell? ⟨gb145, 1, none⟩ = some (.int .i64 0) := (blk_cell BK145.out 1).trans rfl; have hcz39_2 : w38.cell? ⟨gb145, 2, none⟩ = some (.string ⟨#[]⟩) := (blk_cell BK145.out 2).trans rfl; have hcz39_3 : w38.cell? ⟨gb145, 3, none⟩ = some (.int .i64 0) := (blk_cell BK145.out 3).trans rfl; have hcz39_4 : w38.cell? ⟨gb145, 4, none⟩ = some (.int .i64 0) := (blk_cell BK145.out 4).trans rfl; have hfz39_0 := blk_frozen BK145.out 0; have hfz39_1 := blk_frozen BK145.out 1; have hfz39_2 := blk_frozen BK145.out 2; have hfz39_3 := blk_frozen BK145.out 3; have hfz39_4 := blk_frozen BK145.out 4))
           refine bodyPost_ret (results_ctt rfl _ _ gb145 57 #[.int .i64 t165, .int .i64 t166, .string t167, .int .i64 t168, .int .i64 t169] (0, 0) _ rfl (by (with_reducible repeat (first | refine blk_drewN ?_ _ | refine blk_drew ?_ | refine blk_alloc ?_ _)); refine blk_put (cs := #[.int .i64 t165, .int .i64 t166, .string t167, .int .i64 t168, .int .i64 0]) ?_ 4 _ rfl; (with_reducible repeat (first | refine blk_drewN ?_ _ | refine blk_drew ?_ | refine blk_alloc ?_ _)); refine blk_put (cs := #[.int .i64 t165, .int .i64 t166, .string t167, .int .i64 0, .int .i64 0]) ?_ 3 _ rfl; (with_reducible repeat (first | refine blk_drewN ?_ _ | refine blk_drew ?_ | refine blk_alloc ?_ _)); refine blk_put (cs := #[.int .i64 t165, .int .i64 t166, .string ⟨#[]⟩, .int .i64 0, .int .i64 0]) ?_ 2 _ rfl; (with_reducible repeat (first | refine blk_drewN ?_ _ | refine blk_drew ?_ | refine blk_alloc ?_ _)); refine blk_put (cs := #[.int .i64 t165, .int .i64 0, .string ⟨#[]⟩, .int .i64 0, .int .i64 0]) ?_ 1 _ rfl; (with_reducible repeat (first | refine blk_drewN ?_ _ | refine blk_drew ?_ | refine blk_alloc ?_ _)); refine blk_put (cs := #[.int .i64 0, .int .i64 0, .string ⟨#[]⟩, .int .i64 0, .int .i64 0]) ?_ 0 _ rfl; (with_reducible repeat (first | refine blk_drewN ?_ _ | refine blk_drew ?_ | refine blk_alloc ?_ _)); exact BK145.out) Tryz.underlying57 rfl (by kernel_rfl)) rfl ?_
           exact ⟨by first | rfl | (simp [errW_none, errW_some] <;> rfl) | (simp [*, errW_none, errW_some] <;> rfl), by repeat (first | (with_reducible first | exact HB.out | apply below_alloc | apply pw_below_drewN | apply below_drew1 | refine below_set ?_ GE145.out) | exact HB.out)⟩
          ·rw [if_neg c36] at H
           have c36b0 : ((bt a0 a1) == 34) = false := beq_eq_false_iff_ne.mpr c36
           have c36b1 : ((bt a0 a1) != 34) = true := bne_iff_ne.mpr c36
           have H' := Aside0.mk H
           clear H
           have p29 : 0 ≤ (a1 : Int) := of_decide_eq_true (by assumption)
           have q29 : a1 < (a0.size : Int) := of_decide_eq_true (by assumption)
           have hx29 := bt_at a0 a1
           replace p29 := eq_true p29
           replace q29 := eq_true q29
           go_wp2_with (first | ((with_reducible refine gate_callee (f := 125) rfl ?_); refine goesL_ (some 51) rfl rfl Tryz.func125 (by kernel_rfl) rfl #[.int .u8 (bt a0 a1)] rfl (by (try simp only [List.map_toArray, List.map_cons, List.map_nil]); first | done | rfl | (simp only [List.length_drop, List.length_take]; rfl)) ?_; (with_reducible refine (levyref4_isDigit.calls (bt a0 a1) false _ A30.out).mono ?_); rintro e w' ⟨rfl, ⟨nd, rfl⟩⟩; refine ⟨_, rfl, ?_⟩; have p35 : 0 ≤ (a1 : Int) := of_decide_eq_true (by assumption); have q35 : a1 < (a0.size : Int) := of_decide_eq_true (by assumption); have hx35 := bt_at a0 a1; replace p35 := eq_true p35; replace q35 := eq_true q35))
           go_loopg [8] kj16 (fun kq v8 w' => ∃ (x8_2 : Int) (x146000_2 : Int) (x146001_2 : Int) (x146002_2 : ByteArray) (x146003_2 : Int) (x146004_2 : Int), v8 = .int .i64 x8_2 ∧ Aside0 (levyref4_word.l0 kq a0 a1 x8_2 = some (r1, r2, r3, r4, r5, r6, r7)) ∧ Aside0 (kq ≤ kj16) ∧ Aside0 (w'.heap[gb145]? = some (.cells #[.int .i64 x146000_2, .int .i64 x146001_2, .string x146002_2, .int .i64 x146003_2, .int .i64 x146004_2] 57 (0, 0))) ∧ Aside0 (Below w.heap.size w w'))
           case atStart => exact ⟨(0), (0), (0), ((⟨#[]⟩ : ByteArray)), (0), (0), (by first | rfl | (simp [*]; done)), H', ⟨Nat.le_refl _⟩, ⟨by (with_reducible repeat (first | refine blk_drewN ?_ _ | refine blk_drew ?_ | refine blk_alloc ?_ _)); exact BK145.out⟩, ⟨by repeat (first | (with_reducible first | exact HB.out | apply below_alloc | apply pw_below_drewN | apply below_drew1 | refine below_set ?_ GE145.out) | exact HB.out)⟩⟩
           case round =>
            clear H'
            try clear c1
            try clear p1
            try clear q1
            try clear hx1
            try clear c2
            try clear p2
            try clear q2
            try clear hx2
            try clear c3
            try clear c3b0
            try clear p3
            try clear q3
            try clear hx3
            try clear c4
            try clear c4b0
            try clear p5
            try clear q5
            try clear hx5
            try clear p6
            try clear c7
            try clear c8
            try clear c9
            try clear c9b0
            try clear c12
            try clear c12b0
            try clear c13
            try clear c13b0
            try clear c13b1
            try clear c14
            try clear c14b0
            try clear c14b1
            try clear p19
            try clear q19
            try clear hx19
            try clear c21
            try clear c23
            try clear c27
            try clear c27b0
            try clear c28
            try clear c28b0
            try clear p29
            try clear q29
            try clear hx29
            try clear c31
            try clear p35
            try clear q35
            try clear hx35
            try clear c36
            try clear c36b0
            try clear c36b1
            try clear hcz11_0
            try clear hcz11_1
            try clear hcz11_2
            try clear hcz11_3
            try clear hcz11_4
            try clear hcz16_0
            try clear hcz16_1
            try clear hcz16_2
            try clear hcz16_3
            try clear hcz16_4
            try clear hcz26_0
            try clear hcz26_1
            try clear hcz26_2
            try clear hcz26_3
            try clear hcz26_4
            try clear hcz34_0
            try clear hcz34_1
            try clear hcz34_2
            try clear hcz34_3
            try clear hcz34_4
            try clear hcz39_0
            try clear hcz39_1
            try clear hcz39_2
            try clear hcz39_3
            try clear hcz39_4
            try clear hfz11_0
            try clear hfz11_1
            try clear hfz11_2
            try clear hfz11_3
            try clear hfz11_4
            try clear hfz16_0
            try clear hfz16_1
            try clear hfz16_2
            try clear hfz16_3
            try clear hfz16_4
            try clear hfz26_0
            try clear hfz26_1
            try clear hfz26_2
            try clear hfz26_3
            try clear hfz26_4
            try clear hfz34_0
            try clear hfz34_1
            try clear hfz34_2
            try clear hfz34_3
            try clear hfz34_4
            try clear hfz39_0
            try clear hfz39_1
            try clear hfz39_2
            try clear hfz39_3
            try clear hfz39_4
            try clear p1
            try clear p19
            try clear p2
            try clear p29
            try clear p35
            try clear p5
            try clear p6
            try clear q1
            try clear q19
            try clear q29
            try clear q35
            try clear q5
            obtain ⟨x8_2, x146000_2, x146001_2, x146002_2, x146003_2, x146004_2, rfl, HA, HK2, BK145, HB⟩ := hrel
            cases gk with
            | zero => exact absurd HA.out (by simp [levyref4_word.l0])
            | succ k2 =>
             have H := HA.out
             clear HA
             simp only [levyref4_word.l0] at H
             by_cases c40 : x8_2 < 15
             ·rw [if_pos c40] at H
              have c40b0 : decide (x8_2 < 15) = true := decide_eq_true c40
              clear c40
              by_cases c41 : 0 ≤ x8_2
              ·rw [if_pos c41] at H
               have c41b0 : decide (0 ≤ x8_2) = true := decide_eq_true c41
               clear c41
               replace H := Option.bind_eq_some_iff.mp H
               obtain ⟨t172, A430, H⟩ := H
               replace H : (if t172 = true then (some (7, 0, rdOf ByteArray.empty tab0 x8_2, 0, 0, wrap64 (a1 + ((rdOf ByteArray.empty tab0 x8_2).size : Int)), 0)) else (levyref4_word.l0 k2 a0 a1 (wrap64 (x8_2 + 1)))) = some (r1, r2, r3, r4, r5, r6, r7) := H
               have A43 := Aside0.mk A430
               clear A430
               by_cases c44 : t172 = true
               ·subst c44
                have H1 : (some (7, 0, rdOf ByteArray.empty tab0 x8_2, 0, 0, wrap64 (a1 + ((rdOf ByteArray.empty tab0 x8_2).size : Int)), 0)) = some (r1, r2, r3, r4, r5, r6, r7) := by rw [if_pos rfl] at H; exact H
                clear H
                have H := H1
                clear H1
                simp only [Option.some.injEq, Prod.mk.injEq] at H
                obtain ⟨rfl, rfl, rfl, rfl, rfl, rfl, rfl⟩ := H
                have p42 : 0 ≤ (x8_2 : Int) := of_decide_eq_true (by assumption)
                have q42 : x8_2 < 15 := of_decide_eq_true (by assumption)
                have hx42_0 := (HT.out.below HB.out).c0 x8_2 p42 q42
                replace p42 := eq_true p42
                replace q42 := eq_true q42
                try go_wp2_with (first | ((with_reducible refine gate_callee (f := 130) rfl ?_); refine goesL_ (some 78) rfl rfl Tryz.func130 (by kernel_rfl) rfl #[.string a0, .int .i64 a1, .string (rdOf ByteArray.empty tab0 x8_2)] rfl (by (try simp only [List.map_toArray, List.map_cons, List.map_nil]); first | done | rfl | (simp only [List.length_drop, List.length_take]; rfl)) ?_; (with_reducible refine (levyref4_is.calls a0 a1 (rdOf ByteArray.empty tab0 x8_2) true _ A43.out).mono ?_); rintro e w' ⟨rfl, ⟨nd, rfl⟩⟩; refine ⟨_, rfl, ?_⟩; (try (rw [drewN_self wr]; generalize hq_ : World.drewN wr _ = wr; have n0_ : Aside0 (wr.heap[gb145]? = some (.cells #[.int .i64 x146000_2, .int .i64 x146001_2, .string x146002_2, .int .i64 x146003_2, .int .i64 x146004_2] 57 (0, 0))) := ⟨by rw [← hq_]; exact (by (with_reducible repeat (first | refine blk_drewN ?_ _ | refine blk_drew ?_ | refine blk_alloc ?_ _)); exact BK145.out)⟩; have n1_ : Aside0 (Below w.heap.size w wr) := ⟨by rw [← hq_]; exact (by repeat (first | (with_reducible first | exact HB.out | apply below_alloc | apply pw_below_drewN | apply below_drew1 | refine below_set ?_ GE145.out) | exact HB.out))⟩; clear BK145 HB hq_; have BK145 := n0_; have HB := n1_; clear n0_ n1_))))
                have n0_ := Aside0.mk (blk_drew BK145.out)
                have n1_ := Aside0.mk (below_drew1 HB.out)
                clear BK145
                clear HB
                have BK145 := n0_
                have HB := n1_
                clear n0_ n1_
                have p45 : 0 ≤ (x8_2 : Int) := of_decide_eq_true (by assumption)
                have q45 : x8_2 < 15 := of_decide_eq_true (by assumption)
                have hx45_0 := (HT.out.below HB.out).c0 x8_2 p45 q45
                replace p45 := eq_true p45
                replace q45 := eq_true q45
                have p46 : 0 ≤ (x8_2 : Int) := of_decide_eq_true (by assumption)
                have q46 : x8_2 < 15 := of_decide_eq_true (by assumption)
                have hx46_0 := (HT.out.below HB.out).c0 x8_2 p46 q46
                replace p46 := eq_true p46
                replace q46 := eq_true q46
                refine start_ (n := 13) (S := fun w' => w'.cell? ⟨0, (x8_2).toNat, none⟩ = some (.string (rdOf ByteArray.empty tab0 x8_2)) ∧ w'.cell? ⟨0, (x8_2).toNat, none⟩ = some (.string (rdOf ByteArray.empty tab0 x8_2))) (ds := []) #[false, false, false, false, false, false, false, false, false, false, false, false, false] (by kernel_rfl) rfl rfl ⟨((Tabs.below HT.out HB.out).c0 x8_2 (of_eq_true p45) (of_eq_true q45)), ((Tabs.below HT.out HB.out).c0 x8_2 (of_eq_true p46) (of_eq_true q46))⟩ (fun hHeld => ?_); refine with_tabW levyref4_word.tab16 levyref4_word.bits16 (fun HT_ HW_ => ?_)
                generalize wr.drew = w47 at BK145 HB hx45_0 hx46_0 hHeld ⊢
                refine pure_ (i := 0) (N := some 79) (v := ?_) (a' := ?_) #[true, false, false, false, false, false, false, false, false, false, false, false, false] rfl rfl (any_of HT_.out (by kernel_rfl)) (fun _ _ _ h => h) (Or.inl ⟨by rfl, ?_⟩) ?_ ?_
                rotate_left
                ·intro w'
                 go_simp
                 with_reducible rfl
                rotate_left
                ·simp only [Act.put, List.setIfInBounds_toArray, List.set_cons_zero, List.set_cons_succ, i64_w]
                 rfl
                refine pure_ (i := 1) (N := some 80) (v := ?_) (a' := ?_) #[true, true, false, false, false, false, false, false, false, false, false, false, false] rfl rfl (any_of HT_.out (by kernel_rfl)) (fun _ _ _ h => h) (Or.inl ⟨by rfl, ?_⟩) ?_ ?_
                rotate_left
                ·intro w'
                 go_simp
                 with_reducible rfl
                rotate_left
                ·simp only [Act.put, List.setIfInBounds_toArray, List.set_cons_zero, List.set_cons_succ, i64_w]
                 rfl
                refine pure_ (i := 4) (N := some 83) (v := ?_) (a' := ?_) #[true, true, false, false, true, false, false, false, false, false, false, false, false] rfl rfl (any_of HT_.out (by kernel_rfl)) (fun _ _ _ h => h) (Or.inl ⟨by rfl, ?_⟩) ?_ ?_
                rotate_left
                ·intro w'
                 go_simp
                 with_reducible rfl
                rotate_left
                ·simp only [Act.put, List.setIfInBounds_toArray, List.set_cons_zero, List.set_cons_succ, i64_w]
                 rfl
                refine pure_ (i := 5) (N := some 84) (v := ?_) (a' := ?_) #[true, true, false, false, true, true, false, false, false, false, false, false, false] rfl rfl (any_of HT_.out (by kernel_rfl)) (fun _ _ _ h => h) (Or.inl ⟨by rfl, ?_⟩) ?_ ?_
                rotate_left
                ·intro w'
                 go_simp
                 with_reducible rfl
                rotate_left
                ·simp only [Act.put, List.setIfInBounds_toArray, List.set_cons_zero, List.set_cons_succ, i64_w]
                 rfl
                refine pure_ (i := 6) (N := some 85) (v := ?_) (a' := ?_) #[true, true, false, false, true, true, true, false, false, false, false, false, false] rfl rfl (any_of HT_.out (by kernel_rfl)) (fun _ _ _ h => h) (Or.inl ⟨by rfl, ?_⟩) ?_ ?_
                rotate_left
                ·intro w'
                 go_simp
                 with_reducible rfl
                rotate_left
                ·simp only [Act.put, List.setIfInBounds_toArray, List.set_cons_zero, List.set_cons_succ, i64_w]
                 rfl
                refine take_ (i := 2) (N := some 81) (v := ?_) (a' := ?_) #[true, true, true, false, true, true, true, false, false, false, false, false, false] rfl rfl (take_ofW HT_.out HW_.out (by kernel_rfl)) (fun _ _ _ h => h) (Or.inl ⟨by rfl, ?_⟩) hHeld ?_ ?_
                rotate_left
                ·rintro w' ⟨s0, s1⟩
                 go_simp
                 with_reducible rfl
                rotate_left
                ·simp only [Act.put, List.setIfInBounds_toArray, List.set_cons_zero, List.set_cons_succ, i64_w]
                 rfl
                refine pure_ (i := 3) (N := some 82) (v := ?_) (a' := ?_) #[true, true, true, true, true, true, true, false, false, false, false, false, false] rfl rfl (any_of HT_.out (by kernel_rfl)) (fun _ _ _ h => h) (Or.inl ⟨by rfl, ?_⟩) ?_ ?_
                rotate_left
                ·intro w'
                 go_simp
                 with_reducible rfl
                rotate_left
                ·simp only [Act.put, List.setIfInBounds_toArray, List.set_cons_zero, List.set_cons_succ, i64_w]
                 rfl
                refine take_ (i := 7) (N := some 86) (v := ?_) (a' := ?_) #[true, true, true, true, true, true, true, true, false, false, false, false, false] rfl rfl (take_ofW HT_.out HW_.out (by kernel_rfl)) (fun _ _ _ h => h) (Or.inl ⟨by rfl, ?_⟩) hHeld ?_ ?_
                rotate_left
                ·rintro w' ⟨s0, s1⟩
                 go_simp
                 with_reducible rfl
                rotate_left
                ·simp only [Act.put, List.setIfInBounds_toArray, List.set_cons_zero, List.set_cons_succ, i64_w]
                 rfl
                refine pure_ (i := 8) (N := some 87) (v := ?_) (a' := ?_) #[true, true, true, true, true, true, true, true, true, false, false, false, false] rfl rfl (any_of HT_.out (by kernel_rfl)) (fun _ _ _ h => h) (Or.inl ⟨by rfl, ?_⟩) ?_ ?_
                rotate_left
                ·intro w'
                 go_simp
                 with_reducible rfl
                rotate_left
                ·simp only [Act.put, List.setIfInBounds_toArray, List.set_cons_zero, List.set_cons_succ, i64_w]
                 rfl
                refine pure_ (i := 9) (N := some 88) (v := ?_) (a' := ?_) #[true, true, true, true, true, true, true, true, true, true, false, false, false] rfl rfl (any_of HT_.out (by kernel_rfl)) (fun _ _ _ h => h) (Or.inl ⟨by rfl, ?_⟩) ?_ ?_
                rotate_left
                ·intro w'
                 go_simp
                 with_reducible rfl
                rotate_left
                ·simp only [Act.put, List.setIfInBounds_toArray, List.set_cons_zero, List.set_cons_succ, i64_w]
                 rfl
                refine one_ (i := 10) (N := none) #[true, true, true, true, true, true, true, true, true, true, true, false, false] rfl rfl (one_of HT_.out (by kernel_rfl)) (by decide) (fun K hK => ?_)
                have hs48 : w47.cell? ⟨gb145, 0, none⟩ = some (.int .i64 x146000_2) := (blk_cell BK145.out 0).trans rfl
                have hfs48 := blk_frozen BK145.out 0
                have hs49 : w47.cell? ⟨gb145, 1, none⟩ = some (.int .i64 x146001_2) := (blk_cell BK145.out 1).trans rfl
                have hfs49 := blk_frozen BK145.out 1
                have hs50 : w47.cell? ⟨gb145, 2, none⟩ = some (.string x146002_2) := (blk_cell BK145.out 2).trans rfl
                have hfs50 := blk_frozen BK145.out 2
                have hs51 : w47.cell? ⟨gb145, 3, none⟩ = some (.int .i64 x146003_2) := (blk_cell BK145.out 3).trans rfl
                have hfs51 := blk_frozen BK145.out 3
                have hs52 : w47.cell? ⟨gb145, 4, none⟩ = some (.int .i64 x146004_2) := (blk_cell BK145.out 4).trans rfl
                have hfs52 := blk_frozen BK145.out 4
                refine skip_ (w1 := ?_) (by rfl) rfl ?_ ?_
                rotate_left
                ·go_simp
                 rfl
                refine hK.out _ _ ⟨((cell_far (p := ⟨gb145, _, none⟩) (by first | exact Nat.ne_of_lt (Nat.lt_of_lt_of_le (Nat.lt_of_lt_of_le (show 0 < 4 by decide) HT.out.size) GW145.out) | (rw [add_block]; exact Nat.ne_of_lt (Nat.lt_of_lt_of_le (Nat.lt_of_lt_of_le (show 0 < 4 by decide) HT.out.size) GW145.out)) | (show (Addr.add _ _).block ≠ _; rw [add_block]; exact Nat.ne_of_lt (Nat.lt_of_lt_of_le (Nat.lt_of_lt_of_le (show 0 < 4 by decide) HT.out.size) GW145.out)) | (dsimp only; exact Nat.ne_of_lt (Nat.lt_of_lt_of_le (Nat.lt_of_lt_of_le (show 0 < 4 by decide) HT.out.size) GW145.out))) _).trans (((cell_far (p := ⟨gb145, _, none⟩) (by first | exact Nat.ne_of_lt (Nat.lt_of_lt_of_le (Nat.lt_of_lt_of_le (show 0 < 4 by decide) HT.out.size) GW145.out) | (rw [add_block]; exact Nat.ne_of_lt (Nat.lt_of_lt_of_le (Nat.lt_of_lt_of_le (show 0 < 4 by decide) HT.out.size) GW145.out)) | (show (Addr.add _ _).block ≠ _; rw [add_block]; exact Nat.ne_of_lt (Nat.lt_of_lt_of_le (Nat.lt_of_lt_of_le (show 0 < 4 by decide) HT.out.size) GW145.out)) | (dsimp only; exact Nat.ne_of_lt (Nat.lt_of_lt_of_le (Nat.lt_of_lt_of_le (show 0 < 4 by decide) HT.out.size) GW145.out))) _).trans (((cell_far (p := ⟨gb145, _, none⟩) (by first | exact Nat.ne_of_lt (Nat.lt_of_lt_of_le (Nat.lt_of_lt_of_le (show 0 < 4 by decide) HT.out.size) GW145.out) | (rw [add_block]; exact Nat.ne_of_lt (Nat.lt_of_lt_of_le (Nat.lt_of_lt_of_le (show 0 < 4 by decide) HT.out.size) GW145.out)) | (show (Addr.add _ _).block ≠ _; rw [add_block]; exact Nat.ne_of_lt (Nat.lt_of_lt_of_le (Nat.lt_of_lt_of_le (show 0 < 4 by decide) HT.out.size) GW145.out)) | (dsimp only; exact Nat.ne_of_lt (Nat.lt_of_lt_of_le (Nat.lt_of_lt_of_le (show 0 < 4 by decide) HT.out.size) GW145.out))) _).trans (((cell_far (p := ⟨gb145, _, none⟩) (by first | exact Nat.ne_of_lt (Nat.lt_of_lt_of_le (Nat.lt_of_lt_of_le (show 0 < 4 by decide) HT.out.size) GW145.out) | (rw [add_block]; exact Nat.ne_of_lt (Nat.lt_of_lt_of_le (Nat.lt_of_lt_of_le (show 0 < 4 by decide) HT.out.size) GW145.out)) | (show (Addr.add _ _).block ≠ _; rw [add_block]; exact Nat.ne_of_lt (Nat.lt_of_lt_of_le (Nat.lt_of_lt_of_le (show 0 < 4 by decide) HT.out.size) GW145.out)) | (dsimp only; exact Nat.ne_of_lt (Nat.lt_of_lt_of_le (Nat.lt_of_lt_of_le (show 0 < 4 by decide) HT.out.size) GW145.out))) _).trans (((cell_far (p := ⟨gb145, _, none⟩) (by first | exact Nat.ne_of_lt (Nat.lt_of_lt_of_le (Nat.lt_of_lt_of_le (show 0 < 4 by decide) HT.out.size) GW145.out) | (rw [add_block]; exact Nat.ne_of_lt (Nat.lt_of_lt_of_le (Nat.lt_of_lt_of_le (show 0 < 4 by decide) HT.out.size) GW145.out)) | (show (Addr.add _ _).block ≠ _; rw [add_block]; exact Nat.ne_of_lt (Nat.lt_of_lt_of_le (Nat.lt_of_lt_of_le (show 0 < 4 by decide) HT.out.size) GW145.out)) | (dsimp only; exact Nat.ne_of_lt (Nat.lt_of_lt_of_le (Nat.lt_of_lt_of_le (show 0 < 4 by decide) HT.out.size) GW145.out))) _).trans (hHeld.1)))))))))), ((cell_far (p := ⟨gb145, _, none⟩) (by first | exact Nat.ne_of_lt (Nat.lt_of_lt_of_le (Nat.lt_of_lt_of_le (show 0 < 4 by decide) HT.out.size) GW145.out) | (rw [add_block]; exact Nat.ne_of_lt (Nat.lt_of_lt_of_le (Nat.lt_of_lt_of_le (show 0 < 4 by decide) HT.out.size) GW145.out)) | (show (Addr.add _ _).block ≠ _; rw [add_block]; exact Nat.ne_of_lt (Nat.lt_of_lt_of_le (Nat.lt_of_lt_of_le (show 0 < 4 by decide) HT.out.size) GW145.out)) | (dsimp only; exact Nat.ne_of_lt (Nat.lt_of_lt_of_le (Nat.lt_of_lt_of_le (show 0 < 4 by decide) HT.out.size) GW145.out))) _).trans (((cell_far (p := ⟨gb145, _, none⟩) (by first | exact Nat.ne_of_lt (Nat.lt_of_lt_of_le (Nat.lt_of_lt_of_le (show 0 < 4 by decide) HT.out.size) GW145.out) | (rw [add_block]; exact Nat.ne_of_lt (Nat.lt_of_lt_of_le (Nat.lt_of_lt_of_le (show 0 < 4 by decide) HT.out.size) GW145.out)) | (show (Addr.add _ _).block ≠ _; rw [add_block]; exact Nat.ne_of_lt (Nat.lt_of_lt_of_le (Nat.lt_of_lt_of_le (show 0 < 4 by decide) HT.out.size) GW145.out)) | (dsimp only; exact Nat.ne_of_lt (Nat.lt_of_lt_of_le (Nat.lt_of_lt_of_le (show 0 < 4 by decide) HT.out.size) GW145.out))) _).trans (((cell_far (p := ⟨gb145, _, none⟩) (by first | exact Nat.ne_of_lt (Nat.lt_of_lt_of_le (Nat.lt_of_lt_of_le (show 0 < 4 by decide) HT.out.size) GW145.out) | (rw [add_block]; exact Nat.ne_of_lt (Nat.lt_of_lt_of_le (Nat.lt_of_lt_of_le (show 0 < 4 by decide) HT.out.size) GW145.out)) | (show (Addr.add _ _).block ≠ _; rw [add_block]; exact Nat.ne_of_lt (Nat.lt_of_lt_of_le (Nat.lt_of_lt_of_le (show 0 < 4 by decide) HT.out.size) GW145.out)) | (dsimp only; exact Nat.ne_of_lt (Nat.lt_of_lt_of_le (Nat.lt_of_lt_of_le (show 0 < 4 by decide) HT.out.size) GW145.out))) _).trans (((cell_far (p := ⟨gb145, _, none⟩) (by first | exact Nat.ne_of_lt (Nat.lt_of_lt_of_le (Nat.lt_of_lt_of_le (show 0 < 4 by decide) HT.out.size) GW145.out) | (rw [add_block]; exact Nat.ne_of_lt (Nat.lt_of_lt_of_le (Nat.lt_of_lt_of_le (show 0 < 4 by decide) HT.out.size) GW145.out)) | (show (Addr.add _ _).block ≠ _; rw [add_block]; exact Nat.ne_of_lt (Nat.lt_of_lt_of_le (Nat.lt_of_lt_of_le (show 0 < 4 by decide) HT.out.size) GW145.out)) | (dsimp only; exact Nat.ne_of_lt (Nat.lt_of_lt_of_le (Nat.lt_of_lt_of_le (show 0 < 4 by decide) HT.out.size) GW145.out))) _).trans (((cell_far (p := ⟨gb145, _, none⟩) (by first | exact Nat.ne_of_lt (Nat.lt_of_lt_of_le (Nat.lt_of_lt_of_le (show 0 < 4 by decide) HT.out.size) GW145.out) | (rw [add_block]; exact Nat.ne_of_lt (Nat.lt_of_lt_of_le (Nat.lt_of_lt_of_le (show 0 < 4 by decide) HT.out.size) GW145.out)) | (show (Addr.add _ _).block ≠ _; rw [add_block]; exact Nat.ne_of_lt (Nat.lt_of_lt_of_le (Nat.lt_of_lt_of_le (show 0 < 4 by decide) HT.out.size) GW145.out)) | (dsimp only; exact Nat.ne_of_lt (Nat.lt_of_lt_of_le (Nat.lt_of_lt_of_le (show 0 < 4 by decide) HT.out.size) GW145.out))) _).trans (hHeld.2))))))))))⟩ (fun hHeld => ?_)
                clear hK K
                refine pure_ (i := 11) (N := some 5) (v := ?_) (a' := ?_) #[true, true, true, true, true, true, true, true, true, true, true, true, false] rfl rfl (any_of HT_.out (by kernel_rfl)) (fun _ _ _ h => h) (Or.inl ⟨by rfl, ?_⟩) ?_ ?_
                rotate_left
                ·intro w'
                 go_simp
                 with_reducible rfl
                rotate_left
                ·simp only [Act.put, List.setIfInBounds_toArray, List.set_cons_zero, List.set_cons_succ, i64_w]
                 rfl
                refine pure_ (i := 12) (N := some 6) (v := ?_) (a' := ?_) #[true, true, true, true, true, true, true, true, true, true, true, true, true] rfl rfl (any_of HT_.out (by kernel_rfl)) (fun _ _ _ h => h) (Or.inl ⟨by rfl, ?_⟩) ?_ ?_
                rotate_left
                ·intro w'
                 go_simp
                 with_reducible rfl
                rotate_left
                ·simp only [Act.put, List.setIfInBounds_toArray, List.set_cons_zero, List.set_cons_succ, i64_w]
                 rfl
                refine done_ (done_of HT_.out (by kernel_rfl)) ?_
                try go_wp2
                refine bodyPost_ret (results_ctt rfl _ _ gb145 57 #[.int .i64 7, .int .i64 0, .string (rdOf ByteArray.empty tab0 x8_2), .int .i64 0, .int .i64 0] (0, 0) _ rfl (by (with_reducible repeat (first | refine blk_drewN ?_ _ | refine blk_drew ?_ | refine blk_alloc ?_ _)); refine blk_put (cs := #[.int .i64 7, .int .i64 0, .string (rdOf ByteArray.empty tab0 x8_2), .int .i64 0, .int .i64 x146004_2]) ?_ 4 _ rfl; (with_reducible repeat (first | refine blk_drewN ?_ _ | refine blk_drew ?_ | refine blk_alloc ?_ _)); refine blk_put (cs := #[.int .i64 7, .int .i64 0, .string (rdOf ByteArray.empty tab0 x8_2), .int .i64 x146003_2, .int .i64 x146004_2]) ?_ 3 _ rfl; (with_reducible repeat (first | refine blk_drewN ?_ _ | refine blk_drew ?_ | refine blk_alloc ?_ _)); refine blk_put (cs := #[.int .i64 7, .int .i64 0, .string x146002_2, .int .i64 x146003_2, .int .i64 x146004_2]) ?_ 2 _ rfl; (with_reducible repeat (first | refine blk_drewN ?_ _ | refine blk_drew ?_ | refine blk_alloc ?_ _)); refine blk_put (cs := #[.int .i64 7, .int .i64 x146001_2, .string x146002_2, .int .i64 x146003_2, .int .i64 x146004_2]) ?_ 1 _ rfl; (with_reducible repeat (first | refine blk_drewN ?_ _ | refine blk_drew ?_ | refine blk_alloc ?_ _)); refine blk_put (cs := #[.int .i64 x146000_2, .int .i64 x146001_2, .string x146002_2, .int .i64 x146003_2, .int .i64 x146004_2]) ?_ 0 _ rfl; (with_reducible repeat (first | refine blk_drewN ?_ _ | refine blk_drew ?_ | refine blk_alloc ?_ _)); exact BK145.out) Tryz.underlying57 rfl (by kernel_rfl)) rfl ?_
                exact ⟨by first | rfl | (simp [errW_none, errW_some] <;> rfl) | (simp [*, errW_none, errW_some] <;> rfl), by repeat (first | (with_reducible first | exact HB.out | apply below_alloc | apply pw_below_drewN | apply below_drew1 | refine below_set ?_ GE145.out) | exact HB.out)⟩
               ·replace c44 := Bool.eq_false_iff.mpr c44
                subst c44
                have H1 : (levyref4_word.l0 k2 a0 a1 (wrap64 (x8_2 + 1))) = some (r1, r2, r3, r4, r5, r6, r7) := by rw [if_neg (show ¬ (false = true) by decide)] at H; exact H
                clear H
                have H := H1
                clear H1
                have H' := Aside0.mk H
                clear H
                have p42 : 0 ≤ (x8_2 : Int) := of_decide_eq_true (by assumption)
                have q42 : x8_2 < 15 := of_decide_eq_true (by assumption)
                have hx42_0 := (HT.out.below HB.out).c0 x8_2 p42 q42
                replace p42 := eq_true p42
                replace q42 := eq_true q42
                go_wp2_with (first | ((with_reducible refine gate_callee (f := 130) rfl ?_); refine goesL_ (some 78) rfl rfl Tryz.func130 (by kernel_rfl) rfl #[.string a0, .int .i64 a1, .string (rdOf ByteArray.empty tab0 x8_2)] rfl (by (try simp only [List.map_toArray, List.map_cons, List.map_nil]); first | done | rfl | (simp only [List.length_drop, List.length_take]; rfl)) ?_; (with_reducible refine (levyref4_is.calls a0 a1 (rdOf ByteArray.empty tab0 x8_2) false _ A43.out).mono ?_); rintro e w' ⟨rfl, ⟨nd, rfl⟩⟩; refine ⟨_, rfl, ?_⟩))
                go_roundg k2
                case measure => have := HJ16.out; have := HK2.out; omega
                case rel => exact ⟨(wrap64 (x8_2 + 1)), (x146000_2), (x146001_2), (x146002_2), (x146003_2), (x146004_2), (by first | rfl | (simp [*]; done)), H', ⟨by have := HJ16.out; have := HK2.out; omega⟩, ⟨by (with_reducible repeat (first | refine blk_drewN ?_ _ | refine blk_drew ?_ | refine blk_alloc ?_ _)); exact BK145.out⟩, ⟨by repeat (first | (with_reducible first | exact HB.out | apply below_alloc | apply pw_below_drewN | apply below_drew1 | refine below_set ?_ GE145.out) | exact HB.out)⟩⟩
              ·rw [if_neg c41] at H
               exact absurd H (by simp)
             ·rw [if_neg c40] at H
              have c40b0 : decide (x8_2 < 15) = false := decide_eq_false c40
              clear c40
              simp only [Option.some.injEq, Prod.mk.injEq] at H
              obtain ⟨rfl, rfl, rfl, rfl, rfl, rfl, rfl⟩ := H
              have hcz53_0 : wr.cell? ⟨gb145, 0, none⟩ = some (.int .i64 x146000_2) := (blk_cell BK145.out 0).trans rfl
              have hcz53_1 : wr.cell? ⟨gb145, 1, none⟩ = some (.int .i64 x146001_2) := (blk_cell BK145.out 1).trans rfl
              have hcz53_2 : wr.cell? ⟨gb145, 2, none⟩ = some (.string x146002_2) := (blk_cell BK145.out 2).trans rfl
              have hcz53_3 : wr.cell? ⟨gb145, 3, none⟩ = some (.int .i64 x146003_2) := (blk_cell BK145.out 3).trans rfl
              have hcz53_4 : wr.cell? ⟨gb145, 4, none⟩ = some (.int .i64 x146004_2) := (blk_cell BK145.out 4).trans rfl
              have hfz53_0 := blk_frozen BK145.out 0
              have hfz53_1 := blk_frozen BK145.out 1
              have hfz53_2 := blk_frozen BK145.out 2
              have hfz53_3 := blk_frozen BK145.out 3
              have hfz53_4 := blk_frozen BK145.out 4
              go_wp2
              refine bodyPost_ret (results_ctt rfl _ _ gb145 57 #[.int .i64 0, .int .i64 0, .string ⟨#[]⟩, .int .i64 0, .int .i64 0] (0, 0) _ rfl (by (with_reducible repeat (first | refine blk_drewN ?_ _ | refine blk_drew ?_ | refine blk_alloc ?_ _)); refine blk_put (cs := #[.int .i64 0, .int .i64 0, .string ⟨#[]⟩, .int .i64 0, .int .i64 x146004_2]) ?_ 4 _ rfl; (with_reducible repeat (first | refine blk_drewN ?_ _ | refine blk_drew ?_ | refine blk_alloc ?_ _)); refine blk_put (cs := #[.int .i64 0, .int .i64 0, .string ⟨#[]⟩, .int .i64 x146003_2, .int .i64 x146004_2]) ?_ 3 _ rfl; (with_reducible repeat (first | refine blk_drewN ?_ _ | refine blk_drew ?_ | refine blk_alloc ?_ _)); refine blk_put (cs := #[.int .i64 0, .int .i64 0, .string x146002_2, .int .i64 x146003_2, .int .i64 x146004_2]) ?_ 2 _ rfl; (with_reducible repeat (first | refine blk_drewN ?_ _ | refine blk_drew ?_ | refine blk_alloc ?_ _)); refine blk_put (cs := #[.int .i64 0, .int .i64 x146001_2, .string x146002_2, .int .i64 x146003_2, .int .i64 x146004_2]) ?_ 1 _ rfl; (with_reducible repeat (first | refine blk_drewN ?_ _ | refine blk_drew ?_ | refine blk_alloc ?_ _)); refine blk_put (cs := #[.int .i64 x146000_2, .int .i64 x146001_2, .string x146002_2, .int .i64 x146003_2, .int .i64 x146004_2]) ?_ 0 _ rfl; (with_reducible repeat (first | refine blk_drewN ?_ _ | refine blk_drew ?_ | refine blk_alloc ?_ _)); exact BK145.out) Tryz.underlying57 rfl (by kernel_rfl)) rfl ?_
              exact ⟨by first | rfl | (simp [errW_none, errW_some] <;> rfl) | (simp [*, errW_none, errW_some] <;> rfl), by repeat (first | (with_reducible first | exact HB.out | apply below_alloc | apply pw_below_drewN | apply below_drew1 | refine below_set ?_ GE145.out) | exact HB.out)⟩
        ·rw [if_neg c28] at H
         exact absurd H (by simp)
       ·rw [if_neg c27] at H
        exact absurd H (by simp)
  ·rw [if_neg c4] at H
   exact absurd H (by simp)
 ·rw [if_neg c3] at H
  exact absurd H (by simp)
end Go.Proofs.YtjlclkenfmbahaaGreatDoor.PA
end
