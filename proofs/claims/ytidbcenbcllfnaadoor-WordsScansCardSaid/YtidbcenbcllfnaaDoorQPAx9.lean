/- The Go functions of this seat that the laws of part A come to, each as a plain Lean function ('f', its loops 'l0' ..) with a proof that the call comes to its answer. Conditions: where a function comes to a package-level table, the world holds that table ('Tabs'). Written by a program of this session (a changed copy of the print). -/
import Derived.Test.YtidbcenbcllfnaaDoorQPAx0
import Derived.Test.YtidbcenbcllfnaaDoorQPAx2
import Derived.Test.YtidbcenbcllfnaaDoorQPAx7
import Derived.Test.YtidbcenbcllfnaaDoorQPAx8
namespace Go.Proofs.YtidbcenbcllfnaaDoor.PA
open Go.RowKit Go.Proofs.YtidbcenbcllfnaaDoorW.PrintWords Go.Proofs.YtidbcenbcllfnaaDoorW.PrintLast Go.Proofs.YtidbcenbcllfnaaDoorW.PrintMore
attribute [local go_sem] max2_int min2_int max_two min_two max_three min_three max_four min_four   -- for this text's walks alone
set_option linter.unusedVariables false
set_option linter.unusedSimpArgs false

/-! ### levyref4_number: function 47 -/
mutual
def levyref4_number.j0 : Nat → ByteArray → Int → ByteArray → Int → Bool → Option (Int × Int × ByteArray × Int × Int × Int × Int)
  | 0, _, _, _, _, _ => none
  | k + 1, x0, x1, x8, x9, x10 => if x10 = true then ((levyref4_run.f k x0 (wrap64 (x9 + 1)) 1).bind fun t132 => (if 0 ≤ (wrap64 (x9 + 1)) then (if (wrap64 (x9 + 1)) ≤ (wrap64 ((wrap64 (x9 + 1)) + t132)) then (if (wrap64 ((wrap64 (x9 + 1)) + t132)) ≤ (x0.size : Int) then (levyref4_number.j1 k x0 x1 x8 (wrap64 ((wrap64 (x9 + 1)) + t132)) x10 (x0.extract ((wrap64 (x9 + 1)) : Int).toNat ((wrap64 ((wrap64 (x9 + 1)) + t132)) : Int).toNat)) else (none)) else (none)) else (none))) else (levyref4_number.j1 k x0 x1 x8 x9 x10 (⟨#[]⟩ : ByteArray))
def levyref4_number.j1 : Nat → ByteArray → Int → ByteArray → Int → Bool → ByteArray → Option (Int × Int × ByteArray × Int × Int × Int × Int)
  | 0, _, _, _, _, _, _ => none
  | k + 1, x0, x1, x8, x9, x10, x11 => (levyref4_is.f x0 x9 (⟨#[37]⟩ : ByteArray)).bind fun t133 => (if t133 = true then (levyref4_number.j2 k x0 x1 x8 (wrap64 (x9 + 1)) x10 x11 t133) else (levyref4_number.j2 k x0 x1 x8 x9 x10 x11 t133))
def levyref4_number.j2 : Nat → ByteArray → Int → ByteArray → Int → Bool → ByteArray → Bool → Option (Int × Int × ByteArray × Int × Int × Int × Int)
  | 0, _, _, _, _, _, _, _ => none
  | k + 1, x0, x1, x8, x9, x10, x11, x13 => if x9 < (x0.size : Int) then (if 0 ≤ x9 then ((levyref4_isLetter.f (bt x0 x9)).bind fun t134 => (if t134 = true then (levyref4_number.j3 k x1 x8 x9 x10 x11 x13 true) else (levyref4_number.j3 k x1 x8 x9 x10 x11 x13 ((bt x0 x9) == 95)))) else (none)) else (levyref4_number.j3 k x1 x8 x9 x10 x11 x13 false)
def levyref4_number.j3 : Nat → Int → ByteArray → Int → Bool → ByteArray → Bool → Bool → Option (Int × Int × ByteArray × Int × Int × Int × Int)
  | 0, _, _, _, _, _, _, _ => none
  | k + 1, x1, x8, x9, x10, x11, x13, x76 => if x76 = true then (some (0, 0, (⟨#[]⟩ : ByteArray), 0, 0, x1, 42)) else ((levyref4_numbered.f k x8 x10 x11 x13).bind fun bt135 => (if bt135.2.2.2.2.2 = true then (some (bt135.1, bt135.2.1, bt135.2.2.1, bt135.2.2.2.1, bt135.2.2.2.2.1, x9, 0)) else (some (0, 0, (⟨#[]⟩ : ByteArray), 0, 0, x1, 42))))
end
def levyref4_number.f (k : Nat) (a0 : ByteArray) (a1 : Int) : Option (Int × Int × ByteArray × Int × Int × Int × Int) := (levyref4_run.f k a0 a1 1).bind fun t129 => (if 0 ≤ a1 then (if a1 ≤ (wrap64 (a1 + t129)) then (if (wrap64 (a1 + t129)) ≤ (a0.size : Int) then ((levyref4_is.f a0 (wrap64 (a1 + t129)) (⟨#[46]⟩ : ByteArray)).bind fun t130 => (if t130 = true then ((levyref4_run.f k a0 (wrap64 ((wrap64 (a1 + t129)) + 1)) 1).bind fun t131 => (levyref4_number.j0 k a0 a1 (a0.extract (a1 : Int).toNat ((wrap64 (a1 + t129)) : Int).toNat) (wrap64 (a1 + t129)) (decide (t131 > 0)))) else (levyref4_number.j0 k a0 a1 (a0.extract (a1 : Int).toNat ((wrap64 (a1 + t129)) : Int).toNat) (wrap64 (a1 + t129)) false))) else (none)) else (none)) else (none))
theorem levyref4_number.mono_l : ∀ k, (∀ y0 y1 y2 y3 y4, LeO (levyref4_number.j0 k y0 y1 y2 y3 y4) (levyref4_number.j0 (k + 1) y0 y1 y2 y3 y4)) ∧ (∀ y0 y1 y2 y3 y4 y5, LeO (levyref4_number.j1 k y0 y1 y2 y3 y4 y5) (levyref4_number.j1 (k + 1) y0 y1 y2 y3 y4 y5)) ∧ (∀ y0 y1 y2 y3 y4 y5 y6, LeO (levyref4_number.j2 k y0 y1 y2 y3 y4 y5 y6) (levyref4_number.j2 (k + 1) y0 y1 y2 y3 y4 y5 y6)) ∧ (∀ y0 y1 y2 y3 y4 y5 y6, LeO (levyref4_number.j3 k y0 y1 y2 y3 y4 y5 y6) (levyref4_number.j3 (k + 1) y0 y1 y2 y3 y4 y5 y6))
  | 0 => ⟨fun _ _ _ _ _ r h => by simp [levyref4_number.j0] at h, fun _ _ _ _ _ _ r h => by simp [levyref4_number.j1] at h, fun _ _ _ _ _ _ _ r h => by simp [levyref4_number.j2] at h, fun _ _ _ _ _ _ _ r h => by simp [levyref4_number.j3] at h⟩
  | k + 1 => by
    obtain ⟨ih0, ih1, ih2, ih3⟩ := levyref4_number.mono_l k
    refine ⟨?_, ?_, ?_, ?_⟩
    · intro y0 y1 y2 y3 y4
      unfold levyref4_number.j0
      repeat' first
      | (with_reducible exact ih0 _ _ _ _ _)
      | (with_reducible exact ih1 _ _ _ _ _ _)
      | (with_reducible exact ih2 _ _ _ _ _ _ _)
      | (with_reducible exact ih3 _ _ _ _ _ _ _)
      | (with_reducible exact levyref4_numbered.mono _ _ _ _ _)
      | (with_reducible exact levyref4_run.mono _ _ _ _)
      | (with_reducible exact LeO.refl _)
      | (with_reducible exact LeO.none _)
      | (with_reducible refine LeO.ite ?_ ?_)
      | (with_reducible refine LeO.bind ?_ (fun _ => ?_))
      | exact ih0 _ _ _ _ _
      | exact ih1 _ _ _ _ _ _
      | exact ih2 _ _ _ _ _ _ _
      | exact ih3 _ _ _ _ _ _ _
      | exact levyref4_numbered.mono _ _ _ _ _
      | exact levyref4_run.mono _ _ _ _
      | exact LeO.none _
      | refine LeO.ite ?_ ?_
      | refine LeO.bind ?_ (fun _ => ?_)
    · intro y0 y1 y2 y3 y4 y5
      unfold levyref4_number.j1
      repeat' first
      | (with_reducible exact ih0 _ _ _ _ _)
      | (with_reducible exact ih1 _ _ _ _ _ _)
      | (with_reducible exact ih2 _ _ _ _ _ _ _)
      | (with_reducible exact ih3 _ _ _ _ _ _ _)
      | (with_reducible exact levyref4_numbered.mono _ _ _ _ _)
      | (with_reducible exact levyref4_run.mono _ _ _ _)
      | (with_reducible exact LeO.refl _)
      | (with_reducible exact LeO.none _)
      | (with_reducible refine LeO.ite ?_ ?_)
      | (with_reducible refine LeO.bind ?_ (fun _ => ?_))
      | exact ih0 _ _ _ _ _
      | exact ih1 _ _ _ _ _ _
      | exact ih2 _ _ _ _ _ _ _
      | exact ih3 _ _ _ _ _ _ _
      | exact levyref4_numbered.mono _ _ _ _ _
      | exact levyref4_run.mono _ _ _ _
      | exact LeO.none _
      | refine LeO.ite ?_ ?_
      | refine LeO.bind ?_ (fun _ => ?_)
    · intro y0 y1 y2 y3 y4 y5 y6
      unfold levyref4_number.j2
      repeat' first
      | (with_reducible exact ih0 _ _ _ _ _)
      | (with_reducible exact ih1 _ _ _ _ _ _)
      | (with_reducible exact ih2 _ _ _ _ _ _ _)
      | (with_reducible exact ih3 _ _ _ _ _ _ _)
      | (with_reducible exact levyref4_numbered.mono _ _ _ _ _)
      | (with_reducible exact levyref4_run.mono _ _ _ _)
      | (with_reducible exact LeO.refl _)
      | (with_reducible exact LeO.none _)
      | (with_reducible refine LeO.ite ?_ ?_)
      | (with_reducible refine LeO.bind ?_ (fun _ => ?_))
      | exact ih0 _ _ _ _ _
      | exact ih1 _ _ _ _ _ _
      | exact ih2 _ _ _ _ _ _ _
      | exact ih3 _ _ _ _ _ _ _
      | exact levyref4_numbered.mono _ _ _ _ _
      | exact levyref4_run.mono _ _ _ _
      | exact LeO.none _
      | refine LeO.ite ?_ ?_
      | refine LeO.bind ?_ (fun _ => ?_)
    · intro y0 y1 y2 y3 y4 y5 y6
      unfold levyref4_number.j3
      repeat' first
      | (with_reducible exact ih0 _ _ _ _ _)
      | (with_reducible exact ih1 _ _ _ _ _ _)
      | (with_reducible exact ih2 _ _ _ _ _ _ _)
      | (with_reducible exact ih3 _ _ _ _ _ _ _)
      | (with_reducible exact levyref4_numbered.mono _ _ _ _ _)
      | (with_reducible exact levyref4_run.mono _ _ _ _)
      | (with_reducible exact LeO.refl _)
      | (with_reducible exact LeO.none _)
      | (with_reducible refine LeO.ite ?_ ?_)
      | (with_reducible refine LeO.bind ?_ (fun _ => ?_))
      | exact ih0 _ _ _ _ _
      | exact ih1 _ _ _ _ _ _
      | exact ih2 _ _ _ _ _ _ _
      | exact ih3 _ _ _ _ _ _ _
      | exact levyref4_numbered.mono _ _ _ _ _
      | exact levyref4_run.mono _ _ _ _
      | exact LeO.none _
      | refine LeO.ite ?_ ?_
      | refine LeO.bind ?_ (fun _ => ?_)
theorem levyref4_number.mono : ∀ a0 a1 k, LeO (levyref4_number.f k a0 a1) (levyref4_number.f (k + 1) a0 a1) := by
  intro a0 a1 k
  obtain ⟨ih0, ih1, ih2, ih3⟩ := levyref4_number.mono_l k
  unfold levyref4_number.f
  repeat' first
      | (with_reducible exact ih0 _ _ _ _ _)
      | (with_reducible exact ih1 _ _ _ _ _ _)
      | (with_reducible exact ih2 _ _ _ _ _ _ _)
      | (with_reducible exact ih3 _ _ _ _ _ _ _)
      | (with_reducible exact levyref4_numbered.mono _ _ _ _ _)
      | (with_reducible exact levyref4_run.mono _ _ _ _)
      | (with_reducible exact LeO.refl _)
      | (with_reducible exact LeO.none _)
      | (with_reducible refine LeO.ite ?_ ?_)
      | (with_reducible refine LeO.bind ?_ (fun _ => ?_))
      | exact ih0 _ _ _ _ _
      | exact ih1 _ _ _ _ _ _
      | exact ih2 _ _ _ _ _ _ _
      | exact ih3 _ _ _ _ _ _ _
      | exact levyref4_numbered.mono _ _ _ _ _
      | exact levyref4_run.mono _ _ _ _
      | exact LeO.none _
      | refine LeO.ite ?_ ?_
      | refine LeO.bind ?_ (fun _ => ?_)
set_option maxHeartbeats 8000000 in
set_option maxRecDepth 100000 in
theorem levyref4_number.calls (k : Nat) (a0 : ByteArray) (a1 : Int) (r1 : Int) (r2 : Int) (r3 : ByteArray) (r4 : Int) (r5 : Int) (r6 : Int) (r7 : Int) (w : World) (h : levyref4_number.f k a0 a1 = some (r1, r2, r3, r4, r5, r6, r7)) :
    Calls Tryd.prog 47 #[.string a0, .int .i64 a1] w fun e w' => e = .returned (.tuple #[.agg #[.int .i64 r1, .int .i64 r2, .string r3, .int .i64 r4, .int .i64 r5], .int .i64 r6, .int .i64 r7]) ∧ Below w.heap.size w w' := by
  have hu33 := Tryd.underlying33
  have HB := Aside0.mk (Below.refl w.heap.size w)
  have H : ((levyref4_run.f k a0 a1 1).bind fun t129 => (if 0 ≤ a1 then (if a1 ≤ (wrap64 (a1 + t129)) then (if (wrap64 (a1 + t129)) ≤ (a0.size : Int) then ((levyref4_is.f a0 (wrap64 (a1 + t129)) (⟨#[46]⟩ : ByteArray)).bind fun t130 => (if t130 = true then ((levyref4_run.f k a0 (wrap64 ((wrap64 (a1 + t129)) + 1)) 1).bind fun t131 => (levyref4_number.j0 k a0 a1 (a0.extract (a1 : Int).toNat ((wrap64 (a1 + t129)) : Int).toNat) (wrap64 (a1 + t129)) (decide (t131 > 0)))) else (levyref4_number.j0 k a0 a1 (a0.extract (a1 : Int).toNat ((wrap64 (a1 + t129)) : Int).toNat) (wrap64 (a1 + t129)) false))) else (none)) else (none)) else (none))) = some (r1, r2, r3, r4, r5, r6, r7) := h
  clear h
  replace H := Option.bind_eq_some_iff.mp H
  obtain ⟨t129, A30, H⟩ := H
  replace H : (if 0 ≤ a1 then (if a1 ≤ (wrap64 (a1 + t129)) then (if (wrap64 (a1 + t129)) ≤ (a0.size : Int) then ((levyref4_is.f a0 (wrap64 (a1 + t129)) (⟨#[46]⟩ : ByteArray)).bind fun t130 => (if t130 = true then ((levyref4_run.f k a0 (wrap64 ((wrap64 (a1 + t129)) + 1)) 1).bind fun t131 => (levyref4_number.j0 k a0 a1 (a0.extract (a1 : Int).toNat ((wrap64 (a1 + t129)) : Int).toNat) (wrap64 (a1 + t129)) (decide (t131 > 0)))) else (levyref4_number.j0 k a0 a1 (a0.extract (a1 : Int).toNat ((wrap64 (a1 + t129)) : Int).toNat) (wrap64 (a1 + t129)) false))) else (none)) else (none)) else (none)) = some (r1, r2, r3, r4, r5, r6, r7) := H
  have A3 := Aside0.mk A30
  clear A30
  by_cases c4 : 0 ≤ a1
  · rw [if_pos c4] at H
    have c4b0 := eq_true c4
    have c4b1 : decide (0 ≤ a1) = true := decide_eq_true c4
    clear c4
    by_cases c5 : a1 ≤ (wrap64 (a1 + t129))
    · rw [if_pos c5] at H
      have c5b0 := eq_true c5
      have c5b1 : decide (a1 ≤ (wrap64 (a1 + t129))) = true := decide_eq_true c5
      by_cases c6 : (wrap64 (a1 + t129)) ≤ (a0.size : Int)
      · rw [if_pos c6] at H
        have c6b0 := eq_true c6
        have c6b1 : decide ((wrap64 (a1 + t129)) ≤ (a0.size : Int)) = true := decide_eq_true c6
        have HC7 := Aside0.mk H
        clear H
        go_enter Tryd.func47, Tryd.ntmps47
        go_upto_region 4 with (first | ((with_reducible refine gate_dst (N := 4) rfl ?_); refine box_event ?hg (N := 4) ?hd (cs := #[.int .i64 0, .int .i64 0, .string (⟨#[]⟩ : ByteArray), .int .i64 0, .int .i64 0]) (t := 33) ?hr ?_; (case hd => rfl); (case hg => rfl); (case hr => first | (go_simp; done) | (go_simp; rfl)); intro gb128 hg w8 hbox hb; have n0_ := Aside0.mk (below_step (by repeat (first | (with_reducible first | exact HB.out | apply below_alloc | apply pw_below_drewN | apply below_drew1) | exact HB.out)) hb); have n1_ := Aside0.mk (hbox); have n2_ := Aside0.mk ((by rw [hg]; exact (below_size (by repeat (first | (with_reducible first | exact HB.out | apply below_alloc | apply pw_below_drewN | apply below_drew1) | exact HB.out))) : w.heap.size ≤ gb128)); have n3_ := Aside0.mk ((by rw [hg]; exact (below_size (by repeat (first | (with_reducible first | exact HB.out | apply below_alloc | apply pw_below_drewN | apply below_drew1) | exact HB.out))) : w.heap.size ≤ gb128)); clear HB; have HB := n0_; have BK128 := n1_; have GW128 := n2_; have GE128 := n3_; clear n0_ n1_ n2_ n3_; clear hb hbox hg) | ((with_reducible refine gate_callee (f := 43) rfl ?_); refine goesL_ (some 18) rfl rfl Tryd.func43 (by kernel_rfl) rfl #[.string a0, .int .i64 a1, .int .i64 1] rfl (by (try simp only [List.map_toArray, List.map_cons, List.map_nil]); first | done | rfl | (simp only [List.length_drop, List.length_take]; rfl)) ?_; (with_reducible refine (levyref4_run.calls k a0 a1 1 t129 _ A3.out).mono ?_); rintro e w' ⟨rfl, ⟨nd, rfl⟩⟩; refine ⟨_, rfl, ?_⟩))
        (try simp only [Act.put, List.setIfInBounds_toArray, List.set_cons_zero, List.set_cons_succ])
        go_cut [10] (fun v10 wc => ∃ (kq : Nat) (x10_6 : Bool), v10 = .bool x10_6 ∧ Aside0 (levyref4_number.j0 kq a0 a1 (a0.extract (a1 : Int).toNat ((wrap64 (a1 + t129)) : Int).toNat) (wrap64 (a1 + t129)) x10_6 = some (r1, r2, r3, r4, r5, r6, r7)) ∧ Aside0 (kq ≤ k) ∧ Aside0 (wc.heap[gb128]? = some (.cells #[.int .i64 0, .int .i64 0, .string (⟨#[]⟩ : ByteArray), .int .i64 0, .int .i64 0] 33 (0, 0))) ∧ Aside0 (Below w.heap.size w wc))
        case first =>
          have H := HC7.out
          clear HC7
          replace H := Option.bind_eq_some_iff.mp H
          obtain ⟨t130, A90, H⟩ := H
          replace H : (if t130 = true then ((levyref4_run.f k a0 (wrap64 ((wrap64 (a1 + t129)) + 1)) 1).bind fun t131 => (levyref4_number.j0 k a0 a1 (a0.extract (a1 : Int).toNat ((wrap64 (a1 + t129)) : Int).toNat) (wrap64 (a1 + t129)) (decide (t131 > 0)))) else (levyref4_number.j0 k a0 a1 (a0.extract (a1 : Int).toNat ((wrap64 (a1 + t129)) : Int).toNat) (wrap64 (a1 + t129)) false)) = some (r1, r2, r3, r4, r5, r6, r7) := H
          have A9 := Aside0.mk A90
          clear A90
          by_cases c10 : t130 = true
          · subst c10
            have H1 : ((levyref4_run.f k a0 (wrap64 ((wrap64 (a1 + t129)) + 1)) 1).bind fun t131 => (levyref4_number.j0 k a0 a1 (a0.extract (a1 : Int).toNat ((wrap64 (a1 + t129)) : Int).toNat) (wrap64 (a1 + t129)) (decide (t131 > 0)))) = some (r1, r2, r3, r4, r5, r6, r7) := by rw [if_pos rfl] at H; exact H
            clear H
            have H := H1
            clear H1
            replace H := Option.bind_eq_some_iff.mp H
            obtain ⟨t131, A110, H⟩ := H
            replace H : (levyref4_number.j0 k a0 a1 (a0.extract (a1 : Int).toNat ((wrap64 (a1 + t129)) : Int).toNat) (wrap64 (a1 + t129)) (decide (t131 > 0))) = some (r1, r2, r3, r4, r5, r6, r7) := H
            have A11 := Aside0.mk A110
            clear A110
            have H' := Aside0.mk H
            clear H
            go_wp2_with (first | ((with_reducible refine gate_callee (f := 49) rfl ?_); refine goesL_ (some 30) rfl rfl Tryd.func49 (by kernel_rfl) rfl #[.string a0, .int .i64 (wrap64 (a1 + t129)), .string (⟨#[46]⟩ : ByteArray)] rfl (by (try simp only [List.map_toArray, List.map_cons, List.map_nil]); first | done | rfl | (simp only [List.length_drop, List.length_take]; rfl)) ?_; (with_reducible refine (levyref4_is.calls a0 (wrap64 (a1 + t129)) (⟨#[46]⟩ : ByteArray) true _ A9.out).mono ?_); rintro e w' ⟨rfl, ⟨nd, rfl⟩⟩; refine ⟨_, rfl, ?_⟩) | (go_at_call 43; (with_reducible refine (levyref4_run.calls k a0 (wrap64 ((wrap64 (a1 + t129)) + 1)) 1 t131 _ A11.out).mono ?_); rintro e w' ⟨rfl, ⟨nd, rfl⟩⟩))
            go_meet
            case rel => exact ⟨_, (decide (t131 > 0)), (by first | rfl | (simp; done) | (simp [*]; done)), H', ⟨by first | omega | exact Nat.le_refl _⟩, ⟨by (with_reducible repeat (first | refine blk_drewN ?_ _ | refine blk_drew ?_ | refine blk_alloc ?_ _)); exact BK128.out⟩, ⟨by repeat (first | (with_reducible first | exact HB.out | apply below_alloc | apply pw_below_drewN | apply below_drew1 | refine below_set ?_ GE128.out) | exact HB.out)⟩⟩
          · replace c10 := Bool.eq_false_iff.mpr c10
            subst c10
            have H1 : (levyref4_number.j0 k a0 a1 (a0.extract (a1 : Int).toNat ((wrap64 (a1 + t129)) : Int).toNat) (wrap64 (a1 + t129)) false) = some (r1, r2, r3, r4, r5, r6, r7) := by rw [if_neg (show ¬ (false = true) by decide)] at H; exact H
            clear H
            have H := H1
            clear H1
            have H' := Aside0.mk H
            clear H
            go_wp2_with (first | ((with_reducible refine gate_callee (f := 49) rfl ?_); refine goesL_ (some 30) rfl rfl Tryd.func49 (by kernel_rfl) rfl #[.string a0, .int .i64 (wrap64 (a1 + t129)), .string (⟨#[46]⟩ : ByteArray)] rfl (by (try simp only [List.map_toArray, List.map_cons, List.map_nil]); first | done | rfl | (simp only [List.length_drop, List.length_take]; rfl)) ?_; (with_reducible refine (levyref4_is.calls a0 (wrap64 (a1 + t129)) (⟨#[46]⟩ : ByteArray) false _ A9.out).mono ?_); rintro e w' ⟨rfl, ⟨nd, rfl⟩⟩; refine ⟨_, rfl, ?_⟩))
            go_meet
            case rel => exact ⟨_, (false), (by first | rfl | (simp; done) | (simp [*]; done)), H', ⟨by first | omega | exact Nat.le_refl _⟩, ⟨by (with_reducible repeat (first | refine blk_drewN ?_ _ | refine blk_drew ?_ | refine blk_alloc ?_ _)); exact BK128.out⟩, ⟨by repeat (first | (with_reducible first | exact HB.out | apply below_alloc | apply pw_below_drewN | apply below_drew1 | refine below_set ?_ GE128.out) | exact HB.out)⟩⟩
        case rest =>
          clear HC7
          try clear c1
          try clear p2
          try clear c4
          try clear c4b0
          try clear c4b1
          try clear c5
          try clear c5b0
          try clear c5b1
          try clear c6
          try clear c6b0
          try clear c6b1
          try clear p6
          try clear c10
          obtain ⟨kq, x10_6, rfl, HA, HJ6, BK128, HB⟩ := hcut
          cases kq with
          | zero => exact absurd HA.out (by simp [levyref4_number.j0])
          | succ kj6 =>
            have H := HA.out
            clear HA
            simp only [levyref4_number.j0] at H
            have HC12 := Aside0.mk H
            clear H
            go_upto_if 38 with (fail)
            go_cut [9, 11] (fun v9 v11 wc => ∃ (kq : Nat) (x9_11 : Int) (x11_11 : ByteArray), v9 = .int .i64 x9_11 ∧ v11 = .string x11_11 ∧ Aside0 (levyref4_number.j1 kq a0 a1 (a0.extract (a1 : Int).toNat ((wrap64 (a1 + t129)) : Int).toNat) x9_11 x10_6 x11_11 = some (r1, r2, r3, r4, r5, r6, r7)) ∧ Aside0 (kq ≤ kj6) ∧ Aside0 (wc.heap[gb128]? = some (.cells #[.int .i64 0, .int .i64 0, .string (⟨#[]⟩ : ByteArray), .int .i64 0, .int .i64 0] 33 (0, 0))) ∧ Aside0 (Below w.heap.size w wc))
            case first =>
              have H := HC12.out
              clear HC12
              by_cases c13 : x10_6 = true
              · subst c13
                have H1 : ((levyref4_run.f kj6 a0 (wrap64 ((wrap64 (a1 + t129)) + 1)) 1).bind fun t132 => (if 0 ≤ (wrap64 ((wrap64 (a1 + t129)) + 1)) then (if (wrap64 ((wrap64 (a1 + t129)) + 1)) ≤ (wrap64 ((wrap64 ((wrap64 (a1 + t129)) + 1)) + t132)) then (if (wrap64 ((wrap64 ((wrap64 (a1 + t129)) + 1)) + t132)) ≤ (a0.size : Int) then (levyref4_number.j1 kj6 a0 a1 (a0.extract (a1 : Int).toNat ((wrap64 (a1 + t129)) : Int).toNat) (wrap64 ((wrap64 ((wrap64 (a1 + t129)) + 1)) + t132)) true (a0.extract ((wrap64 ((wrap64 (a1 + t129)) + 1)) : Int).toNat ((wrap64 ((wrap64 ((wrap64 (a1 + t129)) + 1)) + t132)) : Int).toNat)) else (none)) else (none)) else (none))) = some (r1, r2, r3, r4, r5, r6, r7) := by rw [if_pos rfl] at H; exact H
                clear H
                have H := H1
                clear H1
                replace H := Option.bind_eq_some_iff.mp H
                obtain ⟨t132, A140, H⟩ := H
                replace H : (if 0 ≤ (wrap64 ((wrap64 (a1 + t129)) + 1)) then (if (wrap64 ((wrap64 (a1 + t129)) + 1)) ≤ (wrap64 ((wrap64 ((wrap64 (a1 + t129)) + 1)) + t132)) then (if (wrap64 ((wrap64 ((wrap64 (a1 + t129)) + 1)) + t132)) ≤ (a0.size : Int) then (levyref4_number.j1 kj6 a0 a1 (a0.extract (a1 : Int).toNat ((wrap64 (a1 + t129)) : Int).toNat) (wrap64 ((wrap64 ((wrap64 (a1 + t129)) + 1)) + t132)) true (a0.extract ((wrap64 ((wrap64 (a1 + t129)) + 1)) : Int).toNat ((wrap64 ((wrap64 ((wrap64 (a1 + t129)) + 1)) + t132)) : Int).toNat)) else (none)) else (none)) else (none)) = some (r1, r2, r3, r4, r5, r6, r7) := H
                have A14 := Aside0.mk A140
                clear A140
                obtain ⟨ji15, hji15⟩ : ∃ j_ : Int, (wrap64 ((wrap64 (a1 + t129)) + 1)) = j_ := ⟨_, rfl⟩
                replace H : (if 0 ≤ (ji15) then (if (ji15) ≤ (wrap64 ((ji15) + t132)) then (if (wrap64 ((ji15) + t132)) ≤ (a0.size : Int) then (levyref4_number.j1 kj6 a0 a1 (a0.extract (a1 : Int).toNat ((wrap64 (a1 + t129)) : Int).toNat) (wrap64 ((ji15) + t132)) true (a0.extract ((ji15) : Int).toNat ((wrap64 ((ji15) + t132)) : Int).toNat)) else (none)) else (none)) else (none)) = some (r1, r2, r3, r4, r5, r6, r7) := by first | (rw [hji15] at H; exact H) | (simp only [hji15] at H ⊢; exact H)
                (try rw [hji15] at A14)
                have hji15w : (IntKind.i64.wrap ((wrap64 (a1 + t129)) + 1)) = ji15 := (i64_w _).trans hji15
                by_cases c16 : 0 ≤ (ji15)
                · rw [if_pos c16] at H
                  have c16b0 := eq_true c16
                  have c16b1 : decide (0 ≤ (ji15)) = true := decide_eq_true c16
                  clear c16
                  by_cases c17 : (ji15) ≤ (wrap64 ((ji15) + t132))
                  · rw [if_pos c17] at H
                    have c17b0 := eq_true c17
                    have c17b1 : decide ((ji15) ≤ (wrap64 ((ji15) + t132))) = true := decide_eq_true c17
                    by_cases c18 : (wrap64 ((ji15) + t132)) ≤ (a0.size : Int)
                    · rw [if_pos c18] at H
                      have c18b0 := eq_true c18
                      have c18b1 : decide ((wrap64 ((ji15) + t132)) ≤ (a0.size : Int)) = true := decide_eq_true c18
                      have H' := Aside0.mk H
                      clear H
                      go_wp2_with (first | ((with_reducible refine gate_callee (f := 43) rfl ?_); refine goesL_ (some 42) rfl rfl Tryd.func43 (by kernel_rfl) rfl #[.string a0, .int .i64 ji15, .int .i64 1] rfl (by (try simp only [List.map_toArray, List.map_cons, List.map_nil]); first | done | (simp only [hji15]; rfl) | rfl | (simp only [List.length_drop, List.length_take]; rfl)) ?_; (with_reducible refine (levyref4_run.calls kj6 a0 ji15 1 t132 _ A14.out).mono ?_); rintro e w' ⟨rfl, ⟨nd, rfl⟩⟩; refine ⟨_, rfl, ?_⟩))
                      go_meet
                      case rel => exact ⟨_, (wrap64 ((ji15) + t132)), (a0.extract ((ji15) : Int).toNat ((wrap64 ((ji15) + t132)) : Int).toNat), (by first | rfl | (simp; done) | (simp only [← hji15] <;> (first | rfl | simp)) | (simp [*]; done)), (by first | rfl | (simp; done) | (simp only [← hji15] <;> (first | rfl | simp)) | (simp [*]; done)), H', ⟨by have := HJ6.out; first | omega | exact Nat.le_refl _⟩, ⟨by (with_reducible repeat (first | refine blk_drewN ?_ _ | refine blk_drew ?_ | refine blk_alloc ?_ _)); exact BK128.out⟩, ⟨by repeat (first | (with_reducible first | exact HB.out | apply below_alloc | apply pw_below_drewN | apply below_drew1 | refine below_set ?_ GE128.out) | exact HB.out)⟩⟩
                    · rw [if_neg c18] at H
                      exact absurd H (by simp)
                  · rw [if_neg c17] at H
                    exact absurd H (by simp)
                · rw [if_neg c16] at H
                  exact absurd H (by simp)
              · replace c13 := Bool.eq_false_iff.mpr c13
                subst c13
                have H1 : (levyref4_number.j1 kj6 a0 a1 (a0.extract (a1 : Int).toNat ((wrap64 (a1 + t129)) : Int).toNat) (wrap64 (a1 + t129)) false (⟨#[]⟩ : ByteArray)) = some (r1, r2, r3, r4, r5, r6, r7) := by rw [if_neg (show ¬ (false = true) by decide)] at H; exact H
                clear H
                have H := H1
                clear H1
                have H' := Aside0.mk H
                clear H
                go_wp2
                go_meet
                case rel => exact ⟨_, ((wrap64 (a1 + t129))), ((⟨#[]⟩ : ByteArray)), (by first | rfl | (simp; done) | (simp [*]; done)), (by first | rfl | (simp; done) | (simp [*]; done)), H', ⟨by have := HJ6.out; first | omega | exact Nat.le_refl _⟩, ⟨by (with_reducible repeat (first | refine blk_drewN ?_ _ | refine blk_drew ?_ | refine blk_alloc ?_ _)); exact BK128.out⟩, ⟨by repeat (first | (with_reducible first | exact HB.out | apply below_alloc | apply pw_below_drewN | apply below_drew1 | refine below_set ?_ GE128.out) | exact HB.out)⟩⟩
            case rest =>
              clear HC12
              try clear c1
              try clear p2
              try clear c4
              try clear c4b0
              try clear c4b1
              try clear c5
              try clear c5b0
              try clear c5b1
              try clear c6
              try clear c6b0
              try clear c6b1
              try clear p6
              try clear c10
              try clear c13
              try clear c16
              try clear c16b0
              try clear c16b1
              try clear c17
              try clear c17b0
              try clear c17b1
              try clear c18
              try clear c18b0
              try clear c18b1
              try clear p2
              try clear p6
              obtain ⟨kq, x9_11, x11_11, rfl, rfl, HA, HJ11, BK128, HB⟩ := hcut
              cases kq with
              | zero => exact absurd HA.out (by simp [levyref4_number.j1])
              | succ kj11 =>
                have H := HA.out
                clear HA
                simp only [levyref4_number.j1] at H
                replace H := Option.bind_eq_some_iff.mp H
                obtain ⟨t133, A190, H⟩ := H
                replace H : (if t133 = true then (levyref4_number.j2 kj11 a0 a1 (a0.extract (a1 : Int).toNat ((wrap64 (a1 + t129)) : Int).toNat) (wrap64 (x9_11 + 1)) x10_6 x11_11 t133) else (levyref4_number.j2 kj11 a0 a1 (a0.extract (a1 : Int).toNat ((wrap64 (a1 + t129)) : Int).toNat) x9_11 x10_6 x11_11 t133)) = some (r1, r2, r3, r4, r5, r6, r7) := H
                have A19 := Aside0.mk A190
                clear A190
                have HC20 := Aside0.mk H
                clear H
                go_upto_if 58 with (first | ((with_reducible refine gate_callee (f := 49) rfl ?_); refine goesL_ (some 57) rfl rfl Tryd.func49 (by kernel_rfl) rfl #[.string a0, .int .i64 x9_11, .string (⟨#[37]⟩ : ByteArray)] rfl (by (try simp only [List.map_toArray, List.map_cons, List.map_nil]); first | done | rfl | (simp only [List.length_drop, List.length_take]; rfl)) ?_; (with_reducible refine (levyref4_is.calls a0 x9_11 (⟨#[37]⟩ : ByteArray) t133 _ A19.out).mono ?_); rintro e w' ⟨rfl, ⟨nd, rfl⟩⟩; refine ⟨_, rfl, ?_⟩))
                (try simp only [Act.put, List.setIfInBounds_toArray, List.set_cons_zero, List.set_cons_succ])
                go_cut [9] (fun v9 wc => ∃ (kq : Nat) (x9_19 : Int), v9 = .int .i64 x9_19 ∧ Aside0 (levyref4_number.j2 kq a0 a1 (a0.extract (a1 : Int).toNat ((wrap64 (a1 + t129)) : Int).toNat) x9_19 x10_6 x11_11 t133 = some (r1, r2, r3, r4, r5, r6, r7)) ∧ Aside0 (kq ≤ kj11) ∧ Aside0 (wc.heap[gb128]? = some (.cells #[.int .i64 0, .int .i64 0, .string (⟨#[]⟩ : ByteArray), .int .i64 0, .int .i64 0] 33 (0, 0))) ∧ Aside0 (Below w.heap.size w wc))
                case first =>
                  have H := HC20.out
                  clear HC20
                  by_cases c21 : t133 = true
                  · subst c21
                    have H1 : (levyref4_number.j2 kj11 a0 a1 (a0.extract (a1 : Int).toNat ((wrap64 (a1 + t129)) : Int).toNat) (wrap64 (x9_11 + 1)) x10_6 x11_11 true) = some (r1, r2, r3, r4, r5, r6, r7) := by rw [if_pos rfl] at H; exact H
                    clear H
                    have H := H1
                    clear H1
                    have H' := Aside0.mk H
                    clear H
                    go_wp2
                    go_meet
                    case rel => exact ⟨_, (wrap64 (x9_11 + 1)), (by first | rfl | (simp; done) | (simp [*]; done)), H', ⟨by have := HJ6.out; have := HJ11.out; first | omega | exact Nat.le_refl _⟩, ⟨by (with_reducible repeat (first | refine blk_drewN ?_ _ | refine blk_drew ?_ | refine blk_alloc ?_ _)); exact BK128.out⟩, ⟨by repeat (first | (with_reducible first | exact HB.out | apply below_alloc | apply pw_below_drewN | apply below_drew1 | refine below_set ?_ GE128.out) | exact HB.out)⟩⟩
                  · replace c21 := Bool.eq_false_iff.mpr c21
                    subst c21
                    have H1 : (levyref4_number.j2 kj11 a0 a1 (a0.extract (a1 : Int).toNat ((wrap64 (a1 + t129)) : Int).toNat) x9_11 x10_6 x11_11 false) = some (r1, r2, r3, r4, r5, r6, r7) := by rw [if_neg (show ¬ (false = true) by decide)] at H; exact H
                    clear H
                    have H := H1
                    clear H1
                    have H' := Aside0.mk H
                    clear H
                    go_wp2
                    go_meet
                    case rel => exact ⟨_, (x9_11), (by first | rfl | (simp; done) | (simp [*]; done)), H', ⟨by have := HJ6.out; have := HJ11.out; first | omega | exact Nat.le_refl _⟩, ⟨by (with_reducible repeat (first | refine blk_drewN ?_ _ | refine blk_drew ?_ | refine blk_alloc ?_ _)); exact BK128.out⟩, ⟨by repeat (first | (with_reducible first | exact HB.out | apply below_alloc | apply pw_below_drewN | apply below_drew1 | refine below_set ?_ GE128.out) | exact HB.out)⟩⟩
                case rest =>
                  clear HC20
                  try clear c1
                  try clear c2
                  try clear p2
                  try clear c4
                  try clear c4b0
                  try clear c4b1
                  try clear c5
                  try clear c5b0
                  try clear c5b1
                  try clear c6
                  try clear c6b0
                  try clear c6b1
                  try clear p6
                  try clear c10
                  try clear c13
                  try clear c16
                  try clear c16b0
                  try clear c16b1
                  try clear c17
                  try clear c17b0
                  try clear c17b1
                  try clear c18
                  try clear c18b0
                  try clear c18b1
                  try clear c21
                  try clear p2
                  try clear p6
                  obtain ⟨kq, x9_19, rfl, HA, HJ19, BK128, HB⟩ := hcut
                  cases kq with
                  | zero => exact absurd HA.out (by simp [levyref4_number.j2])
                  | succ kj19 =>
                    have H := HA.out
                    clear HA
                    simp only [levyref4_number.j2] at H
                    have HC22 := Aside0.mk H
                    clear H
                    go_upto_region 13 with (fail)
                    go_cut [76] (fun v76 wc => ∃ (kq : Nat) (x76_21 : Bool), v76 = .bool x76_21 ∧ Aside0 (levyref4_number.j3 kq a1 (a0.extract (a1 : Int).toNat ((wrap64 (a1 + t129)) : Int).toNat) x9_19 x10_6 x11_11 t133 x76_21 = some (r1, r2, r3, r4, r5, r6, r7)) ∧ Aside0 (kq ≤ kj19) ∧ Aside0 (wc.heap[gb128]? = some (.cells #[.int .i64 0, .int .i64 0, .string (⟨#[]⟩ : ByteArray), .int .i64 0, .int .i64 0] 33 (0, 0))) ∧ Aside0 (Below w.heap.size w wc))
                    case first =>
                      have H := HC22.out
                      clear HC22
                      by_cases c23 : x9_19 < (a0.size : Int)
                      · rw [if_pos c23] at H
                        have c23b0 : decide (x9_19 < (a0.size : Int)) = true := decide_eq_true c23
                        clear c23
                        (first | rw [c23b0] | (simp only [i64_w, i32_w]; rw [c23b0]) | skip)
                        by_cases c24 : 0 ≤ x9_19
                        · rw [if_pos c24] at H
                          have c24b0 : decide (0 ≤ x9_19) = true := decide_eq_true c24
                          clear c24
                          replace H := Option.bind_eq_some_iff.mp H
                          obtain ⟨t134, A260, H⟩ := H
                          replace H : (if t134 = true then (levyref4_number.j3 kj19 a1 (a0.extract (a1 : Int).toNat ((wrap64 (a1 + t129)) : Int).toNat) x9_19 x10_6 x11_11 t133 true) else (levyref4_number.j3 kj19 a1 (a0.extract (a1 : Int).toNat ((wrap64 (a1 + t129)) : Int).toNat) x9_19 x10_6 x11_11 t133 ((bt a0 x9_19) == 95))) = some (r1, r2, r3, r4, r5, r6, r7) := H
                          have A26 := Aside0.mk A260
                          clear A260
                          by_cases c27 : t134 = true
                          · subst c27
                            have H1 : (levyref4_number.j3 kj19 a1 (a0.extract (a1 : Int).toNat ((wrap64 (a1 + t129)) : Int).toNat) x9_19 x10_6 x11_11 t133 true) = some (r1, r2, r3, r4, r5, r6, r7) := by rw [if_pos rfl] at H; exact H
                            clear H
                            have H := H1
                            clear H1
                            have H' := Aside0.mk H
                            clear H
                            have p25 : 0 ≤ (x9_19 : Int) := of_decide_eq_true (by first | (with_reducible assumption) | assumption)
                            have q25 : x9_19 < (a0.size : Int) := of_decide_eq_true (by first | (with_reducible assumption) | assumption)
                            have hx25 := bt_at a0 x9_19
                            replace p25 := eq_true p25
                            replace q25 := eq_true q25
                            go_wp2_with (first | (go_at_call 42; (with_reducible refine (levyref4_isLetter.calls (bt a0 x9_19) true _ A26.out).mono ?_); rintro e w' ⟨rfl, ⟨nd, rfl⟩⟩))
                            go_meet
                            case rel => exact ⟨_, (true), (by first | rfl | (simp; done) | (simp [*]; done)), H', ⟨by have := HJ6.out; have := HJ11.out; have := HJ19.out; first | omega | exact Nat.le_refl _⟩, ⟨by (with_reducible repeat (first | refine blk_drewN ?_ _ | refine blk_drew ?_ | refine blk_alloc ?_ _)); exact BK128.out⟩, ⟨by repeat (first | (with_reducible first | exact HB.out | apply below_alloc | apply pw_below_drewN | apply below_drew1 | refine below_set ?_ GE128.out) | exact HB.out)⟩⟩
                          · replace c27 := Bool.eq_false_iff.mpr c27
                            subst c27
                            have H1 : (levyref4_number.j3 kj19 a1 (a0.extract (a1 : Int).toNat ((wrap64 (a1 + t129)) : Int).toNat) x9_19 x10_6 x11_11 t133 ((bt a0 x9_19) == 95)) = some (r1, r2, r3, r4, r5, r6, r7) := by rw [if_neg (show ¬ (false = true) by decide)] at H; exact H
                            clear H
                            have H := H1
                            clear H1
                            have H' := Aside0.mk H
                            clear H
                            have p25 : 0 ≤ (x9_19 : Int) := of_decide_eq_true (by first | (with_reducible assumption) | assumption)
                            have q25 : x9_19 < (a0.size : Int) := of_decide_eq_true (by first | (with_reducible assumption) | assumption)
                            have hx25 := bt_at a0 x9_19
                            replace p25 := eq_true p25
                            replace q25 := eq_true q25
                            go_wp2_with (first | (go_at_call 42; (with_reducible refine (levyref4_isLetter.calls (bt a0 x9_19) false _ A26.out).mono ?_); rintro e w' ⟨rfl, ⟨nd, rfl⟩⟩; have p28 : 0 ≤ (x9_19 : Int) := of_decide_eq_true (by first | (with_reducible assumption) | assumption); have q28 : x9_19 < (a0.size : Int) := of_decide_eq_true (by first | (with_reducible assumption) | assumption); have hx28 := bt_at a0 x9_19; replace p28 := eq_true p28; replace q28 := eq_true q28))
                            go_meet
                            case rel => exact ⟨_, (((bt a0 x9_19) == 95)), (by first | rfl | (simp; done) | (simp [*]; done)), H', ⟨by have := HJ6.out; have := HJ11.out; have := HJ19.out; first | omega | exact Nat.le_refl _⟩, ⟨by (with_reducible repeat (first | refine blk_drewN ?_ _ | refine blk_drew ?_ | refine blk_alloc ?_ _)); exact BK128.out⟩, ⟨by repeat (first | (with_reducible first | exact HB.out | apply below_alloc | apply pw_below_drewN | apply below_drew1 | refine below_set ?_ GE128.out) | exact HB.out)⟩⟩
                        · rw [if_neg c24] at H
                          exact absurd H (by simp)
                      · rw [if_neg c23] at H
                        have c23b0 : decide (x9_19 < (a0.size : Int)) = false := decide_eq_false c23
                        clear c23
                        (first | rw [c23b0] | (simp only [i64_w, i32_w]; rw [c23b0]) | skip)
                        have H' := Aside0.mk H
                        clear H
                        go_wp2
                        go_meet
                        case rel => exact ⟨_, (false), (by first | rfl | (simp; done) | (simp [*]; done)), H', ⟨by have := HJ6.out; have := HJ11.out; have := HJ19.out; first | omega | exact Nat.le_refl _⟩, ⟨by (with_reducible repeat (first | refine blk_drewN ?_ _ | refine blk_drew ?_ | refine blk_alloc ?_ _)); exact BK128.out⟩, ⟨by repeat (first | (with_reducible first | exact HB.out | apply below_alloc | apply pw_below_drewN | apply below_drew1 | refine below_set ?_ GE128.out) | exact HB.out)⟩⟩
                    case rest =>
                      clear HC22
                      try clear c1
                      try clear c2
                      try clear p2
                      try clear q2
                      try clear hx2
                      try clear c4
                      try clear c4b0
                      try clear c4b1
                      try clear c5
                      try clear c5b0
                      try clear c5b1
                      try clear c6
                      try clear c6b0
                      try clear c6b1
                      try clear p6
                      try clear c10
                      try clear c13
                      try clear c16
                      try clear c16b0
                      try clear c16b1
                      try clear c17
                      try clear c17b0
                      try clear c17b1
                      try clear c18
                      try clear c18b0
                      try clear c18b1
                      try clear c21
                      try clear c23
                      try clear c23b0
                      try clear c24
                      try clear c24b0
                      try clear p25
                      try clear q25
                      try clear hx25
                      try clear c27
                      try clear p28
                      try clear q28
                      try clear hx28
                      try clear p2
                      try clear p25
                      try clear p28
                      try clear p6
                      try clear q25
                      try clear q28
                      obtain ⟨kq, x76_21, rfl, HA, HJ21, BK128, HB⟩ := hcut
                      cases kq with
                      | zero => exact absurd HA.out (by simp [levyref4_number.j3])
                      | succ kj21 =>
                        have H := HA.out
                        clear HA
                        simp only [levyref4_number.j3] at H
                        by_cases c29 : x76_21 = true
                        · subst c29
                          have H1 : (some (0, 0, (⟨#[]⟩ : ByteArray), 0, 0, a1, 42)) = some (r1, r2, r3, r4, r5, r6, r7) := by rw [if_pos rfl] at H; exact H
                          clear H
                          have H := H1
                          clear H1
                          simp only [Option.some.injEq, Prod.mk.injEq] at H
                          obtain ⟨rfl, rfl, rfl, rfl, rfl, rfl, rfl⟩ := H
                          have hcz30_0 : wc.cell? ⟨gb128, 0, none⟩ = some (.int .i64 0) := (blk_cell BK128.out 0).trans rfl
                          have hcz30_1 : wc.cell? ⟨gb128, 1, none⟩ = some (.int .i64 0) := (blk_cell BK128.out 1).trans rfl
                          have hcz30_2 : wc.cell? ⟨gb128, 2, none⟩ = some (.string (⟨#[]⟩ : ByteArray)) := (blk_cell BK128.out 2).trans rfl
                          have hcz30_3 : wc.cell? ⟨gb128, 3, none⟩ = some (.int .i64 0) := (blk_cell BK128.out 3).trans rfl
                          have hcz30_4 : wc.cell? ⟨gb128, 4, none⟩ = some (.int .i64 0) := (blk_cell BK128.out 4).trans rfl
                          have hfz30_0 := blk_frozen BK128.out 0
                          have hfz30_1 := blk_frozen BK128.out 1
                          have hfz30_2 := blk_frozen BK128.out 2
                          have hfz30_3 := blk_frozen BK128.out 3
                          have hfz30_4 := blk_frozen BK128.out 4
                          go_wp2
                          refine bodyPost_ret (results_ctt rfl _ _ gb128 33 #[.int .i64 0, .int .i64 0, .string (⟨#[]⟩ : ByteArray), .int .i64 0, .int .i64 0] (0, 0) _ rfl (by (with_reducible repeat (first | refine blk_drewN ?_ _ | refine blk_drew ?_ | refine blk_alloc ?_ _)); refine blk_put (cs := #[.int .i64 0, .int .i64 0, .string (⟨#[]⟩ : ByteArray), .int .i64 0, .int .i64 0]) ?_ 4 _ rfl; (with_reducible repeat (first | refine blk_drewN ?_ _ | refine blk_drew ?_ | refine blk_alloc ?_ _)); refine blk_put (cs := #[.int .i64 0, .int .i64 0, .string (⟨#[]⟩ : ByteArray), .int .i64 0, .int .i64 0]) ?_ 3 _ rfl; (with_reducible repeat (first | refine blk_drewN ?_ _ | refine blk_drew ?_ | refine blk_alloc ?_ _)); refine blk_put (cs := #[.int .i64 0, .int .i64 0, .string (⟨#[]⟩ : ByteArray), .int .i64 0, .int .i64 0]) ?_ 2 _ rfl; (with_reducible repeat (first | refine blk_drewN ?_ _ | refine blk_drew ?_ | refine blk_alloc ?_ _)); refine blk_put (cs := #[.int .i64 0, .int .i64 0, .string (⟨#[]⟩ : ByteArray), .int .i64 0, .int .i64 0]) ?_ 1 _ rfl; (with_reducible repeat (first | refine blk_drewN ?_ _ | refine blk_drew ?_ | refine blk_alloc ?_ _)); refine blk_put (cs := #[.int .i64 0, .int .i64 0, .string (⟨#[]⟩ : ByteArray), .int .i64 0, .int .i64 0]) ?_ 0 _ rfl; (with_reducible repeat (first | refine blk_drewN ?_ _ | refine blk_drew ?_ | refine blk_alloc ?_ _)); exact BK128.out) Tryd.underlying33 rfl (by kernel_rfl)) rfl ?_
                          exact ⟨by first | rfl | (simp [errW_none, errW_some] <;> rfl) | (simp [*, errW_none, errW_some] <;> rfl), by repeat (first | (with_reducible first | exact HB.out | apply below_alloc | apply pw_below_drewN | apply below_drew1 | refine below_set ?_ GE128.out) | exact HB.out)⟩
                        · replace c29 := Bool.eq_false_iff.mpr c29
                          subst c29
                          have H1 : ((levyref4_numbered.f kj21 (a0.extract (a1 : Int).toNat ((wrap64 (a1 + t129)) : Int).toNat) x10_6 x11_11 t133).bind fun bt135 => (if bt135.2.2.2.2.2 = true then (some (bt135.1, bt135.2.1, bt135.2.2.1, bt135.2.2.2.1, bt135.2.2.2.2.1, x9_19, 0)) else (some (0, 0, (⟨#[]⟩ : ByteArray), 0, 0, a1, 42)))) = some (r1, r2, r3, r4, r5, r6, r7) := by rw [if_neg (show ¬ (false = true) by decide)] at H; exact H
                          clear H
                          have H := H1
                          clear H1
                          replace H := Option.bind_eq_some_iff.mp H
                          obtain ⟨⟨t135, t136, t137, t138, t139, t140⟩, A310, H⟩ := H
                          replace H : (if t140 = true then (some (t135, t136, t137, t138, t139, x9_19, 0)) else (some (0, 0, (⟨#[]⟩ : ByteArray), 0, 0, a1, 42))) = some (r1, r2, r3, r4, r5, r6, r7) := H
                          have A31 := Aside0.mk A310
                          clear A310
                          by_cases c32 : t140 = true
                          · subst c32
                            have H1 : (some (t135, t136, t137, t138, t139, x9_19, 0)) = some (r1, r2, r3, r4, r5, r6, r7) := by rw [if_pos rfl] at H; exact H
                            clear H
                            have H := H1
                            clear H1
                            simp only [Option.some.injEq, Prod.mk.injEq] at H
                            obtain ⟨rfl, rfl, rfl, rfl, rfl, rfl, rfl⟩ := H
                            go_wp2_with (first | ((with_reducible refine gate_callee (f := 70) rfl ?_); refine goesL_ (some 84) rfl rfl Tryd.func70 (by kernel_rfl) rfl #[.string (a0.extract (a1 : Int).toNat ((wrap64 (a1 + t129)) : Int).toNat), .bool x10_6, .string x11_11, .bool t133] rfl (by (try simp only [List.map_toArray, List.map_cons, List.map_nil]); first | done | rfl | (simp only [List.length_drop, List.length_take]; rfl)) ?_; (with_reducible refine (levyref4_numbered.calls kj21 (a0.extract (a1 : Int).toNat ((wrap64 (a1 + t129)) : Int).toNat) x10_6 x11_11 t133 t135 t136 t137 t138 t139 true _ A31.out).mono ?_); rintro e w33 ⟨rfl, hb⟩; refine ⟨_, rfl, ?_⟩; have n0_ := Aside0.mk (blk_below (g := gb128) (o := .cells #[.int .i64 0, .int .i64 0, .string (⟨#[]⟩ : ByteArray), .int .i64 0, .int .i64 0] 33 (0, 0)) (by (with_reducible repeat (first | refine blk_drewN ?_ _ | refine blk_drew ?_ | refine blk_alloc ?_ _)); exact BK128.out) hb); have n1_ := Aside0.mk (below_step (by repeat (first | (with_reducible first | exact HB.out | apply below_alloc | apply pw_below_drewN | apply below_drew1 | refine below_set ?_ GE128.out) | exact HB.out)) hb); clear BK128; clear HB; have BK128 := n0_; have HB := n1_; clear n0_ n1_; (try clear hb); (try clear hb2); (try clear hk); (try clear hi)) | ((with_reducible refine gate_dst (N := 14) rfl ?_); refine box_event ?hg (N := 14) ?hd (cs := #[.int .i64 0, .int .i64 0, .string (⟨#[]⟩ : ByteArray), .int .i64 0, .int .i64 0]) (t := 33) ?hr ?_; (case hd => rfl); (case hg => rfl); (case hr => first | (go_simp; done) | (go_simp; rfl)); intro gb141 hg w34 hbox hb; have n0_ := Aside0.mk (blk_below (g := gb128) (o := .cells #[.int .i64 0, .int .i64 0, .string (⟨#[]⟩ : ByteArray), .int .i64 0, .int .i64 0] 33 (0, 0)) (by (with_reducible repeat (first | refine blk_drewN ?_ _ | refine blk_drew ?_ | refine blk_alloc ?_ _)); exact BK128.out) hb); have n1_ := Aside0.mk (below_step (by repeat (first | (with_reducible first | exact HB.out | apply below_alloc | apply pw_below_drewN | apply below_drew1 | refine below_set ?_ GE128.out) | exact HB.out)) hb); have n2_ := Aside0.mk (hbox); have n3_ := Aside0.mk ((by rw [hg]; exact (below_size (by repeat (first | (with_reducible first | exact HB.out | apply below_alloc | apply pw_below_drewN | apply below_drew1 | refine below_set ?_ GE128.out) | exact HB.out))) : w.heap.size ≤ gb141)); have n4_ := Aside0.mk ((by rw [hg]; exact (below_size (by repeat (first | (with_reducible first | exact HB.out | apply below_alloc | apply pw_below_drewN | apply below_drew1 | refine below_set ?_ GE128.out) | exact HB.out))) : w.heap.size ≤ gb141)); have n5_ := Aside0.mk ((by rw [hg]; exact Nat.ne_of_lt (blk_lt (g := gb128) (o := .cells #[.int .i64 0, .int .i64 0, .string (⟨#[]⟩ : ByteArray), .int .i64 0, .int .i64 0] 33 (0, 0)) (by (with_reducible repeat (first | refine blk_drewN ?_ _ | refine blk_drew ?_ | refine blk_alloc ?_ _)); exact BK128.out)) : gb128 ≠ gb141)); have n6_ := Aside0.mk ((by rw [hg]; exact Nat.ne_of_gt (blk_lt (g := gb128) (o := .cells #[.int .i64 0, .int .i64 0, .string (⟨#[]⟩ : ByteArray), .int .i64 0, .int .i64 0] 33 (0, 0)) (by (with_reducible repeat (first | refine blk_drewN ?_ _ | refine blk_drew ?_ | refine blk_alloc ?_ _)); exact BK128.out)) : gb141 ≠ gb128)); clear BK128; clear HB; have BK128 := n0_; have HB := n1_; have BK141 := n2_; have GW141 := n3_; have GE141 := n4_; have NB128_141 := n5_; have NB141_128 := n6_; clear n0_ n1_ n2_ n3_ n4_ n5_ n6_; clear hb hbox hg; have hnb35 := NB141_128.out; have hnc35 := NB128_141.out; have hcz36_0 : w34.cell? ⟨gb141, 0, none⟩ = some (.int .i64 0) := (blk_cell BK141.out 0).trans rfl; have hcz36_1 : w34.cell? ⟨gb141, 1, none⟩ = some (.int .i64 0) := (blk_cell BK141.out 1).trans rfl; have hcz36_2 : w34.cell? ⟨gb141, 2, none⟩ = some (.string (⟨#[]⟩ : ByteArray)) := (blk_cell BK141.out 2).trans rfl; have hcz36_3 : w34.cell? ⟨gb141, 3, none⟩ = some (.int .i64 0) := (blk_cell BK141.out 3).trans rfl; have hcz36_4 : w34.cell? ⟨gb141, 4, none⟩ = some (.int .i64 0) := (blk_cell BK141.out 4).trans rfl; have hfz36_0 := blk_frozen BK141.out 0; have hfz36_1 := blk_frozen BK141.out 1; have hfz36_2 := blk_frozen BK141.out 2; have hfz36_3 := blk_frozen BK141.out 3; have hfz36_4 := blk_frozen BK141.out 4; have hcz37_0 : w34.cell? ⟨gb128, 0, none⟩ = some (.int .i64 0) := (blk_cell BK128.out 0).trans rfl; have hcz37_1 : w34.cell? ⟨gb128, 1, none⟩ = some (.int .i64 0) := (blk_cell BK128.out 1).trans rfl; have hcz37_2 : w34.cell? ⟨gb128, 2, none⟩ = some (.string (⟨#[]⟩ : ByteArray)) := (blk_cell BK128.out 2).trans rfl; have hcz37_3 : w34.cell? ⟨gb128, 3, none⟩ = some (.int .i64 0) := (blk_cell BK128.out 3).trans rfl; have hcz37_4 : w34.cell? ⟨gb128, 4, none⟩ = some (.int .i64 0) := (blk_cell BK128.out 4).trans rfl; have hfz37_0 := blk_frozen BK128.out 0; have hfz37_1 := blk_frozen BK128.out 1; have hfz37_2 := blk_frozen BK128.out 2; have hfz37_3 := blk_frozen BK128.out 3; have hfz37_4 := blk_frozen BK128.out 4))
                            refine bodyPost_ret (results_ctt rfl _ _ gb128 33 #[.int .i64 t135, .int .i64 t136, .string t137, .int .i64 t138, .int .i64 t139] (0, 0) _ rfl (by (with_reducible repeat (first | refine blk_drewN ?_ _ | refine blk_drew ?_ | refine blk_alloc ?_ _)); refine blk_put (cs := #[.int .i64 t135, .int .i64 t136, .string t137, .int .i64 t138, .int .i64 0]) ?_ 4 _ rfl; (with_reducible repeat (first | refine blk_drewN ?_ _ | refine blk_drew ?_ | refine blk_alloc ?_ _)); refine blk_put (cs := #[.int .i64 t135, .int .i64 t136, .string t137, .int .i64 0, .int .i64 0]) ?_ 3 _ rfl; (with_reducible repeat (first | refine blk_drewN ?_ _ | refine blk_drew ?_ | refine blk_alloc ?_ _)); refine blk_put (cs := #[.int .i64 t135, .int .i64 t136, .string (⟨#[]⟩ : ByteArray), .int .i64 0, .int .i64 0]) ?_ 2 _ rfl; (with_reducible repeat (first | refine blk_drewN ?_ _ | refine blk_drew ?_ | refine blk_alloc ?_ _)); refine blk_put (cs := #[.int .i64 t135, .int .i64 0, .string (⟨#[]⟩ : ByteArray), .int .i64 0, .int .i64 0]) ?_ 1 _ rfl; (with_reducible repeat (first | refine blk_drewN ?_ _ | refine blk_drew ?_ | refine blk_alloc ?_ _)); refine blk_put (cs := #[.int .i64 0, .int .i64 0, .string (⟨#[]⟩ : ByteArray), .int .i64 0, .int .i64 0]) ?_ 0 _ rfl; (with_reducible repeat (first | refine blk_drewN ?_ _ | refine blk_drew ?_ | refine blk_alloc ?_ _)); refine blk_far ?_ NB128_141.out _; (with_reducible repeat (first | refine blk_drewN ?_ _ | refine blk_drew ?_ | refine blk_alloc ?_ _)); refine blk_far ?_ NB128_141.out _; (with_reducible repeat (first | refine blk_drewN ?_ _ | refine blk_drew ?_ | refine blk_alloc ?_ _)); refine blk_far ?_ NB128_141.out _; (with_reducible repeat (first | refine blk_drewN ?_ _ | refine blk_drew ?_ | refine blk_alloc ?_ _)); refine blk_far ?_ NB128_141.out _; (with_reducible repeat (first | refine blk_drewN ?_ _ | refine blk_drew ?_ | refine blk_alloc ?_ _)); refine blk_far ?_ NB128_141.out _; (with_reducible repeat (first | refine blk_drewN ?_ _ | refine blk_drew ?_ | refine blk_alloc ?_ _)); exact BK128.out) Tryd.underlying33 rfl (by kernel_rfl)) rfl ?_
                            exact ⟨by first | rfl | (simp [errW_none, errW_some] <;> rfl) | (simp [*, errW_none, errW_some] <;> rfl), by repeat (first | (with_reducible first | exact HB.out | apply below_alloc | apply pw_below_drewN | apply below_drew1 | refine below_set ?_ GE128.out | refine below_set ?_ GE141.out) | exact HB.out)⟩
                          · replace c32 := Bool.eq_false_iff.mpr c32
                            subst c32
                            have H1 : (some (0, 0, (⟨#[]⟩ : ByteArray), 0, 0, a1, 42)) = some (r1, r2, r3, r4, r5, r6, r7) := by rw [if_neg (show ¬ (false = true) by decide)] at H; exact H
                            clear H
                            have H := H1
                            clear H1
                            simp only [Option.some.injEq, Prod.mk.injEq] at H
                            obtain ⟨rfl, rfl, rfl, rfl, rfl, rfl, rfl⟩ := H
                            go_wp2_with (first | ((with_reducible refine gate_callee (f := 70) rfl ?_); refine goesL_ (some 84) rfl rfl Tryd.func70 (by kernel_rfl) rfl #[.string (a0.extract (a1 : Int).toNat ((wrap64 (a1 + t129)) : Int).toNat), .bool x10_6, .string x11_11, .bool t133] rfl (by (try simp only [List.map_toArray, List.map_cons, List.map_nil]); first | done | rfl | (simp only [List.length_drop, List.length_take]; rfl)) ?_; (with_reducible refine (levyref4_numbered.calls kj21 (a0.extract (a1 : Int).toNat ((wrap64 (a1 + t129)) : Int).toNat) x10_6 x11_11 t133 t135 t136 t137 t138 t139 false _ A31.out).mono ?_); rintro e w38 ⟨rfl, hb⟩; refine ⟨_, rfl, ?_⟩; have n0_ := Aside0.mk (blk_below (g := gb128) (o := .cells #[.int .i64 0, .int .i64 0, .string (⟨#[]⟩ : ByteArray), .int .i64 0, .int .i64 0] 33 (0, 0)) (by (with_reducible repeat (first | refine blk_drewN ?_ _ | refine blk_drew ?_ | refine blk_alloc ?_ _)); exact BK128.out) hb); have n1_ := Aside0.mk (below_step (by repeat (first | (with_reducible first | exact HB.out | apply below_alloc | apply pw_below_drewN | apply below_drew1 | refine below_set ?_ GE128.out) | exact HB.out)) hb); clear BK128; clear HB; have BK128 := n0_; have HB := n1_; clear n0_ n1_; (try clear hb); (try clear hb2); (try clear hk); (try clear hi)) | ((with_reducible refine gate_dst (N := 14) rfl ?_); refine box_event ?hg (N := 14) ?hd (cs := #[.int .i64 0, .int .i64 0, .string (⟨#[]⟩ : ByteArray), .int .i64 0, .int .i64 0]) (t := 33) ?hr ?_; (case hd => rfl); (case hg => rfl); (case hr => first | (go_simp; done) | (go_simp; rfl)); intro gb141 hg w39 hbox hb; have n0_ := Aside0.mk (blk_below (g := gb128) (o := .cells #[.int .i64 0, .int .i64 0, .string (⟨#[]⟩ : ByteArray), .int .i64 0, .int .i64 0] 33 (0, 0)) (by (with_reducible repeat (first | refine blk_drewN ?_ _ | refine blk_drew ?_ | refine blk_alloc ?_ _)); exact BK128.out) hb); have n1_ := Aside0.mk (below_step (by repeat (first | (with_reducible first | exact HB.out | apply below_alloc | apply pw_below_drewN | apply below_drew1 | refine below_set ?_ GE128.out) | exact HB.out)) hb); have n2_ := Aside0.mk (hbox); have n3_ := Aside0.mk ((by rw [hg]; exact (below_size (by repeat (first | (with_reducible first | exact HB.out | apply below_alloc | apply pw_below_drewN | apply below_drew1 | refine below_set ?_ GE128.out) | exact HB.out))) : w.heap.size ≤ gb141)); have n4_ := Aside0.mk ((by rw [hg]; exact (below_size (by repeat (first | (with_reducible first | exact HB.out | apply below_alloc | apply pw_below_drewN | apply below_drew1 | refine below_set ?_ GE128.out) | exact HB.out))) : w.heap.size ≤ gb141)); have n5_ := Aside0.mk ((by rw [hg]; exact Nat.ne_of_lt (blk_lt (g := gb128) (o := .cells #[.int .i64 0, .int .i64 0, .string (⟨#[]⟩ : ByteArray), .int .i64 0, .int .i64 0] 33 (0, 0)) (by (with_reducible repeat (first | refine blk_drewN ?_ _ | refine blk_drew ?_ | refine blk_alloc ?_ _)); exact BK128.out)) : gb128 ≠ gb141)); have n6_ := Aside0.mk ((by rw [hg]; exact Nat.ne_of_gt (blk_lt (g := gb128) (o := .cells #[.int .i64 0, .int .i64 0, .string (⟨#[]⟩ : ByteArray), .int .i64 0, .int .i64 0] 33 (0, 0)) (by (with_reducible repeat (first | refine blk_drewN ?_ _ | refine blk_drew ?_ | refine blk_alloc ?_ _)); exact BK128.out)) : gb141 ≠ gb128)); clear BK128; clear HB; have BK128 := n0_; have HB := n1_; have BK141 := n2_; have GW141 := n3_; have GE141 := n4_; have NB128_141 := n5_; have NB141_128 := n6_; clear n0_ n1_ n2_ n3_ n4_ n5_ n6_; clear hb hbox hg; have hnb40 := NB141_128.out; have hnc40 := NB128_141.out; have hcz41_0 : w39.cell? ⟨gb141, 0, none⟩ = some (.int .i64 0) := (blk_cell BK141.out 0).trans rfl; have hcz41_1 : w39.cell? ⟨gb141, 1, none⟩ = some (.int .i64 0) := (blk_cell BK141.out 1).trans rfl; have hcz41_2 : w39.cell? ⟨gb141, 2, none⟩ = some (.string (⟨#[]⟩ : ByteArray)) := (blk_cell BK141.out 2).trans rfl; have hcz41_3 : w39.cell? ⟨gb141, 3, none⟩ = some (.int .i64 0) := (blk_cell BK141.out 3).trans rfl; have hcz41_4 : w39.cell? ⟨gb141, 4, none⟩ = some (.int .i64 0) := (blk_cell BK141.out 4).trans rfl; have hfz41_0 := blk_frozen BK141.out 0; have hfz41_1 := blk_frozen BK141.out 1; have hfz41_2 := blk_frozen BK141.out 2; have hfz41_3 := blk_frozen BK141.out 3; have hfz41_4 := blk_frozen BK141.out 4; have hcz42_0 : w39.cell? ⟨gb128, 0, none⟩ = some (.int .i64 0) := (blk_cell BK128.out 0).trans rfl; have hcz42_1 : w39.cell? ⟨gb128, 1, none⟩ = some (.int .i64 0) := (blk_cell BK128.out 1).trans rfl; have hcz42_2 : w39.cell? ⟨gb128, 2, none⟩ = some (.string (⟨#[]⟩ : ByteArray)) := (blk_cell BK128.out 2).trans rfl; have hcz42_3 : w39.cell? ⟨gb128, 3, none⟩ = some (.int .i64 0) := (blk_cell BK128.out 3).trans rfl; have hcz42_4 : w39.cell? ⟨gb128, 4, none⟩ = some (.int .i64 0) := (blk_cell BK128.out 4).trans rfl; have hfz42_0 := blk_frozen BK128.out 0; have hfz42_1 := blk_frozen BK128.out 1; have hfz42_2 := blk_frozen BK128.out 2; have hfz42_3 := blk_frozen BK128.out 3; have hfz42_4 := blk_frozen BK128.out 4))
                            refine bodyPost_ret (results_ctt rfl _ _ gb128 33 #[.int .i64 0, .int .i64 0, .string (⟨#[]⟩ : ByteArray), .int .i64 0, .int .i64 0] (0, 0) _ rfl (by (with_reducible repeat (first | refine blk_drewN ?_ _ | refine blk_drew ?_ | refine blk_alloc ?_ _)); refine blk_put (cs := #[.int .i64 0, .int .i64 0, .string (⟨#[]⟩ : ByteArray), .int .i64 0, .int .i64 0]) ?_ 4 _ rfl; (with_reducible repeat (first | refine blk_drewN ?_ _ | refine blk_drew ?_ | refine blk_alloc ?_ _)); refine blk_put (cs := #[.int .i64 0, .int .i64 0, .string (⟨#[]⟩ : ByteArray), .int .i64 0, .int .i64 0]) ?_ 3 _ rfl; (with_reducible repeat (first | refine blk_drewN ?_ _ | refine blk_drew ?_ | refine blk_alloc ?_ _)); refine blk_put (cs := #[.int .i64 0, .int .i64 0, .string (⟨#[]⟩ : ByteArray), .int .i64 0, .int .i64 0]) ?_ 2 _ rfl; (with_reducible repeat (first | refine blk_drewN ?_ _ | refine blk_drew ?_ | refine blk_alloc ?_ _)); refine blk_put (cs := #[.int .i64 0, .int .i64 0, .string (⟨#[]⟩ : ByteArray), .int .i64 0, .int .i64 0]) ?_ 1 _ rfl; (with_reducible repeat (first | refine blk_drewN ?_ _ | refine blk_drew ?_ | refine blk_alloc ?_ _)); refine blk_put (cs := #[.int .i64 0, .int .i64 0, .string (⟨#[]⟩ : ByteArray), .int .i64 0, .int .i64 0]) ?_ 0 _ rfl; (with_reducible repeat (first | refine blk_drewN ?_ _ | refine blk_drew ?_ | refine blk_alloc ?_ _)); refine blk_far ?_ NB128_141.out _; (with_reducible repeat (first | refine blk_drewN ?_ _ | refine blk_drew ?_ | refine blk_alloc ?_ _)); refine blk_far ?_ NB128_141.out _; (with_reducible repeat (first | refine blk_drewN ?_ _ | refine blk_drew ?_ | refine blk_alloc ?_ _)); refine blk_far ?_ NB128_141.out _; (with_reducible repeat (first | refine blk_drewN ?_ _ | refine blk_drew ?_ | refine blk_alloc ?_ _)); refine blk_far ?_ NB128_141.out _; (with_reducible repeat (first | refine blk_drewN ?_ _ | refine blk_drew ?_ | refine blk_alloc ?_ _)); refine blk_far ?_ NB128_141.out _; (with_reducible repeat (first | refine blk_drewN ?_ _ | refine blk_drew ?_ | refine blk_alloc ?_ _)); exact BK128.out) Tryd.underlying33 rfl (by kernel_rfl)) rfl ?_
                            exact ⟨by first | rfl | (simp [errW_none, errW_some] <;> rfl) | (simp [*, errW_none, errW_some] <;> rfl), by repeat (first | (with_reducible first | exact HB.out | apply below_alloc | apply pw_below_drewN | apply below_drew1 | refine below_set ?_ GE128.out | refine below_set ?_ GE141.out) | exact HB.out)⟩
      · rw [if_neg c6] at H
        exact absurd H (by simp)
    · rw [if_neg c5] at H
      exact absurd H (by simp)
  · rw [if_neg c4] at H
    exact absurd H (by simp)

end Go.Proofs.YtidbcenbcllfnaaDoor.PA
