/- The Go functions of this seat that the laws of part A come to, each as a plain Lean function ('f', its loops 'l0' ..) with a proof that the call comes to its answer. Conditions: where a function comes to a package-level table, the world holds that table ('Tabs'). Written by a program of this session (a changed copy of the print). -/
import Derived.Test.YtidbcenbcllfnaaDoorQPAx0
import Derived.Test.YtidbcenbcllfnaaDoorQPAx2
import Derived.Test.YtidbcenbcllfnaaDoorQPAx3
import Derived.Test.YtidbcenbcllfnaaDoorQPAx7
import Derived.Test.YtidbcenbcllfnaaDoorQPAx9
import Derived.Test.YtidbcenbcllfnaaDoorQPAx10
namespace Go.Proofs.YtidbcenbcllfnaaDoor.PA
open Go.RowKit Go.Proofs.YtidbcenbcllfnaaDoorW.PrintWords Go.Proofs.YtidbcenbcllfnaaDoorW.PrintLast Go.Proofs.YtidbcenbcllfnaaDoorW.PrintMore
attribute [local go_sem] max2_int min2_int max_two min_two max_three min_three max_four min_four   -- for this text's walks alone
set_option linter.unusedVariables false
set_option linter.unusedSimpArgs false

/-! ### levyref4_word: function 27 -/
mutual
def levyref4_word.j0 : Nat → ByteArray → Int → Bool → Option (Int × Int × ByteArray × Int × Int × Int × Int)
  | 0, _, _, _ => none
  | k + 1, x0, x1, x31 => if x31 = true then ((levyref4_dated.f k x0 x1).bind fun bt150 => (some (bt150.1, bt150.2.1, bt150.2.2.1, bt150.2.2.2.1, bt150.2.2.2.2.1, bt150.2.2.2.2.2.1, bt150.2.2.2.2.2.2))) else (if 0 ≤ x1 then (if x1 < (x0.size : Int) then ((levyref4_isDigit.f (bt x0 x1)).bind fun t157 => (if t157 = true then ((levyref4_number.f k x0 x1).bind fun bt158 => (some (bt158.1, bt158.2.1, bt158.2.2.1, bt158.2.2.2.1, bt158.2.2.2.2.1, bt158.2.2.2.2.2.1, bt158.2.2.2.2.2.2))) else (if (bt x0 x1) = 34 then ((levyref4_text.f k x0 x1).bind fun bt165 => (some (bt165.1, bt165.2.1, bt165.2.2.1, bt165.2.2.2.1, bt165.2.2.2.2.1, bt165.2.2.2.2.2.1, bt165.2.2.2.2.2.2))) else (levyref4_word.l0 k x0 x1 0)))) else (none)) else (none))
def levyref4_word.l0 : Nat → ByteArray → Int → Int → Option (Int × Int × ByteArray × Int × Int × Int × Int)
  | 0, _, _, _ => none
  | k + 1, x0, x1, x8 => if x8 < 15 then (if 0 ≤ x8 then ((levyref4_is.f x0 x1 (rdOf ByteArray.empty tab0 x8)).bind fun t172 => (if t172 = true then (some (7, 0, rdOf ByteArray.empty tab0 x8, 0, 0, wrap64 (x1 + ((rdOf ByteArray.empty tab0 x8).size : Int)), 0)) else (levyref4_word.l0 k x0 x1 (wrap64 (x8 + 1))))) else (none)) else (some (0, 0, (⟨#[]⟩ : ByteArray), 0, 0, x1, 41))
end
def levyref4_word.f (k : Nat) (a0 : ByteArray) (a1 : Int) : Option (Int × Int × ByteArray × Int × Int × Int × Int) := if 0 ≤ a1 then (if a1 < (a0.size : Int) then ((levyref4_isLetter.f (bt a0 a1)).bind fun t146 => (if t146 = true then ((levyref4_run.f k a0 a1 2).bind fun t147 => (if t147 > 12 then (some (0, 0, (⟨#[]⟩ : ByteArray), 0, 0, a1, 40)) else (if a1 ≤ (wrap64 (a1 + t147)) then (if (wrap64 (a1 + t147)) ≤ (a0.size : Int) then (some (1, 0, a0.extract (a1 : Int).toNat ((wrap64 (a1 + t147)) : Int).toNat, 0, 0, wrap64 (a1 + t147), 0)) else (none)) else (none)))) else ((levyref4_isDigit.f (bt a0 a1)).bind fun t148 => (if t148 = true then ((levyref4_dateAt.f k a0 a1).bind fun t149 => (levyref4_word.j0 k a0 a1 t149)) else (levyref4_word.j0 k a0 a1 false))))) else (none)) else (none)
theorem levyref4_word.mono_l : ∀ k, (∀ y0 y1 y2, LeO (levyref4_word.j0 k y0 y1 y2) (levyref4_word.j0 (k + 1) y0 y1 y2)) ∧ (∀ y0 y1 y2, LeO (levyref4_word.l0 k y0 y1 y2) (levyref4_word.l0 (k + 1) y0 y1 y2))
  | 0 => ⟨fun _ _ _ r h => by simp [levyref4_word.j0] at h, fun _ _ _ r h => by simp [levyref4_word.l0] at h⟩
  | k + 1 => by
    obtain ⟨ih0, ih1⟩ := levyref4_word.mono_l k
    refine ⟨?_, ?_⟩
    · intro y0 y1 y2
      unfold levyref4_word.j0
      repeat' first
      | (with_reducible exact ih0 _ _ _)
      | (with_reducible exact ih1 _ _ _)
      | (with_reducible exact levyref4_dateAt.mono _ _ _)
      | (with_reducible exact levyref4_dated.mono _ _ _)
      | (with_reducible exact levyref4_number.mono _ _ _)
      | (with_reducible exact levyref4_run.mono _ _ _ _)
      | (with_reducible exact levyref4_text.mono _ _ _)
      | (with_reducible exact LeO.refl _)
      | (with_reducible exact LeO.none _)
      | (with_reducible refine LeO.ite ?_ ?_)
      | (with_reducible refine LeO.bind ?_ (fun _ => ?_))
      | exact ih0 _ _ _
      | exact ih1 _ _ _
      | exact levyref4_dateAt.mono _ _ _
      | exact levyref4_dated.mono _ _ _
      | exact levyref4_number.mono _ _ _
      | exact levyref4_run.mono _ _ _ _
      | exact levyref4_text.mono _ _ _
      | exact LeO.none _
      | refine LeO.ite ?_ ?_
      | refine LeO.bind ?_ (fun _ => ?_)
    · intro y0 y1 y2
      unfold levyref4_word.l0
      repeat' first
      | (with_reducible exact ih0 _ _ _)
      | (with_reducible exact ih1 _ _ _)
      | (with_reducible exact levyref4_dateAt.mono _ _ _)
      | (with_reducible exact levyref4_dated.mono _ _ _)
      | (with_reducible exact levyref4_number.mono _ _ _)
      | (with_reducible exact levyref4_run.mono _ _ _ _)
      | (with_reducible exact levyref4_text.mono _ _ _)
      | (with_reducible exact LeO.refl _)
      | (with_reducible exact LeO.none _)
      | (with_reducible refine LeO.ite ?_ ?_)
      | (with_reducible refine LeO.bind ?_ (fun _ => ?_))
      | exact ih0 _ _ _
      | exact ih1 _ _ _
      | exact levyref4_dateAt.mono _ _ _
      | exact levyref4_dated.mono _ _ _
      | exact levyref4_number.mono _ _ _
      | exact levyref4_run.mono _ _ _ _
      | exact levyref4_text.mono _ _ _
      | exact LeO.none _
      | refine LeO.ite ?_ ?_
      | refine LeO.bind ?_ (fun _ => ?_)
theorem levyref4_word.mono : ∀ a0 a1 k, LeO (levyref4_word.f k a0 a1) (levyref4_word.f (k + 1) a0 a1) := by
  intro a0 a1 k
  obtain ⟨ih0, ih1⟩ := levyref4_word.mono_l k
  unfold levyref4_word.f
  repeat' first
      | (with_reducible exact ih0 _ _ _)
      | (with_reducible exact ih1 _ _ _)
      | (with_reducible exact levyref4_dateAt.mono _ _ _)
      | (with_reducible exact levyref4_dated.mono _ _ _)
      | (with_reducible exact levyref4_number.mono _ _ _)
      | (with_reducible exact levyref4_run.mono _ _ _ _)
      | (with_reducible exact levyref4_text.mono _ _ _)
      | (with_reducible exact LeO.refl _)
      | (with_reducible exact LeO.none _)
      | (with_reducible refine LeO.ite ?_ ?_)
      | (with_reducible refine LeO.bind ?_ (fun _ => ?_))
      | exact ih0 _ _ _
      | exact ih1 _ _ _
      | exact levyref4_dateAt.mono _ _ _
      | exact levyref4_dated.mono _ _ _
      | exact levyref4_number.mono _ _ _
      | exact levyref4_run.mono _ _ _ _
      | exact levyref4_text.mono _ _ _
      | exact LeO.none _
      | refine LeO.ite ?_ ?_
      | refine LeO.bind ?_ (fun _ => ?_)
def levyref4_word.T16 : Bool × List (List Nat × List Nat) := (true, [([], []), ([0], [0]), ([1], [1]), ([2], [2]), ([], []), ([], []), ([5], [5]), ([6], [6]), ([7], [7]), ([4, 8], [4, 8]), ([3, 0, 1, 2, 3], [3]), ([9, 10, 0, 1, 2, 3, 4, 5, 6, 7, 8, 9, 10], [9]), ([11, 0, 1, 2, 3, 4, 5, 6, 7, 8, 9, 10, 11], [])])
def levyref4_word.B16 : List Nat := [0, 1, 3, 7, 0, 0, 32, 96, 224, 496, 15, 2047, 4095]
theorem levyref4_word.tab16 : rtab .any (opsOf Tryd.f27 16) = levyref4_word.T16 := by kernel_rfl
theorem levyref4_word.bits16 : waitsOk levyref4_word.T16.2 levyref4_word.B16 = true := by kernel_rfl
set_option maxHeartbeats 8000000 in
set_option maxRecDepth 100000 in
theorem levyref4_word.calls (k : Nat) (a0 : ByteArray) (a1 : Int) (r1 : Int) (r2 : Int) (r3 : ByteArray) (r4 : Int) (r5 : Int) (r6 : Int) (r7 : Int) (w : World) (hT : Tabs w) (h : levyref4_word.f k a0 a1 = some (r1, r2, r3, r4, r5, r6, r7)) :
    Calls Tryd.prog 27 #[.string a0, .int .i64 a1] w fun e w' => e = .returned (.tuple #[.agg #[.int .i64 r1, .int .i64 r2, .string r3, .int .i64 r4, .int .i64 r5], .int .i64 r6, .int .i64 r7]) ∧ Below w.heap.size w w' := by
  have hu33 := Tryd.underlying33
  have HB := Aside0.mk (Below.refl w.heap.size w)
  have HT := Aside0.mk hT
  clear hT
  have H : (if 0 ≤ a1 then (if a1 < (a0.size : Int) then ((levyref4_isLetter.f (bt a0 a1)).bind fun t146 => (if t146 = true then ((levyref4_run.f k a0 a1 2).bind fun t147 => (if t147 > 12 then (some (0, 0, (⟨#[]⟩ : ByteArray), 0, 0, a1, 40)) else (if a1 ≤ (wrap64 (a1 + t147)) then (if (wrap64 (a1 + t147)) ≤ (a0.size : Int) then (some (1, 0, a0.extract (a1 : Int).toNat ((wrap64 (a1 + t147)) : Int).toNat, 0, 0, wrap64 (a1 + t147), 0)) else (none)) else (none)))) else ((levyref4_isDigit.f (bt a0 a1)).bind fun t148 => (if t148 = true then ((levyref4_dateAt.f k a0 a1).bind fun t149 => (levyref4_word.j0 k a0 a1 t149)) else (levyref4_word.j0 k a0 a1 false))))) else (none)) else (none)) = some (r1, r2, r3, r4, r5, r6, r7) := h
  clear h
  by_cases c3 : 0 ≤ a1
  · rw [if_pos c3] at H
    have c3b0 : decide (0 ≤ a1) = true := decide_eq_true c3
    clear c3
    by_cases c4 : a1 < (a0.size : Int)
    · rw [if_pos c4] at H
      have c4b0 : decide (a1 < (a0.size : Int)) = true := decide_eq_true c4
      clear c4
      replace H := Option.bind_eq_some_iff.mp H
      obtain ⟨t146, A60, H⟩ := H
      replace H : (if t146 = true then ((levyref4_run.f k a0 a1 2).bind fun t147 => (if t147 > 12 then (some (0, 0, (⟨#[]⟩ : ByteArray), 0, 0, a1, 40)) else (if a1 ≤ (wrap64 (a1 + t147)) then (if (wrap64 (a1 + t147)) ≤ (a0.size : Int) then (some (1, 0, a0.extract (a1 : Int).toNat ((wrap64 (a1 + t147)) : Int).toNat, 0, 0, wrap64 (a1 + t147), 0)) else (none)) else (none)))) else ((levyref4_isDigit.f (bt a0 a1)).bind fun t148 => (if t148 = true then ((levyref4_dateAt.f k a0 a1).bind fun t149 => (levyref4_word.j0 k a0 a1 t149)) else (levyref4_word.j0 k a0 a1 false)))) = some (r1, r2, r3, r4, r5, r6, r7) := H
      have A6 := Aside0.mk A60
      clear A60
      by_cases c7 : t146 = true
      · subst c7
        have H1 : ((levyref4_run.f k a0 a1 2).bind fun t147 => (if t147 > 12 then (some (0, 0, (⟨#[]⟩ : ByteArray), 0, 0, a1, 40)) else (if a1 ≤ (wrap64 (a1 + t147)) then (if (wrap64 (a1 + t147)) ≤ (a0.size : Int) then (some (1, 0, a0.extract (a1 : Int).toNat ((wrap64 (a1 + t147)) : Int).toNat, 0, 0, wrap64 (a1 + t147), 0)) else (none)) else (none)))) = some (r1, r2, r3, r4, r5, r6, r7) := by rw [if_pos rfl] at H; exact H
        clear H
        have H := H1
        clear H1
        replace H := Option.bind_eq_some_iff.mp H
        obtain ⟨t147, A80, H⟩ := H
        replace H : (if t147 > 12 then (some (0, 0, (⟨#[]⟩ : ByteArray), 0, 0, a1, 40)) else (if a1 ≤ (wrap64 (a1 + t147)) then (if (wrap64 (a1 + t147)) ≤ (a0.size : Int) then (some (1, 0, a0.extract (a1 : Int).toNat ((wrap64 (a1 + t147)) : Int).toNat, 0, 0, wrap64 (a1 + t147), 0)) else (none)) else (none))) = some (r1, r2, r3, r4, r5, r6, r7) := H
        have A8 := Aside0.mk A80
        clear A80
        by_cases c9 : t147 > 12
        · rw [if_pos c9] at H
          have c9b0 : decide (12 < t147) = true := decide_eq_true c9
          clear c9
          simp only [Option.some.injEq, Prod.mk.injEq] at H
          obtain ⟨rfl, rfl, rfl, rfl, rfl, rfl, rfl⟩ := H
          go_enter Tryd.func27, Tryd.ntmps27
          go_wp2_with (first | ((with_reducible refine gate_dst (N := 4) rfl ?_); refine box_event ?hg (N := 4) ?hd (cs := #[.int .i64 0, .int .i64 0, .string (⟨#[]⟩ : ByteArray), .int .i64 0, .int .i64 0]) (t := 33) ?hr ?_; (case hd => rfl); (case hg => rfl); (case hr => first | (go_simp; done) | (go_simp; rfl)); intro gb145 hg w10 hbox hb; have n0_ := Aside0.mk (below_step (by repeat (first | (with_reducible first | exact HB.out | apply below_alloc | apply pw_below_drewN | apply below_drew1) | exact HB.out)) hb); have n1_ := Aside0.mk (hbox); have n2_ := Aside0.mk ((by rw [hg]; exact (below_size (by repeat (first | (with_reducible first | exact HB.out | apply below_alloc | apply pw_below_drewN | apply below_drew1) | exact HB.out))) : w.heap.size ≤ gb145)); have n3_ := Aside0.mk ((by rw [hg]; exact (below_size (by repeat (first | (with_reducible first | exact HB.out | apply below_alloc | apply pw_below_drewN | apply below_drew1) | exact HB.out))) : w.heap.size ≤ gb145)); clear HB; have HB := n0_; have BK145 := n1_; have GW145 := n2_; have GE145 := n3_; clear n0_ n1_ n2_ n3_; clear hb hbox hg; have p5 : 0 ≤ (a1 : Int) := of_decide_eq_true (by first | (with_reducible assumption) | assumption); have q5 : a1 < (a0.size : Int) := of_decide_eq_true (by first | (with_reducible assumption) | assumption); have hx5 := bt_at a0 a1; replace p5 := eq_true p5; replace q5 := eq_true q5) | ((with_reducible refine gate_callee (f := 42) rfl ?_); refine goesL_ (some 13) rfl rfl Tryd.func42 (by kernel_rfl) rfl #[.int .u8 (bt a0 a1)] rfl (by (try simp only [List.map_toArray, List.map_cons, List.map_nil]); first | done | rfl | (simp only [List.length_drop, List.length_take]; rfl)) ?_; (with_reducible refine (levyref4_isLetter.calls (bt a0 a1) true _ A6.out).mono ?_); rintro e w' ⟨rfl, ⟨nd, rfl⟩⟩; refine ⟨_, rfl, ?_⟩; (try (rw [drewN_self w10]; generalize hq_ : World.drewN w10 _ = w10; have n0_ : Aside0 (w10.heap[gb145]? = some (.cells #[.int .i64 0, .int .i64 0, .string (⟨#[]⟩ : ByteArray), .int .i64 0, .int .i64 0] 33 (0, 0))) := ⟨by rw [← hq_]; exact (by (with_reducible repeat (first | refine blk_drewN ?_ _ | refine blk_drew ?_ | refine blk_alloc ?_ _)); exact BK145.out)⟩; have n1_ : Aside0 (Below w.heap.size w w10) := ⟨by rw [← hq_]; exact (by repeat (first | (with_reducible first | exact HB.out | apply below_alloc | apply pw_below_drewN | apply below_drew1 | refine below_set ?_ GE145.out) | exact HB.out))⟩; clear BK145 HB hq_; have BK145 := n0_; have HB := n1_; clear n0_ n1_))) | ((with_reducible refine gate_callee (f := 43) rfl ?_); refine goesL_ (some 16) rfl rfl Tryd.func43 (by kernel_rfl) rfl #[.string a0, .int .i64 a1, .int .i64 2] rfl (by (try simp only [List.map_toArray, List.map_cons, List.map_nil]); first | done | rfl | (simp only [List.length_drop, List.length_take]; rfl)) ?_; (with_reducible refine (levyref4_run.calls k a0 a1 2 t147 _ A8.out).mono ?_); rintro e w' ⟨rfl, ⟨nd, rfl⟩⟩; refine ⟨_, rfl, ?_⟩; (try (rw [drewN_self w10]; generalize hq_ : World.drewN w10 _ = w10; have n0_ : Aside0 (w10.heap[gb145]? = some (.cells #[.int .i64 0, .int .i64 0, .string (⟨#[]⟩ : ByteArray), .int .i64 0, .int .i64 0] 33 (0, 0))) := ⟨by rw [← hq_]; exact (by (with_reducible repeat (first | refine blk_drewN ?_ _ | refine blk_drew ?_ | refine blk_alloc ?_ _)); exact BK145.out)⟩; have n1_ : Aside0 (Below w.heap.size w w10) := ⟨by rw [← hq_]; exact (by repeat (first | (with_reducible first | exact HB.out | apply below_alloc | apply pw_below_drewN | apply below_drew1 | refine below_set ?_ GE145.out) | exact HB.out))⟩; clear BK145 HB hq_; have BK145 := n0_; have HB := n1_; clear n0_ n1_)); have hcz11_0 : w10.cell? ⟨gb145, 0, none⟩ = some (.int .i64 0) := (blk_cell BK145.out 0).trans rfl; have hcz11_1 : w10.cell? ⟨gb145, 1, none⟩ = some (.int .i64 0) := (blk_cell BK145.out 1).trans rfl; have hcz11_2 : w10.cell? ⟨gb145, 2, none⟩ = some (.string (⟨#[]⟩ : ByteArray)) := (blk_cell BK145.out 2).trans rfl; have hcz11_3 : w10.cell? ⟨gb145, 3, none⟩ = some (.int .i64 0) := (blk_cell BK145.out 3).trans rfl; have hcz11_4 : w10.cell? ⟨gb145, 4, none⟩ = some (.int .i64 0) := (blk_cell BK145.out 4).trans rfl; have hfz11_0 := blk_frozen BK145.out 0; have hfz11_1 := blk_frozen BK145.out 1; have hfz11_2 := blk_frozen BK145.out 2; have hfz11_3 := blk_frozen BK145.out 3; have hfz11_4 := blk_frozen BK145.out 4))
          refine bodyPost_ret (results_ctt rfl _ _ gb145 33 #[.int .i64 0, .int .i64 0, .string (⟨#[]⟩ : ByteArray), .int .i64 0, .int .i64 0] (0, 0) _ rfl (by (with_reducible repeat (first | refine blk_drewN ?_ _ | refine blk_drew ?_ | refine blk_alloc ?_ _)); refine blk_put (cs := #[.int .i64 0, .int .i64 0, .string (⟨#[]⟩ : ByteArray), .int .i64 0, .int .i64 0]) ?_ 4 _ rfl; (with_reducible repeat (first | refine blk_drewN ?_ _ | refine blk_drew ?_ | refine blk_alloc ?_ _)); refine blk_put (cs := #[.int .i64 0, .int .i64 0, .string (⟨#[]⟩ : ByteArray), .int .i64 0, .int .i64 0]) ?_ 3 _ rfl; (with_reducible repeat (first | refine blk_drewN ?_ _ | refine blk_drew ?_ | refine blk_alloc ?_ _)); refine blk_put (cs := #[.int .i64 0, .int .i64 0, .string (⟨#[]⟩ : ByteArray), .int .i64 0, .int .i64 0]) ?_ 2 _ rfl; (with_reducible repeat (first | refine blk_drewN ?_ _ | refine blk_drew ?_ | refine blk_alloc ?_ _)); refine blk_put (cs := #[.int .i64 0, .int .i64 0, .string (⟨#[]⟩ : ByteArray), .int .i64 0, .int .i64 0]) ?_ 1 _ rfl; (with_reducible repeat (first | refine blk_drewN ?_ _ | refine blk_drew ?_ | refine blk_alloc ?_ _)); refine blk_put (cs := #[.int .i64 0, .int .i64 0, .string (⟨#[]⟩ : ByteArray), .int .i64 0, .int .i64 0]) ?_ 0 _ rfl; (with_reducible repeat (first | refine blk_drewN ?_ _ | refine blk_drew ?_ | refine blk_alloc ?_ _)); exact BK145.out) Tryd.underlying33 rfl (by kernel_rfl)) rfl ?_
          exact ⟨by first | rfl | (simp [errW_none, errW_some] <;> rfl) | (simp [*, errW_none, errW_some] <;> rfl), by repeat (first | (with_reducible first | exact HB.out | apply below_alloc | apply pw_below_drewN | apply below_drew1 | refine below_set ?_ GE145.out) | exact HB.out)⟩
        · rw [if_neg c9] at H
          have c9b0 : decide (12 < t147) = false := decide_eq_false c9
          clear c9
          have c12b0 := eq_true (of_decide_eq_true (by first | (with_reducible assumption) | assumption) : 0 ≤ a1)
          by_cases c13 : a1 ≤ (wrap64 (a1 + t147))
          · rw [if_pos c13] at H
            have c13b0 := eq_true c13
            have c13b1 : decide (a1 ≤ (wrap64 (a1 + t147))) = true := decide_eq_true c13
            by_cases c14 : (wrap64 (a1 + t147)) ≤ (a0.size : Int)
            · rw [if_pos c14] at H
              have c14b0 := eq_true c14
              have c14b1 : decide ((wrap64 (a1 + t147)) ≤ (a0.size : Int)) = true := decide_eq_true c14
              simp only [Option.some.injEq, Prod.mk.injEq] at H
              obtain ⟨rfl, rfl, rfl, rfl, rfl, rfl, rfl⟩ := H
              go_enter Tryd.func27, Tryd.ntmps27
              go_wp2_with (first | ((with_reducible refine gate_dst (N := 4) rfl ?_); refine box_event ?hg (N := 4) ?hd (cs := #[.int .i64 0, .int .i64 0, .string (⟨#[]⟩ : ByteArray), .int .i64 0, .int .i64 0]) (t := 33) ?hr ?_; (case hd => rfl); (case hg => rfl); (case hr => first | (go_simp; done) | (go_simp; rfl)); intro gb145 hg w15 hbox hb; have n0_ := Aside0.mk (below_step (by repeat (first | (with_reducible first | exact HB.out | apply below_alloc | apply pw_below_drewN | apply below_drew1) | exact HB.out)) hb); have n1_ := Aside0.mk (hbox); have n2_ := Aside0.mk ((by rw [hg]; exact (below_size (by repeat (first | (with_reducible first | exact HB.out | apply below_alloc | apply pw_below_drewN | apply below_drew1) | exact HB.out))) : w.heap.size ≤ gb145)); have n3_ := Aside0.mk ((by rw [hg]; exact (below_size (by repeat (first | (with_reducible first | exact HB.out | apply below_alloc | apply pw_below_drewN | apply below_drew1) | exact HB.out))) : w.heap.size ≤ gb145)); clear HB; have HB := n0_; have BK145 := n1_; have GW145 := n2_; have GE145 := n3_; clear n0_ n1_ n2_ n3_; clear hb hbox hg; have p5 : 0 ≤ (a1 : Int) := of_decide_eq_true (by first | (with_reducible assumption) | assumption); have q5 : a1 < (a0.size : Int) := of_decide_eq_true (by first | (with_reducible assumption) | assumption); have hx5 := bt_at a0 a1; replace p5 := eq_true p5; replace q5 := eq_true q5) | ((with_reducible refine gate_callee (f := 42) rfl ?_); refine goesL_ (some 13) rfl rfl Tryd.func42 (by kernel_rfl) rfl #[.int .u8 (bt a0 a1)] rfl (by (try simp only [List.map_toArray, List.map_cons, List.map_nil]); first | done | rfl | (simp only [List.length_drop, List.length_take]; rfl)) ?_; (with_reducible refine (levyref4_isLetter.calls (bt a0 a1) true _ A6.out).mono ?_); rintro e w' ⟨rfl, ⟨nd, rfl⟩⟩; refine ⟨_, rfl, ?_⟩; (try (rw [drewN_self w15]; generalize hq_ : World.drewN w15 _ = w15; have n0_ : Aside0 (w15.heap[gb145]? = some (.cells #[.int .i64 0, .int .i64 0, .string (⟨#[]⟩ : ByteArray), .int .i64 0, .int .i64 0] 33 (0, 0))) := ⟨by rw [← hq_]; exact (by (with_reducible repeat (first | refine blk_drewN ?_ _ | refine blk_drew ?_ | refine blk_alloc ?_ _)); exact BK145.out)⟩; have n1_ : Aside0 (Below w.heap.size w w15) := ⟨by rw [← hq_]; exact (by repeat (first | (with_reducible first | exact HB.out | apply below_alloc | apply pw_below_drewN | apply below_drew1 | refine below_set ?_ GE145.out) | exact HB.out))⟩; clear BK145 HB hq_; have BK145 := n0_; have HB := n1_; clear n0_ n1_))) | ((with_reducible refine gate_callee (f := 43) rfl ?_); refine goesL_ (some 16) rfl rfl Tryd.func43 (by kernel_rfl) rfl #[.string a0, .int .i64 a1, .int .i64 2] rfl (by (try simp only [List.map_toArray, List.map_cons, List.map_nil]); first | done | rfl | (simp only [List.length_drop, List.length_take]; rfl)) ?_; (with_reducible refine (levyref4_run.calls k a0 a1 2 t147 _ A8.out).mono ?_); rintro e w' ⟨rfl, ⟨nd, rfl⟩⟩; refine ⟨_, rfl, ?_⟩; (try (rw [drewN_self w15]; generalize hq_ : World.drewN w15 _ = w15; have n0_ : Aside0 (w15.heap[gb145]? = some (.cells #[.int .i64 0, .int .i64 0, .string (⟨#[]⟩ : ByteArray), .int .i64 0, .int .i64 0] 33 (0, 0))) := ⟨by rw [← hq_]; exact (by (with_reducible repeat (first | refine blk_drewN ?_ _ | refine blk_drew ?_ | refine blk_alloc ?_ _)); exact BK145.out)⟩; have n1_ : Aside0 (Below w.heap.size w w15) := ⟨by rw [← hq_]; exact (by repeat (first | (with_reducible first | exact HB.out | apply below_alloc | apply pw_below_drewN | apply below_drew1 | refine below_set ?_ GE145.out) | exact HB.out))⟩; clear BK145 HB hq_; have BK145 := n0_; have HB := n1_; clear n0_ n1_)); have hcz16_0 : w15.cell? ⟨gb145, 0, none⟩ = some (.int .i64 0) := (blk_cell BK145.out 0).trans rfl; have hcz16_1 : w15.cell? ⟨gb145, 1, none⟩ = some (.int .i64 0) := (blk_cell BK145.out 1).trans rfl; have hcz16_2 : w15.cell? ⟨gb145, 2, none⟩ = some (.string (⟨#[]⟩ : ByteArray)) := (blk_cell BK145.out 2).trans rfl; have hcz16_3 : w15.cell? ⟨gb145, 3, none⟩ = some (.int .i64 0) := (blk_cell BK145.out 3).trans rfl; have hcz16_4 : w15.cell? ⟨gb145, 4, none⟩ = some (.int .i64 0) := (blk_cell BK145.out 4).trans rfl; have hfz16_0 := blk_frozen BK145.out 0; have hfz16_1 := blk_frozen BK145.out 1; have hfz16_2 := blk_frozen BK145.out 2; have hfz16_3 := blk_frozen BK145.out 3; have hfz16_4 := blk_frozen BK145.out 4))
              refine bodyPost_ret (results_ctt rfl _ _ gb145 33 #[.int .i64 1, .int .i64 0, .string (a0.extract (a1 : Int).toNat ((wrap64 (a1 + t147)) : Int).toNat), .int .i64 0, .int .i64 0] (0, 0) _ rfl (by (with_reducible repeat (first | refine blk_drewN ?_ _ | refine blk_drew ?_ | refine blk_alloc ?_ _)); refine blk_put (cs := #[.int .i64 1, .int .i64 0, .string (a0.extract (a1 : Int).toNat ((wrap64 (a1 + t147)) : Int).toNat), .int .i64 0, .int .i64 0]) ?_ 4 _ rfl; (with_reducible repeat (first | refine blk_drewN ?_ _ | refine blk_drew ?_ | refine blk_alloc ?_ _)); refine blk_put (cs := #[.int .i64 1, .int .i64 0, .string (a0.extract (a1 : Int).toNat ((wrap64 (a1 + t147)) : Int).toNat), .int .i64 0, .int .i64 0]) ?_ 3 _ rfl; (with_reducible repeat (first | refine blk_drewN ?_ _ | refine blk_drew ?_ | refine blk_alloc ?_ _)); refine blk_put (cs := #[.int .i64 1, .int .i64 0, .string (⟨#[]⟩ : ByteArray), .int .i64 0, .int .i64 0]) ?_ 2 _ rfl; (with_reducible repeat (first | refine blk_drewN ?_ _ | refine blk_drew ?_ | refine blk_alloc ?_ _)); refine blk_put (cs := #[.int .i64 1, .int .i64 0, .string (⟨#[]⟩ : ByteArray), .int .i64 0, .int .i64 0]) ?_ 1 _ rfl; (with_reducible repeat (first | refine blk_drewN ?_ _ | refine blk_drew ?_ | refine blk_alloc ?_ _)); refine blk_put (cs := #[.int .i64 0, .int .i64 0, .string (⟨#[]⟩ : ByteArray), .int .i64 0, .int .i64 0]) ?_ 0 _ rfl; (with_reducible repeat (first | refine blk_drewN ?_ _ | refine blk_drew ?_ | refine blk_alloc ?_ _)); exact BK145.out) Tryd.underlying33 rfl (by kernel_rfl)) rfl ?_
              exact ⟨by first | rfl | (simp [errW_none, errW_some] <;> rfl) | (simp [*, errW_none, errW_some] <;> rfl), by repeat (first | (with_reducible first | exact HB.out | apply below_alloc | apply pw_below_drewN | apply below_drew1 | refine below_set ?_ GE145.out) | exact HB.out)⟩
            · rw [if_neg c14] at H
              exact absurd H (by simp)
          · rw [if_neg c13] at H
            exact absurd H (by simp)
      · replace c7 := Bool.eq_false_iff.mpr c7
        subst c7
        have H1 : ((levyref4_isDigit.f (bt a0 a1)).bind fun t148 => (if t148 = true then ((levyref4_dateAt.f k a0 a1).bind fun t149 => (levyref4_word.j0 k a0 a1 t149)) else (levyref4_word.j0 k a0 a1 false))) = some (r1, r2, r3, r4, r5, r6, r7) := by rw [if_neg (show ¬ (false = true) by decide)] at H; exact H
        clear H
        have H := H1
        clear H1
        have HC17 := Aside0.mk H
        clear H
        go_enter Tryd.func27, Tryd.ntmps27
        go_upto_region 6 with (first | ((with_reducible refine gate_dst (N := 4) rfl ?_); refine box_event ?hg (N := 4) ?hd (cs := #[.int .i64 0, .int .i64 0, .string (⟨#[]⟩ : ByteArray), .int .i64 0, .int .i64 0]) (t := 33) ?hr ?_; (case hd => rfl); (case hg => rfl); (case hr => first | (go_simp; done) | (go_simp; rfl)); intro gb145 hg w18 hbox hb; have n0_ := Aside0.mk (below_step (by repeat (first | (with_reducible first | exact HB.out | apply below_alloc | apply pw_below_drewN | apply below_drew1) | exact HB.out)) hb); have n1_ := Aside0.mk (hbox); have n2_ := Aside0.mk ((by rw [hg]; exact (below_size (by repeat (first | (with_reducible first | exact HB.out | apply below_alloc | apply pw_below_drewN | apply below_drew1) | exact HB.out))) : w.heap.size ≤ gb145)); have n3_ := Aside0.mk ((by rw [hg]; exact (below_size (by repeat (first | (with_reducible first | exact HB.out | apply below_alloc | apply pw_below_drewN | apply below_drew1) | exact HB.out))) : w.heap.size ≤ gb145)); clear HB; have HB := n0_; have BK145 := n1_; have GW145 := n2_; have GE145 := n3_; clear n0_ n1_ n2_ n3_; clear hb hbox hg; have p5 : 0 ≤ (a1 : Int) := of_decide_eq_true (by first | (with_reducible assumption) | assumption); have q5 : a1 < (a0.size : Int) := of_decide_eq_true (by first | (with_reducible assumption) | assumption); have hx5 := bt_at a0 a1; replace p5 := eq_true p5; replace q5 := eq_true q5) | ((with_reducible refine gate_callee (f := 42) rfl ?_); refine goesL_ (some 13) rfl rfl Tryd.func42 (by kernel_rfl) rfl #[.int .u8 (bt a0 a1)] rfl (by (try simp only [List.map_toArray, List.map_cons, List.map_nil]); first | done | rfl | (simp only [List.length_drop, List.length_take]; rfl)) ?_; (with_reducible refine (levyref4_isLetter.calls (bt a0 a1) false _ A6.out).mono ?_); rintro e w' ⟨rfl, ⟨nd, rfl⟩⟩; refine ⟨_, rfl, ?_⟩))
        (try simp only [Act.put, List.setIfInBounds_toArray, List.set_cons_zero, List.set_cons_succ])
        go_cut [31] (fun v31 wc => ∃ (kq : Nat) (x31_16 : Bool), v31 = .bool x31_16 ∧ Aside0 (levyref4_word.j0 kq a0 a1 x31_16 = some (r1, r2, r3, r4, r5, r6, r7)) ∧ Aside0 (kq ≤ k) ∧ Aside0 (wc.heap[gb145]? = some (.cells #[.int .i64 0, .int .i64 0, .string (⟨#[]⟩ : ByteArray), .int .i64 0, .int .i64 0] 33 (0, 0))) ∧ Aside0 (Below w.heap.size w wc))
        case first =>
          have H := HC17.out
          clear HC17
          replace H := Option.bind_eq_some_iff.mp H
          obtain ⟨t148, A200, H⟩ := H
          replace H : (if t148 = true then ((levyref4_dateAt.f k a0 a1).bind fun t149 => (levyref4_word.j0 k a0 a1 t149)) else (levyref4_word.j0 k a0 a1 false)) = some (r1, r2, r3, r4, r5, r6, r7) := H
          have A20 := Aside0.mk A200
          clear A200
          by_cases c21 : t148 = true
          · subst c21
            have H1 : ((levyref4_dateAt.f k a0 a1).bind fun t149 => (levyref4_word.j0 k a0 a1 t149)) = some (r1, r2, r3, r4, r5, r6, r7) := by rw [if_pos rfl] at H; exact H
            clear H
            have H := H1
            clear H1
            replace H := Option.bind_eq_some_iff.mp H
            obtain ⟨t149, A220, H⟩ := H
            replace H : (levyref4_word.j0 k a0 a1 t149) = some (r1, r2, r3, r4, r5, r6, r7) := H
            have A22 := Aside0.mk A220
            clear A220
            have H' := Aside0.mk H
            clear H
            have p19 : 0 ≤ (a1 : Int) := of_decide_eq_true (by first | (with_reducible assumption) | assumption)
            have q19 : a1 < (a0.size : Int) := of_decide_eq_true (by first | (with_reducible assumption) | assumption)
            have hx19 := bt_at a0 a1
            replace p19 := eq_true p19
            replace q19 := eq_true q19
            go_wp2_with (first | ((with_reducible refine gate_callee (f := 44) rfl ?_); refine goesL_ (some 35) rfl rfl Tryd.func44 (by kernel_rfl) rfl #[.int .u8 (bt a0 a1)] rfl (by (try simp only [List.map_toArray, List.map_cons, List.map_nil]); first | done | rfl | (simp only [List.length_drop, List.length_take]; rfl)) ?_; (with_reducible refine (levyref4_isDigit.calls (bt a0 a1) true _ A20.out).mono ?_); rintro e w' ⟨rfl, ⟨nd, rfl⟩⟩; refine ⟨_, rfl, ?_⟩) | (go_at_call 45; (with_reducible refine (levyref4_dateAt.calls k a0 a1 t149 _ A22.out).mono ?_); rintro e w' ⟨rfl, ⟨nd, rfl⟩⟩))
            go_meet
            case rel => exact ⟨_, (t149), (by first | rfl | (simp; done) | (simp [*]; done)), H', ⟨by first | omega | exact Nat.le_refl _⟩, ⟨by (with_reducible repeat (first | refine blk_drewN ?_ _ | refine blk_drew ?_ | refine blk_alloc ?_ _)); exact BK145.out⟩, ⟨by repeat (first | (with_reducible first | exact HB.out | apply below_alloc | apply pw_below_drewN | apply below_drew1 | refine below_set ?_ GE145.out) | exact HB.out)⟩⟩
          · replace c21 := Bool.eq_false_iff.mpr c21
            subst c21
            have H1 : (levyref4_word.j0 k a0 a1 false) = some (r1, r2, r3, r4, r5, r6, r7) := by rw [if_neg (show ¬ (false = true) by decide)] at H; exact H
            clear H
            have H := H1
            clear H1
            have H' := Aside0.mk H
            clear H
            have p19 : 0 ≤ (a1 : Int) := of_decide_eq_true (by first | (with_reducible assumption) | assumption)
            have q19 : a1 < (a0.size : Int) := of_decide_eq_true (by first | (with_reducible assumption) | assumption)
            have hx19 := bt_at a0 a1
            replace p19 := eq_true p19
            replace q19 := eq_true q19
            go_wp2_with (first | ((with_reducible refine gate_callee (f := 44) rfl ?_); refine goesL_ (some 35) rfl rfl Tryd.func44 (by kernel_rfl) rfl #[.int .u8 (bt a0 a1)] rfl (by (try simp only [List.map_toArray, List.map_cons, List.map_nil]); first | done | rfl | (simp only [List.length_drop, List.length_take]; rfl)) ?_; (with_reducible refine (levyref4_isDigit.calls (bt a0 a1) false _ A20.out).mono ?_); rintro e w' ⟨rfl, ⟨nd, rfl⟩⟩; refine ⟨_, rfl, ?_⟩))
            go_meet
            case rel => exact ⟨_, (false), (by first | rfl | (simp; done) | (simp [*]; done)), H', ⟨by first | omega | exact Nat.le_refl _⟩, ⟨by (with_reducible repeat (first | refine blk_drewN ?_ _ | refine blk_drew ?_ | refine blk_alloc ?_ _)); exact BK145.out⟩, ⟨by repeat (first | (with_reducible first | exact HB.out | apply below_alloc | apply pw_below_drewN | apply below_drew1 | refine below_set ?_ GE145.out) | exact HB.out)⟩⟩
        case rest =>
          clear HC17
          try clear c1
          try clear p1
          try clear q1
          try clear hx1
          try clear c2
          try clear p2
          try clear c3
          try clear c3b0
          try clear c4
          try clear c4b0
          try clear p5
          try clear q5
          try clear hx5
          try clear p6
          try clear c7
          try clear c9
          try clear c9b0
          try clear c12
          try clear c12b0
          try clear c13
          try clear c13b0
          try clear c13b1
          try clear c14
          try clear c14b0
          try clear c14b1
          try clear p19
          try clear q19
          try clear hx19
          try clear c21
          try clear hcz11_0
          try clear hcz11_1
          try clear hcz11_2
          try clear hcz11_3
          try clear hcz11_4
          try clear hcz16_0
          try clear hcz16_1
          try clear hcz16_2
          try clear hcz16_3
          try clear hcz16_4
          try clear hfz11_0
          try clear hfz11_1
          try clear hfz11_2
          try clear hfz11_3
          try clear hfz11_4
          try clear hfz16_0
          try clear hfz16_1
          try clear hfz16_2
          try clear hfz16_3
          try clear hfz16_4
          try clear p19
          try clear p5
          try clear q19
          try clear q5
          obtain ⟨kq, x31_16, rfl, HA, HJ16, BK145, HB⟩ := hcut
          cases kq with
          | zero => exact absurd HA.out (by simp [levyref4_word.j0])
          | succ kj16 =>
            have H := HA.out
            clear HA
            simp only [levyref4_word.j0] at H
            by_cases c23 : x31_16 = true
            · subst c23
              have H1 : ((levyref4_dated.f kj16 a0 a1).bind fun bt150 => (some (bt150.1, bt150.2.1, bt150.2.2.1, bt150.2.2.2.1, bt150.2.2.2.2.1, bt150.2.2.2.2.2.1, bt150.2.2.2.2.2.2))) = some (r1, r2, r3, r4, r5, r6, r7) := by rw [if_pos rfl] at H; exact H
              clear H
              have H := H1
              clear H1
              replace H := Option.bind_eq_some_iff.mp H
              obtain ⟨⟨t150, t151, t152, t153, t154, t155, t156⟩, A240, H⟩ := H
              replace H : (some (t150, t151, t152, t153, t154, t155, t156)) = some (r1, r2, r3, r4, r5, r6, r7) := H
              have A24 := Aside0.mk A240
              clear A240
              simp only [Option.some.injEq, Prod.mk.injEq] at H
              obtain ⟨rfl, rfl, rfl, rfl, rfl, rfl, rfl⟩ := H
              go_wp2_with (first | ((with_reducible refine gate_callee (f := 46) rfl ?_); refine goesL_ (some 43) rfl rfl Tryd.func46 (by kernel_rfl) rfl #[.string a0, .int .i64 a1] rfl (by (try simp only [List.map_toArray, List.map_cons, List.map_nil]); first | done | rfl | (simp only [List.length_drop, List.length_take]; rfl)) ?_; (with_reducible refine (levyref4_dated.calls kj16 a0 a1 t150 t151 t152 t153 t154 t155 t156 _ A24.out).mono ?_); rintro e w25 ⟨rfl, hb⟩; refine ⟨_, rfl, ?_⟩; have n0_ := Aside0.mk (blk_below (g := gb145) (o := .cells #[.int .i64 0, .int .i64 0, .string (⟨#[]⟩ : ByteArray), .int .i64 0, .int .i64 0] 33 (0, 0)) (by (with_reducible repeat (first | refine blk_drewN ?_ _ | refine blk_drew ?_ | refine blk_alloc ?_ _)); exact BK145.out) hb); have n1_ := Aside0.mk (below_step (by repeat (first | (with_reducible first | exact HB.out | apply below_alloc | apply pw_below_drewN | apply below_drew1 | refine below_set ?_ GE145.out) | exact HB.out)) hb); clear BK145; clear HB; have BK145 := n0_; have HB := n1_; clear n0_ n1_; (try clear hb); (try clear hb2); (try clear hk); (try clear hi); have hcz26_0 : w25.cell? ⟨gb145, 0, none⟩ = some (.int .i64 0) := (blk_cell BK145.out 0).trans rfl; have hcz26_1 : w25.cell? ⟨gb145, 1, none⟩ = some (.int .i64 0) := (blk_cell BK145.out 1).trans rfl; have hcz26_2 : w25.cell? ⟨gb145, 2, none⟩ = some (.string (⟨#[]⟩ : ByteArray)) := (blk_cell BK145.out 2).trans rfl; have hcz26_3 : w25.cell? ⟨gb145, 3, none⟩ = some (.int .i64 0) := (blk_cell BK145.out 3).trans rfl; have hcz26_4 : w25.cell? ⟨gb145, 4, none⟩ = some (.int .i64 0) := (blk_cell BK145.out 4).trans rfl; have hfz26_0 := blk_frozen BK145.out 0; have hfz26_1 := blk_frozen BK145.out 1; have hfz26_2 := blk_frozen BK145.out 2; have hfz26_3 := blk_frozen BK145.out 3; have hfz26_4 := blk_frozen BK145.out 4))
              refine bodyPost_ret (results_ctt rfl _ _ gb145 33 #[.int .i64 t150, .int .i64 t151, .string t152, .int .i64 t153, .int .i64 t154] (0, 0) _ rfl (by (with_reducible repeat (first | refine blk_drewN ?_ _ | refine blk_drew ?_ | refine blk_alloc ?_ _)); refine blk_put (cs := #[.int .i64 t150, .int .i64 t151, .string t152, .int .i64 t153, .int .i64 0]) ?_ 4 _ rfl; (with_reducible repeat (first | refine blk_drewN ?_ _ | refine blk_drew ?_ | refine blk_alloc ?_ _)); refine blk_put (cs := #[.int .i64 t150, .int .i64 t151, .string t152, .int .i64 0, .int .i64 0]) ?_ 3 _ rfl; (with_reducible repeat (first | refine blk_drewN ?_ _ | refine blk_drew ?_ | refine blk_alloc ?_ _)); refine blk_put (cs := #[.int .i64 t150, .int .i64 t151, .string (⟨#[]⟩ : ByteArray), .int .i64 0, .int .i64 0]) ?_ 2 _ rfl; (with_reducible repeat (first | refine blk_drewN ?_ _ | refine blk_drew ?_ | refine blk_alloc ?_ _)); refine blk_put (cs := #[.int .i64 t150, .int .i64 0, .string (⟨#[]⟩ : ByteArray), .int .i64 0, .int .i64 0]) ?_ 1 _ rfl; (with_reducible repeat (first | refine blk_drewN ?_ _ | refine blk_drew ?_ | refine blk_alloc ?_ _)); refine blk_put (cs := #[.int .i64 0, .int .i64 0, .string (⟨#[]⟩ : ByteArray), .int .i64 0, .int .i64 0]) ?_ 0 _ rfl; (with_reducible repeat (first | refine blk_drewN ?_ _ | refine blk_drew ?_ | refine blk_alloc ?_ _)); exact BK145.out) Tryd.underlying33 rfl (by kernel_rfl)) rfl ?_
              exact ⟨by first | rfl | (simp [errW_none, errW_some] <;> rfl) | (simp [*, errW_none, errW_some] <;> rfl), by repeat (first | (with_reducible first | exact HB.out | apply below_alloc | apply pw_below_drewN | apply below_drew1 | refine below_set ?_ GE145.out) | exact HB.out)⟩
            · replace c23 := Bool.eq_false_iff.mpr c23
              subst c23
              have H1 : (if 0 ≤ a1 then (if a1 < (a0.size : Int) then ((levyref4_isDigit.f (bt a0 a1)).bind fun t157 => (if t157 = true then ((levyref4_number.f kj16 a0 a1).bind fun bt158 => (some (bt158.1, bt158.2.1, bt158.2.2.1, bt158.2.2.2.1, bt158.2.2.2.2.1, bt158.2.2.2.2.2.1, bt158.2.2.2.2.2.2))) else (if (bt a0 a1) = 34 then ((levyref4_text.f kj16 a0 a1).bind fun bt165 => (some (bt165.1, bt165.2.1, bt165.2.2.1, bt165.2.2.2.1, bt165.2.2.2.2.1, bt165.2.2.2.2.2.1, bt165.2.2.2.2.2.2))) else (levyref4_word.l0 kj16 a0 a1 0)))) else (none)) else (none)) = some (r1, r2, r3, r4, r5, r6, r7) := by rw [if_neg (show ¬ (false = true) by decide)] at H; exact H
              clear H
              have H := H1
              clear H1
              by_cases c27 : 0 ≤ a1
              · rw [if_pos c27] at H
                have c27b0 : decide (0 ≤ a1) = true := decide_eq_true c27
                clear c27
                by_cases c28 : a1 < (a0.size : Int)
                · rw [if_pos c28] at H
                  have c28b0 : decide (a1 < (a0.size : Int)) = true := decide_eq_true c28
                  clear c28
                  replace H := Option.bind_eq_some_iff.mp H
                  obtain ⟨t157, A300, H⟩ := H
                  replace H : (if t157 = true then ((levyref4_number.f kj16 a0 a1).bind fun bt158 => (some (bt158.1, bt158.2.1, bt158.2.2.1, bt158.2.2.2.1, bt158.2.2.2.2.1, bt158.2.2.2.2.2.1, bt158.2.2.2.2.2.2))) else (if (bt a0 a1) = 34 then ((levyref4_text.f kj16 a0 a1).bind fun bt165 => (some (bt165.1, bt165.2.1, bt165.2.2.1, bt165.2.2.2.1, bt165.2.2.2.2.1, bt165.2.2.2.2.2.1, bt165.2.2.2.2.2.2))) else (levyref4_word.l0 kj16 a0 a1 0))) = some (r1, r2, r3, r4, r5, r6, r7) := H
                  have A30 := Aside0.mk A300
                  clear A300
                  by_cases c31 : t157 = true
                  · subst c31
                    have H1 : ((levyref4_number.f kj16 a0 a1).bind fun bt158 => (some (bt158.1, bt158.2.1, bt158.2.2.1, bt158.2.2.2.1, bt158.2.2.2.2.1, bt158.2.2.2.2.2.1, bt158.2.2.2.2.2.2))) = some (r1, r2, r3, r4, r5, r6, r7) := by rw [if_pos rfl] at H; exact H
                    clear H
                    have H := H1
                    clear H1
                    replace H := Option.bind_eq_some_iff.mp H
                    obtain ⟨⟨t158, t159, t160, t161, t162, t163, t164⟩, A320, H⟩ := H
                    replace H : (some (t158, t159, t160, t161, t162, t163, t164)) = some (r1, r2, r3, r4, r5, r6, r7) := H
                    have A32 := Aside0.mk A320
                    clear A320
                    simp only [Option.some.injEq, Prod.mk.injEq] at H
                    obtain ⟨rfl, rfl, rfl, rfl, rfl, rfl, rfl⟩ := H
                    have p29 : 0 ≤ (a1 : Int) := of_decide_eq_true (by first | (with_reducible assumption) | assumption)
                    have q29 : a1 < (a0.size : Int) := of_decide_eq_true (by first | (with_reducible assumption) | assumption)
                    have hx29 := bt_at a0 a1
                    replace p29 := eq_true p29
                    replace q29 := eq_true q29
                    go_wp2_with (first | ((with_reducible refine gate_callee (f := 44) rfl ?_); refine goesL_ (some 51) rfl rfl Tryd.func44 (by kernel_rfl) rfl #[.int .u8 (bt a0 a1)] rfl (by (try simp only [List.map_toArray, List.map_cons, List.map_nil]); first | done | rfl | (simp only [List.length_drop, List.length_take]; rfl)) ?_; (with_reducible refine (levyref4_isDigit.calls (bt a0 a1) true _ A30.out).mono ?_); rintro e w' ⟨rfl, ⟨nd, rfl⟩⟩; refine ⟨_, rfl, ?_⟩; (try (rw [drewN_self wc]; generalize hq_ : World.drewN wc _ = wc; have n0_ : Aside0 (wc.heap[gb145]? = some (.cells #[.int .i64 0, .int .i64 0, .string (⟨#[]⟩ : ByteArray), .int .i64 0, .int .i64 0] 33 (0, 0))) := ⟨by rw [← hq_]; exact (by (with_reducible repeat (first | refine blk_drewN ?_ _ | refine blk_drew ?_ | refine blk_alloc ?_ _)); exact BK145.out)⟩; have n1_ : Aside0 (Below w.heap.size w wc) := ⟨by rw [← hq_]; exact (by repeat (first | (with_reducible first | exact HB.out | apply below_alloc | apply pw_below_drewN | apply below_drew1 | refine below_set ?_ GE145.out) | exact HB.out))⟩; clear BK145 HB hq_; have BK145 := n0_; have HB := n1_; clear n0_ n1_))) | ((with_reducible refine gate_callee (f := 47) rfl ?_); refine goesL_ (some 54) rfl rfl Tryd.func47 (by kernel_rfl) rfl #[.string a0, .int .i64 a1] rfl (by (try simp only [List.map_toArray, List.map_cons, List.map_nil]); first | done | rfl | (simp only [List.length_drop, List.length_take]; rfl)) ?_; (with_reducible refine (levyref4_number.calls kj16 a0 a1 t158 t159 t160 t161 t162 t163 t164 _ A32.out).mono ?_); rintro e w33 ⟨rfl, hb⟩; refine ⟨_, rfl, ?_⟩; have n0_ := Aside0.mk (blk_below (g := gb145) (o := .cells #[.int .i64 0, .int .i64 0, .string (⟨#[]⟩ : ByteArray), .int .i64 0, .int .i64 0] 33 (0, 0)) (by (with_reducible repeat (first | refine blk_drewN ?_ _ | refine blk_drew ?_ | refine blk_alloc ?_ _)); exact BK145.out) hb); have n1_ := Aside0.mk (below_step (by repeat (first | (with_reducible first | exact HB.out | apply below_alloc | apply pw_below_drewN | apply below_drew1 | refine below_set ?_ GE145.out) | exact HB.out)) hb); clear BK145; clear HB; have BK145 := n0_; have HB := n1_; clear n0_ n1_; (try clear hb); (try clear hb2); (try clear hk); (try clear hi); have hcz34_0 : w33.cell? ⟨gb145, 0, none⟩ = some (.int .i64 0) := (blk_cell BK145.out 0).trans rfl; have hcz34_1 : w33.cell? ⟨gb145, 1, none⟩ = some (.int .i64 0) := (blk_cell BK145.out 1).trans rfl; have hcz34_2 : w33.cell? ⟨gb145, 2, none⟩ = some (.string (⟨#[]⟩ : ByteArray)) := (blk_cell BK145.out 2).trans rfl; have hcz34_3 : w33.cell? ⟨gb145, 3, none⟩ = some (.int .i64 0) := (blk_cell BK145.out 3).trans rfl; have hcz34_4 : w33.cell? ⟨gb145, 4, none⟩ = some (.int .i64 0) := (blk_cell BK145.out 4).trans rfl; have hfz34_0 := blk_frozen BK145.out 0; have hfz34_1 := blk_frozen BK145.out 1; have hfz34_2 := blk_frozen BK145.out 2; have hfz34_3 := blk_frozen BK145.out 3; have hfz34_4 := blk_frozen BK145.out 4))
                    refine bodyPost_ret (results_ctt rfl _ _ gb145 33 #[.int .i64 t158, .int .i64 t159, .string t160, .int .i64 t161, .int .i64 t162] (0, 0) _ rfl (by (with_reducible repeat (first | refine blk_drewN ?_ _ | refine blk_drew ?_ | refine blk_alloc ?_ _)); refine blk_put (cs := #[.int .i64 t158, .int .i64 t159, .string t160, .int .i64 t161, .int .i64 0]) ?_ 4 _ rfl; (with_reducible repeat (first | refine blk_drewN ?_ _ | refine blk_drew ?_ | refine blk_alloc ?_ _)); refine blk_put (cs := #[.int .i64 t158, .int .i64 t159, .string t160, .int .i64 0, .int .i64 0]) ?_ 3 _ rfl; (with_reducible repeat (first | refine blk_drewN ?_ _ | refine blk_drew ?_ | refine blk_alloc ?_ _)); refine blk_put (cs := #[.int .i64 t158, .int .i64 t159, .string (⟨#[]⟩ : ByteArray), .int .i64 0, .int .i64 0]) ?_ 2 _ rfl; (with_reducible repeat (first | refine blk_drewN ?_ _ | refine blk_drew ?_ | refine blk_alloc ?_ _)); refine blk_put (cs := #[.int .i64 t158, .int .i64 0, .string (⟨#[]⟩ : ByteArray), .int .i64 0, .int .i64 0]) ?_ 1 _ rfl; (with_reducible repeat (first | refine blk_drewN ?_ _ | refine blk_drew ?_ | refine blk_alloc ?_ _)); refine blk_put (cs := #[.int .i64 0, .int .i64 0, .string (⟨#[]⟩ : ByteArray), .int .i64 0, .int .i64 0]) ?_ 0 _ rfl; (with_reducible repeat (first | refine blk_drewN ?_ _ | refine blk_drew ?_ | refine blk_alloc ?_ _)); exact BK145.out) Tryd.underlying33 rfl (by kernel_rfl)) rfl ?_
                    exact ⟨by first | rfl | (simp [errW_none, errW_some] <;> rfl) | (simp [*, errW_none, errW_some] <;> rfl), by repeat (first | (with_reducible first | exact HB.out | apply below_alloc | apply pw_below_drewN | apply below_drew1 | refine below_set ?_ GE145.out) | exact HB.out)⟩
                  · replace c31 := Bool.eq_false_iff.mpr c31
                    subst c31
                    have H1 : (if (bt a0 a1) = 34 then ((levyref4_text.f kj16 a0 a1).bind fun bt165 => (some (bt165.1, bt165.2.1, bt165.2.2.1, bt165.2.2.2.1, bt165.2.2.2.2.1, bt165.2.2.2.2.2.1, bt165.2.2.2.2.2.2))) else (levyref4_word.l0 kj16 a0 a1 0)) = some (r1, r2, r3, r4, r5, r6, r7) := by rw [if_neg (show ¬ (false = true) by decide)] at H; exact H
                    clear H
                    have H := H1
                    clear H1
                    by_cases c36 : (bt a0 a1) = 34
                    · rw [if_pos c36] at H
                      have c36b0 : ((bt a0 a1) == 34) = true := beq_iff_eq.mpr c36
                      have c36b1 : ((bt a0 a1) != 34) = false := bne_eq_false_iff_eq.mpr c36
                      clear c36
                      replace H := Option.bind_eq_some_iff.mp H
                      obtain ⟨⟨t165, t166, t167, t168, t169, t170, t171⟩, A370, H⟩ := H
                      replace H : (some (t165, t166, t167, t168, t169, t170, t171)) = some (r1, r2, r3, r4, r5, r6, r7) := H
                      have A37 := Aside0.mk A370
                      clear A370
                      simp only [Option.some.injEq, Prod.mk.injEq] at H
                      obtain ⟨rfl, rfl, rfl, rfl, rfl, rfl, rfl⟩ := H
                      have p29 : 0 ≤ (a1 : Int) := of_decide_eq_true (by first | (with_reducible assumption) | assumption)
                      have q29 : a1 < (a0.size : Int) := of_decide_eq_true (by first | (with_reducible assumption) | assumption)
                      have hx29 := bt_at a0 a1
                      replace p29 := eq_true p29
                      replace q29 := eq_true q29
                      go_wp2_with (first | ((with_reducible refine gate_callee (f := 44) rfl ?_); refine goesL_ (some 51) rfl rfl Tryd.func44 (by kernel_rfl) rfl #[.int .u8 (bt a0 a1)] rfl (by (try simp only [List.map_toArray, List.map_cons, List.map_nil]); first | done | rfl | (simp only [List.length_drop, List.length_take]; rfl)) ?_; (with_reducible refine (levyref4_isDigit.calls (bt a0 a1) false _ A30.out).mono ?_); rintro e w' ⟨rfl, ⟨nd, rfl⟩⟩; refine ⟨_, rfl, ?_⟩; (try (rw [drewN_self wc]; generalize hq_ : World.drewN wc _ = wc; have n0_ : Aside0 (wc.heap[gb145]? = some (.cells #[.int .i64 0, .int .i64 0, .string (⟨#[]⟩ : ByteArray), .int .i64 0, .int .i64 0] 33 (0, 0))) := ⟨by rw [← hq_]; exact (by (with_reducible repeat (first | refine blk_drewN ?_ _ | refine blk_drew ?_ | refine blk_alloc ?_ _)); exact BK145.out)⟩; have n1_ : Aside0 (Below w.heap.size w wc) := ⟨by rw [← hq_]; exact (by repeat (first | (with_reducible first | exact HB.out | apply below_alloc | apply pw_below_drewN | apply below_drew1 | refine below_set ?_ GE145.out) | exact HB.out))⟩; clear BK145 HB hq_; have BK145 := n0_; have HB := n1_; clear n0_ n1_)); have p35 : 0 ≤ (a1 : Int) := of_decide_eq_true (by first | (with_reducible assumption) | assumption); have q35 : a1 < (a0.size : Int) := of_decide_eq_true (by first | (with_reducible assumption) | assumption); have hx35 := bt_at a0 a1; replace p35 := eq_true p35; replace q35 := eq_true q35) | ((with_reducible refine gate_callee (f := 48) rfl ?_); refine goesL_ (some 65) rfl rfl Tryd.func48 (by kernel_rfl) rfl #[.string a0, .int .i64 a1] rfl (by (try simp only [List.map_toArray, List.map_cons, List.map_nil]); first | done | rfl | (simp only [List.length_drop, List.length_take]; rfl)) ?_; (with_reducible refine (levyref4_text.calls kj16 a0 a1 t165 t166 t167 t168 t169 t170 t171 _ A37.out).mono ?_); rintro e w38 ⟨rfl, hb⟩; refine ⟨_, rfl, ?_⟩; have n0_ := Aside0.mk (blk_below (g := gb145) (o := .cells #[.int .i64 0, .int .i64 0, .string (⟨#[]⟩ : ByteArray), .int .i64 0, .int .i64 0] 33 (0, 0)) (by (with_reducible repeat (first | refine blk_drewN ?_ _ | refine blk_drew ?_ | refine blk_alloc ?_ _)); exact BK145.out) hb); have n1_ := Aside0.mk (below_step (by repeat (first | (with_reducible first | exact HB.out | apply below_alloc | apply pw_below_drewN | apply below_drew1 | refine below_set ?_ GE145.out) | exact HB.out)) hb); clear BK145; clear HB; have BK145 := n0_; have HB := n1_; clear n0_ n1_; (try clear hb); (try clear hb2); (try clear hk); (try clear hi); have hcz39_0 : w38.cell? ⟨gb145, 0, none⟩ = some (.int .i64 0) := (blk_cell BK145.out 0).trans rfl; have hcz39_1 : w38.cell? ⟨gb145, 1, none⟩ = some (.int .i64 0) := (blk_cell BK145.out 1).trans rfl; have hcz39_2 : w38.cell? ⟨gb145, 2, none⟩ = some (.string (⟨#[]⟩ : ByteArray)) := (blk_cell BK145.out 2).trans rfl; have hcz39_3 : w38.cell? ⟨gb145, 3, none⟩ = some (.int .i64 0) := (blk_cell BK145.out 3).trans rfl; have hcz39_4 : w38.cell? ⟨gb145, 4, none⟩ = some (.int .i64 0) := (blk_cell BK145.out 4).trans rfl; have hfz39_0 := blk_frozen BK145.out 0; have hfz39_1 := blk_frozen BK145.out 1; have hfz39_2 := blk_frozen BK145.out 2; have hfz39_3 := blk_frozen BK145.out 3; have hfz39_4 := blk_frozen BK145.out 4))
                      refine bodyPost_ret (results_ctt rfl _ _ gb145 33 #[.int .i64 t165, .int .i64 t166, .string t167, .int .i64 t168, .int .i64 t169] (0, 0) _ rfl (by (with_reducible repeat (first | refine blk_drewN ?_ _ | refine blk_drew ?_ | refine blk_alloc ?_ _)); refine blk_put (cs := #[.int .i64 t165, .int .i64 t166, .string t167, .int .i64 t168, .int .i64 0]) ?_ 4 _ rfl; (with_reducible repeat (first | refine blk_drewN ?_ _ | refine blk_drew ?_ | refine blk_alloc ?_ _)); refine blk_put (cs := #[.int .i64 t165, .int .i64 t166, .string t167, .int .i64 0, .int .i64 0]) ?_ 3 _ rfl; (with_reducible repeat (first | refine blk_drewN ?_ _ | refine blk_drew ?_ | refine blk_alloc ?_ _)); refine blk_put (cs := #[.int .i64 t165, .int .i64 t166, .string (⟨#[]⟩ : ByteArray), .int .i64 0, .int .i64 0]) ?_ 2 _ rfl; (with_reducible repeat (first | refine blk_drewN ?_ _ | refine blk_drew ?_ | refine blk_alloc ?_ _)); refine blk_put (cs := #[.int .i64 t165, .int .i64 0, .string (⟨#[]⟩ : ByteArray), .int .i64 0, .int .i64 0]) ?_ 1 _ rfl; (with_reducible repeat (first | refine blk_drewN ?_ _ | refine blk_drew ?_ | refine blk_alloc ?_ _)); refine blk_put (cs := #[.int .i64 0, .int .i64 0, .string (⟨#[]⟩ : ByteArray), .int .i64 0, .int .i64 0]) ?_ 0 _ rfl; (with_reducible repeat (first | refine blk_drewN ?_ _ | refine blk_drew ?_ | refine blk_alloc ?_ _)); exact BK145.out) Tryd.underlying33 rfl (by kernel_rfl)) rfl ?_
                      exact ⟨by first | rfl | (simp [errW_none, errW_some] <;> rfl) | (simp [*, errW_none, errW_some] <;> rfl), by repeat (first | (with_reducible first | exact HB.out | apply below_alloc | apply pw_below_drewN | apply below_drew1 | refine below_set ?_ GE145.out) | exact HB.out)⟩
                    · rw [if_neg c36] at H
                      have c36b0 : ((bt a0 a1) == 34) = false := beq_eq_false_iff_ne.mpr c36
                      have c36b1 : ((bt a0 a1) != 34) = true := bne_iff_ne.mpr c36
                      have H' := Aside0.mk H
                      clear H
                      have p29 : 0 ≤ (a1 : Int) := of_decide_eq_true (by first | (with_reducible assumption) | assumption)
                      have q29 : a1 < (a0.size : Int) := of_decide_eq_true (by first | (with_reducible assumption) | assumption)
                      have hx29 := bt_at a0 a1
                      replace p29 := eq_true p29
                      replace q29 := eq_true q29
                      go_wp2_with (first | ((with_reducible refine gate_callee (f := 44) rfl ?_); refine goesL_ (some 51) rfl rfl Tryd.func44 (by kernel_rfl) rfl #[.int .u8 (bt a0 a1)] rfl (by (try simp only [List.map_toArray, List.map_cons, List.map_nil]); first | done | rfl | (simp only [List.length_drop, List.length_take]; rfl)) ?_; (with_reducible refine (levyref4_isDigit.calls (bt a0 a1) false _ A30.out).mono ?_); rintro e w' ⟨rfl, ⟨nd, rfl⟩⟩; refine ⟨_, rfl, ?_⟩; have p35 : 0 ≤ (a1 : Int) := of_decide_eq_true (by first | (with_reducible assumption) | assumption); have q35 : a1 < (a0.size : Int) := of_decide_eq_true (by first | (with_reducible assumption) | assumption); have hx35 := bt_at a0 a1; replace p35 := eq_true p35; replace q35 := eq_true q35))
                      go_loopg [8] kj16 (fun kq v8 w' => ∃ (x8_2 : Int) (x146000_2 : Int) (x146001_2 : Int) (x146002_2 : ByteArray) (x146003_2 : Int) (x146004_2 : Int), v8 = .int .i64 x8_2 ∧ Aside0 (levyref4_word.l0 kq a0 a1 x8_2 = some (r1, r2, r3, r4, r5, r6, r7)) ∧ Aside0 (kq ≤ kj16) ∧ Aside0 (w'.heap[gb145]? = some (.cells #[.int .i64 x146000_2, .int .i64 x146001_2, .string x146002_2, .int .i64 x146003_2, .int .i64 x146004_2] 33 (0, 0))) ∧ Aside0 (Below w.heap.size w w'))
                      case atStart => exact ⟨(0), (0), (0), ((⟨#[]⟩ : ByteArray)), (0), (0), (by first | rfl | (simp; done) | (simp [*]; done)), H', ⟨Nat.le_refl _⟩, ⟨by (with_reducible repeat (first | refine blk_drewN ?_ _ | refine blk_drew ?_ | refine blk_alloc ?_ _)); exact BK145.out⟩, ⟨by repeat (first | (with_reducible first | exact HB.out | apply below_alloc | apply pw_below_drewN | apply below_drew1 | refine below_set ?_ GE145.out) | exact HB.out)⟩⟩
                      case round =>
                        clear H'
                        try clear c1
                        try clear p1
                        try clear q1
                        try clear hx1
                        try clear c2
                        try clear p2
                        try clear q2
                        try clear hx2
                        try clear c3
                        try clear c3b0
                        try clear p3
                        try clear q3
                        try clear hx3
                        try clear c4
                        try clear c4b0
                        try clear p5
                        try clear q5
                        try clear hx5
                        try clear p6
                        try clear c7
                        try clear c9
                        try clear c9b0
                        try clear c12
                        try clear c12b0
                        try clear c13
                        try clear c13b0
                        try clear c13b1
                        try clear c14
                        try clear c14b0
                        try clear c14b1
                        try clear p19
                        try clear q19
                        try clear hx19
                        try clear c21
                        try clear c23
                        try clear c27
                        try clear c27b0
                        try clear c28
                        try clear c28b0
                        try clear p29
                        try clear q29
                        try clear hx29
                        try clear c31
                        try clear p35
                        try clear q35
                        try clear hx35
                        try clear c36
                        try clear c36b0
                        try clear c36b1
                        try clear hcz11_0
                        try clear hcz11_1
                        try clear hcz11_2
                        try clear hcz11_3
                        try clear hcz11_4
                        try clear hcz16_0
                        try clear hcz16_1
                        try clear hcz16_2
                        try clear hcz16_3
                        try clear hcz16_4
                        try clear hcz26_0
                        try clear hcz26_1
                        try clear hcz26_2
                        try clear hcz26_3
                        try clear hcz26_4
                        try clear hcz34_0
                        try clear hcz34_1
                        try clear hcz34_2
                        try clear hcz34_3
                        try clear hcz34_4
                        try clear hcz39_0
                        try clear hcz39_1
                        try clear hcz39_2
                        try clear hcz39_3
                        try clear hcz39_4
                        try clear hfz11_0
                        try clear hfz11_1
                        try clear hfz11_2
                        try clear hfz11_3
                        try clear hfz11_4
                        try clear hfz16_0
                        try clear hfz16_1
                        try clear hfz16_2
                        try clear hfz16_3
                        try clear hfz16_4
                        try clear hfz26_0
                        try clear hfz26_1
                        try clear hfz26_2
                        try clear hfz26_3
                        try clear hfz26_4
                        try clear hfz34_0
                        try clear hfz34_1
                        try clear hfz34_2
                        try clear hfz34_3
                        try clear hfz34_4
                        try clear hfz39_0
                        try clear hfz39_1
                        try clear hfz39_2
                        try clear hfz39_3
                        try clear hfz39_4
                        try clear p1
                        try clear p19
                        try clear p2
                        try clear p29
                        try clear p35
                        try clear p5
                        try clear p6
                        try clear q1
                        try clear q19
                        try clear q29
                        try clear q35
                        try clear q5
                        obtain ⟨x8_2, x146000_2, x146001_2, x146002_2, x146003_2, x146004_2, rfl, HA, HK2, BK145, HB⟩ := hrel
                        cases gk with
                        | zero => exact absurd HA.out (by simp [levyref4_word.l0])
                        | succ k2 =>
                          have H := HA.out
                          clear HA
                          simp only [levyref4_word.l0] at H
                          by_cases c40 : x8_2 < 15
                          · rw [if_pos c40] at H
                            have c40b0 : decide (x8_2 < 15) = true := decide_eq_true c40
                            clear c40
                            by_cases c41 : 0 ≤ x8_2
                            · rw [if_pos c41] at H
                              have c41b0 : decide (0 ≤ x8_2) = true := decide_eq_true c41
                              clear c41
                              replace H := Option.bind_eq_some_iff.mp H
                              obtain ⟨t172, A430, H⟩ := H
                              replace H : (if t172 = true then (some (7, 0, rdOf ByteArray.empty tab0 x8_2, 0, 0, wrap64 (a1 + ((rdOf ByteArray.empty tab0 x8_2).size : Int)), 0)) else (levyref4_word.l0 k2 a0 a1 (wrap64 (x8_2 + 1)))) = some (r1, r2, r3, r4, r5, r6, r7) := H
                              have A43 := Aside0.mk A430
                              clear A430
                              by_cases c44 : t172 = true
                              · subst c44
                                have H1 : (some (7, 0, rdOf ByteArray.empty tab0 x8_2, 0, 0, wrap64 (a1 + ((rdOf ByteArray.empty tab0 x8_2).size : Int)), 0)) = some (r1, r2, r3, r4, r5, r6, r7) := by rw [if_pos rfl] at H; exact H
                                clear H
                                have H := H1
                                clear H1
                                simp only [Option.some.injEq, Prod.mk.injEq] at H
                                obtain ⟨rfl, rfl, rfl, rfl, rfl, rfl, rfl⟩ := H
                                have p42 : 0 ≤ (x8_2 : Int) := of_decide_eq_true (by first | (with_reducible assumption) | assumption)
                                have q42 : x8_2 < 15 := of_decide_eq_true (by first | (with_reducible assumption) | assumption)
                                have hx42_0 := (HT.out.below HB.out).c0 x8_2 p42 q42
                                replace p42 := eq_true p42
                                replace q42 := eq_true q42
                                try go_wp2_with (first | ((with_reducible refine gate_callee (f := 49) rfl ?_); refine goesL_ (some 78) rfl rfl Tryd.func49 (by kernel_rfl) rfl #[.string a0, .int .i64 a1, .string (rdOf ByteArray.empty tab0 x8_2)] rfl (by (try simp only [List.map_toArray, List.map_cons, List.map_nil]); first | done | rfl | (simp only [List.length_drop, List.length_take]; rfl)) ?_; (with_reducible refine (levyref4_is.calls a0 a1 (rdOf ByteArray.empty tab0 x8_2) true _ A43.out).mono ?_); rintro e w' ⟨rfl, ⟨nd, rfl⟩⟩; refine ⟨_, rfl, ?_⟩; (try (rw [drewN_self wr]; generalize hq_ : World.drewN wr _ = wr; have n0_ : Aside0 (wr.heap[gb145]? = some (.cells #[.int .i64 x146000_2, .int .i64 x146001_2, .string x146002_2, .int .i64 x146003_2, .int .i64 x146004_2] 33 (0, 0))) := ⟨by rw [← hq_]; exact (by (with_reducible repeat (first | refine blk_drewN ?_ _ | refine blk_drew ?_ | refine blk_alloc ?_ _)); exact BK145.out)⟩; have n1_ : Aside0 (Below w.heap.size w wr) := ⟨by rw [← hq_]; exact (by repeat (first | (with_reducible first | exact HB.out | apply below_alloc | apply pw_below_drewN | apply below_drew1 | refine below_set ?_ GE145.out) | exact HB.out))⟩; clear BK145 HB hq_; have BK145 := n0_; have HB := n1_; clear n0_ n1_))))
                                have n0_ := Aside0.mk (blk_drew BK145.out)
                                have n1_ := Aside0.mk (below_drew1 HB.out)
                                clear BK145
                                clear HB
                                have BK145 := n0_
                                have HB := n1_
                                clear n0_ n1_
                                have p45 : 0 ≤ (x8_2 : Int) := of_decide_eq_true (by first | (with_reducible assumption) | assumption)
                                have q45 : x8_2 < 15 := of_decide_eq_true (by first | (with_reducible assumption) | assumption)
                                have hx45_0 := (HT.out.below HB.out).c0 x8_2 p45 q45
                                replace p45 := eq_true p45
                                replace q45 := eq_true q45
                                have p46 : 0 ≤ (x8_2 : Int) := of_decide_eq_true (by first | (with_reducible assumption) | assumption)
                                have q46 : x8_2 < 15 := of_decide_eq_true (by first | (with_reducible assumption) | assumption)
                                have hx46_0 := (HT.out.below HB.out).c0 x8_2 p46 q46
                                replace p46 := eq_true p46
                                replace q46 := eq_true q46
                                refine start_ (n := 13) (S := fun w' => w'.cell? ⟨0, (x8_2).toNat, none⟩ = some (.string (rdOf ByteArray.empty tab0 x8_2)) ∧ w'.cell? ⟨0, (x8_2).toNat, none⟩ = some (.string (rdOf ByteArray.empty tab0 x8_2))) (ds := []) #[false, false, false, false, false, false, false, false, false, false, false, false, false] (by kernel_rfl) rfl rfl ⟨((Tabs.below HT.out HB.out).c0 x8_2 (of_eq_true p45) (of_eq_true q45)), ((Tabs.below HT.out HB.out).c0 x8_2 (of_eq_true p46) (of_eq_true q46))⟩ (fun hHeld => ?_); refine with_tabW levyref4_word.tab16 levyref4_word.bits16 (fun HT_ HW_ => ?_)
                                generalize wr.drew = w47 at BK145 HB hx45_0 hx46_0 hHeld ⊢
                                refine pure_ (i := 0) (N := some 79) (v := ?_) (a' := ?_) #[true, false, false, false, false, false, false, false, false, false, false, false, false] rfl rfl (any_of HT_.out (by kernel_rfl)) (fun _ _ _ h => h) (Or.inl ⟨by rfl, ?_⟩) ?_ ?_
                                rotate_left
                                · intro w'
                                  go_simp
                                  with_reducible rfl
                                rotate_left
                                · simp only [Act.put, List.setIfInBounds_toArray, List.set_cons_zero, List.set_cons_succ, i64_w, i32_w]
                                  rfl
                                refine pure_ (i := 1) (N := some 80) (v := ?_) (a' := ?_) #[true, true, false, false, false, false, false, false, false, false, false, false, false] rfl rfl (any_of HT_.out (by kernel_rfl)) (fun _ _ _ h => h) (Or.inl ⟨by rfl, ?_⟩) ?_ ?_
                                rotate_left
                                · intro w'
                                  go_simp
                                  with_reducible rfl
                                rotate_left
                                · simp only [Act.put, List.setIfInBounds_toArray, List.set_cons_zero, List.set_cons_succ, i64_w, i32_w]
                                  rfl
                                refine pure_ (i := 4) (N := some 83) (v := ?_) (a' := ?_) #[true, true, false, false, true, false, false, false, false, false, false, false, false] rfl rfl (any_of HT_.out (by kernel_rfl)) (fun _ _ _ h => h) (Or.inl ⟨by rfl, ?_⟩) ?_ ?_
                                rotate_left
                                · intro w'
                                  go_simp
                                  with_reducible rfl
                                rotate_left
                                · simp only [Act.put, List.setIfInBounds_toArray, List.set_cons_zero, List.set_cons_succ, i64_w, i32_w]
                                  rfl
                                refine pure_ (i := 5) (N := some 84) (v := ?_) (a' := ?_) #[true, true, false, false, true, true, false, false, false, false, false, false, false] rfl rfl (any_of HT_.out (by kernel_rfl)) (fun _ _ _ h => h) (Or.inl ⟨by rfl, ?_⟩) ?_ ?_
                                rotate_left
                                · intro w'
                                  go_simp
                                  with_reducible rfl
                                rotate_left
                                · simp only [Act.put, List.setIfInBounds_toArray, List.set_cons_zero, List.set_cons_succ, i64_w, i32_w]
                                  rfl
                                refine pure_ (i := 6) (N := some 85) (v := ?_) (a' := ?_) #[true, true, false, false, true, true, true, false, false, false, false, false, false] rfl rfl (any_of HT_.out (by kernel_rfl)) (fun _ _ _ h => h) (Or.inl ⟨by rfl, ?_⟩) ?_ ?_
                                rotate_left
                                · intro w'
                                  go_simp
                                  with_reducible rfl
                                rotate_left
                                · simp only [Act.put, List.setIfInBounds_toArray, List.set_cons_zero, List.set_cons_succ, i64_w, i32_w]
                                  rfl
                                refine take_ (i := 2) (N := some 81) (v := ?_) (a' := ?_) #[true, true, true, false, true, true, true, false, false, false, false, false, false] rfl rfl (take_ofW HT_.out HW_.out (by kernel_rfl)) (fun _ _ _ h => h) (Or.inl ⟨by rfl, ?_⟩) hHeld ?_ ?_
                                rotate_left
                                · rintro w' ⟨s0, s1⟩
                                  go_simp
                                  with_reducible rfl
                                rotate_left
                                · simp only [Act.put, List.setIfInBounds_toArray, List.set_cons_zero, List.set_cons_succ, i64_w, i32_w]
                                  rfl
                                refine pure_ (i := 3) (N := some 82) (v := ?_) (a' := ?_) #[true, true, true, true, true, true, true, false, false, false, false, false, false] rfl rfl (any_of HT_.out (by kernel_rfl)) (fun _ _ _ h => h) (Or.inl ⟨by rfl, ?_⟩) ?_ ?_
                                rotate_left
                                · intro w'
                                  go_simp
                                  with_reducible rfl
                                rotate_left
                                · simp only [Act.put, List.setIfInBounds_toArray, List.set_cons_zero, List.set_cons_succ, i64_w, i32_w]
                                  rfl
                                refine take_ (i := 7) (N := some 86) (v := ?_) (a' := ?_) #[true, true, true, true, true, true, true, true, false, false, false, false, false] rfl rfl (take_ofW HT_.out HW_.out (by kernel_rfl)) (fun _ _ _ h => h) (Or.inl ⟨by rfl, ?_⟩) hHeld ?_ ?_
                                rotate_left
                                · rintro w' ⟨s0, s1⟩
                                  go_simp
                                  with_reducible rfl
                                rotate_left
                                · simp only [Act.put, List.setIfInBounds_toArray, List.set_cons_zero, List.set_cons_succ, i64_w, i32_w]
                                  rfl
                                refine pure_ (i := 8) (N := some 87) (v := ?_) (a' := ?_) #[true, true, true, true, true, true, true, true, true, false, false, false, false] rfl rfl (any_of HT_.out (by kernel_rfl)) (fun _ _ _ h => h) (Or.inl ⟨by rfl, ?_⟩) ?_ ?_
                                rotate_left
                                · intro w'
                                  go_simp
                                  with_reducible rfl
                                rotate_left
                                · simp only [Act.put, List.setIfInBounds_toArray, List.set_cons_zero, List.set_cons_succ, i64_w, i32_w]
                                  rfl
                                refine pure_ (i := 9) (N := some 88) (v := ?_) (a' := ?_) #[true, true, true, true, true, true, true, true, true, true, false, false, false] rfl rfl (any_of HT_.out (by kernel_rfl)) (fun _ _ _ h => h) (Or.inl ⟨by rfl, ?_⟩) ?_ ?_
                                rotate_left
                                · intro w'
                                  go_simp
                                  with_reducible rfl
                                rotate_left
                                · simp only [Act.put, List.setIfInBounds_toArray, List.set_cons_zero, List.set_cons_succ, i64_w, i32_w]
                                  rfl
                                refine one_ (i := 10) (N := none) #[true, true, true, true, true, true, true, true, true, true, true, false, false] rfl rfl (one_of HT_.out (by kernel_rfl)) (by decide) (fun K hK => ?_)
                                have hs48 : w47.cell? ⟨gb145, 0, none⟩ = some (.int .i64 x146000_2) := (blk_cell BK145.out 0).trans rfl
                                have hfs48 := blk_frozen BK145.out 0
                                have hs49 : w47.cell? ⟨gb145, 1, none⟩ = some (.int .i64 x146001_2) := (blk_cell BK145.out 1).trans rfl
                                have hfs49 := blk_frozen BK145.out 1
                                have hs50 : w47.cell? ⟨gb145, 2, none⟩ = some (.string x146002_2) := (blk_cell BK145.out 2).trans rfl
                                have hfs50 := blk_frozen BK145.out 2
                                have hs51 : w47.cell? ⟨gb145, 3, none⟩ = some (.int .i64 x146003_2) := (blk_cell BK145.out 3).trans rfl
                                have hfs51 := blk_frozen BK145.out 3
                                have hs52 : w47.cell? ⟨gb145, 4, none⟩ = some (.int .i64 x146004_2) := (blk_cell BK145.out 4).trans rfl
                                have hfs52 := blk_frozen BK145.out 4
                                refine skip_ (w1 := ?_) (by rfl) rfl ?_ ?_
                                rotate_left
                                · go_simp
                                  rfl
                                refine hK.out _ _ ⟨((cell_far (p := ⟨gb145, _, none⟩) (by first | exact Nat.ne_of_lt (Nat.lt_of_lt_of_le (Nat.lt_of_lt_of_le (show 0 < 4 by decide) HT.out.size) GW145.out) | (rw [add_block]; exact Nat.ne_of_lt (Nat.lt_of_lt_of_le (Nat.lt_of_lt_of_le (show 0 < 4 by decide) HT.out.size) GW145.out)) | (show (Addr.add _ _).block ≠ _; rw [add_block]; exact Nat.ne_of_lt (Nat.lt_of_lt_of_le (Nat.lt_of_lt_of_le (show 0 < 4 by decide) HT.out.size) GW145.out)) | (dsimp only; exact Nat.ne_of_lt (Nat.lt_of_lt_of_le (Nat.lt_of_lt_of_le (show 0 < 4 by decide) HT.out.size) GW145.out))) _).trans (((cell_far (p := ⟨gb145, _, none⟩) (by first | exact Nat.ne_of_lt (Nat.lt_of_lt_of_le (Nat.lt_of_lt_of_le (show 0 < 4 by decide) HT.out.size) GW145.out) | (rw [add_block]; exact Nat.ne_of_lt (Nat.lt_of_lt_of_le (Nat.lt_of_lt_of_le (show 0 < 4 by decide) HT.out.size) GW145.out)) | (show (Addr.add _ _).block ≠ _; rw [add_block]; exact Nat.ne_of_lt (Nat.lt_of_lt_of_le (Nat.lt_of_lt_of_le (show 0 < 4 by decide) HT.out.size) GW145.out)) | (dsimp only; exact Nat.ne_of_lt (Nat.lt_of_lt_of_le (Nat.lt_of_lt_of_le (show 0 < 4 by decide) HT.out.size) GW145.out))) _).trans (((cell_far (p := ⟨gb145, _, none⟩) (by first | exact Nat.ne_of_lt (Nat.lt_of_lt_of_le (Nat.lt_of_lt_of_le (show 0 < 4 by decide) HT.out.size) GW145.out) | (rw [add_block]; exact Nat.ne_of_lt (Nat.lt_of_lt_of_le (Nat.lt_of_lt_of_le (show 0 < 4 by decide) HT.out.size) GW145.out)) | (show (Addr.add _ _).block ≠ _; rw [add_block]; exact Nat.ne_of_lt (Nat.lt_of_lt_of_le (Nat.lt_of_lt_of_le (show 0 < 4 by decide) HT.out.size) GW145.out)) | (dsimp only; exact Nat.ne_of_lt (Nat.lt_of_lt_of_le (Nat.lt_of_lt_of_le (show 0 < 4 by decide) HT.out.size) GW145.out))) _).trans (((cell_far (p := ⟨gb145, _, none⟩) (by first | exact Nat.ne_of_lt (Nat.lt_of_lt_of_le (Nat.lt_of_lt_of_le (show 0 < 4 by decide) HT.out.size) GW145.out) | (rw [add_block]; exact Nat.ne_of_lt (Nat.lt_of_lt_of_le (Nat.lt_of_lt_of_le (show 0 < 4 by decide) HT.out.size) GW145.out)) | (show (Addr.add _ _).block ≠ _; rw [add_block]; exact Nat.ne_of_lt (Nat.lt_of_lt_of_le (Nat.lt_of_lt_of_le (show 0 < 4 by decide) HT.out.size) GW145.out)) | (dsimp only; exact Nat.ne_of_lt (Nat.lt_of_lt_of_le (Nat.lt_of_lt_of_le (show 0 < 4 by decide) HT.out.size) GW145.out))) _).trans (((cell_far (p := ⟨gb145, _, none⟩) (by first | exact Nat.ne_of_lt (Nat.lt_of_lt_of_le (Nat.lt_of_lt_of_le (show 0 < 4 by decide) HT.out.size) GW145.out) | (rw [add_block]; exact Nat.ne_of_lt (Nat.lt_of_lt_of_le (Nat.lt_of_lt_of_le (show 0 < 4 by decide) HT.out.size) GW145.out)) | (show (Addr.add _ _).block ≠ _; rw [add_block]; exact Nat.ne_of_lt (Nat.lt_of_lt_of_le (Nat.lt_of_lt_of_le (show 0 < 4 by decide) HT.out.size) GW145.out)) | (dsimp only; exact Nat.ne_of_lt (Nat.lt_of_lt_of_le (Nat.lt_of_lt_of_le (show 0 < 4 by decide) HT.out.size) GW145.out))) _).trans (hHeld.1)))))))))), ((cell_far (p := ⟨gb145, _, none⟩) (by first | exact Nat.ne_of_lt (Nat.lt_of_lt_of_le (Nat.lt_of_lt_of_le (show 0 < 4 by decide) HT.out.size) GW145.out) | (rw [add_block]; exact Nat.ne_of_lt (Nat.lt_of_lt_of_le (Nat.lt_of_lt_of_le (show 0 < 4 by decide) HT.out.size) GW145.out)) | (show (Addr.add _ _).block ≠ _; rw [add_block]; exact Nat.ne_of_lt (Nat.lt_of_lt_of_le (Nat.lt_of_lt_of_le (show 0 < 4 by decide) HT.out.size) GW145.out)) | (dsimp only; exact Nat.ne_of_lt (Nat.lt_of_lt_of_le (Nat.lt_of_lt_of_le (show 0 < 4 by decide) HT.out.size) GW145.out))) _).trans (((cell_far (p := ⟨gb145, _, none⟩) (by first | exact Nat.ne_of_lt (Nat.lt_of_lt_of_le (Nat.lt_of_lt_of_le (show 0 < 4 by decide) HT.out.size) GW145.out) | (rw [add_block]; exact Nat.ne_of_lt (Nat.lt_of_lt_of_le (Nat.lt_of_lt_of_le (show 0 < 4 by decide) HT.out.size) GW145.out)) | (show (Addr.add _ _).block ≠ _; rw [add_block]; exact Nat.ne_of_lt (Nat.lt_of_lt_of_le (Nat.lt_of_lt_of_le (show 0 < 4 by decide) HT.out.size) GW145.out)) | (dsimp only; exact Nat.ne_of_lt (Nat.lt_of_lt_of_le (Nat.lt_of_lt_of_le (show 0 < 4 by decide) HT.out.size) GW145.out))) _).trans (((cell_far (p := ⟨gb145, _, none⟩) (by first | exact Nat.ne_of_lt (Nat.lt_of_lt_of_le (Nat.lt_of_lt_of_le (show 0 < 4 by decide) HT.out.size) GW145.out) | (rw [add_block]; exact Nat.ne_of_lt (Nat.lt_of_lt_of_le (Nat.lt_of_lt_of_le (show 0 < 4 by decide) HT.out.size) GW145.out)) | (show (Addr.add _ _).block ≠ _; rw [add_block]; exact Nat.ne_of_lt (Nat.lt_of_lt_of_le (Nat.lt_of_lt_of_le (show 0 < 4 by decide) HT.out.size) GW145.out)) | (dsimp only; exact Nat.ne_of_lt (Nat.lt_of_lt_of_le (Nat.lt_of_lt_of_le (show 0 < 4 by decide) HT.out.size) GW145.out))) _).trans (((cell_far (p := ⟨gb145, _, none⟩) (by first | exact Nat.ne_of_lt (Nat.lt_of_lt_of_le (Nat.lt_of_lt_of_le (show 0 < 4 by decide) HT.out.size) GW145.out) | (rw [add_block]; exact Nat.ne_of_lt (Nat.lt_of_lt_of_le (Nat.lt_of_lt_of_le (show 0 < 4 by decide) HT.out.size) GW145.out)) | (show (Addr.add _ _).block ≠ _; rw [add_block]; exact Nat.ne_of_lt (Nat.lt_of_lt_of_le (Nat.lt_of_lt_of_le (show 0 < 4 by decide) HT.out.size) GW145.out)) | (dsimp only; exact Nat.ne_of_lt (Nat.lt_of_lt_of_le (Nat.lt_of_lt_of_le (show 0 < 4 by decide) HT.out.size) GW145.out))) _).trans (((cell_far (p := ⟨gb145, _, none⟩) (by first | exact Nat.ne_of_lt (Nat.lt_of_lt_of_le (Nat.lt_of_lt_of_le (show 0 < 4 by decide) HT.out.size) GW145.out) | (rw [add_block]; exact Nat.ne_of_lt (Nat.lt_of_lt_of_le (Nat.lt_of_lt_of_le (show 0 < 4 by decide) HT.out.size) GW145.out)) | (show (Addr.add _ _).block ≠ _; rw [add_block]; exact Nat.ne_of_lt (Nat.lt_of_lt_of_le (Nat.lt_of_lt_of_le (show 0 < 4 by decide) HT.out.size) GW145.out)) | (dsimp only; exact Nat.ne_of_lt (Nat.lt_of_lt_of_le (Nat.lt_of_lt_of_le (show 0 < 4 by decide) HT.out.size) GW145.out))) _).trans (hHeld.2))))))))))⟩ (fun hHeld => ?_)
                                clear hK K
                                refine pure_ (i := 11) (N := some 5) (v := ?_) (a' := ?_) #[true, true, true, true, true, true, true, true, true, true, true, true, false] rfl rfl (any_of HT_.out (by kernel_rfl)) (fun _ _ _ h => h) (Or.inl ⟨by rfl, ?_⟩) ?_ ?_
                                rotate_left
                                · intro w'
                                  go_simp
                                  with_reducible rfl
                                rotate_left
                                · simp only [Act.put, List.setIfInBounds_toArray, List.set_cons_zero, List.set_cons_succ, i64_w, i32_w]
                                  rfl
                                refine pure_ (i := 12) (N := some 6) (v := ?_) (a' := ?_) #[true, true, true, true, true, true, true, true, true, true, true, true, true] rfl rfl (any_of HT_.out (by kernel_rfl)) (fun _ _ _ h => h) (Or.inl ⟨by rfl, ?_⟩) ?_ ?_
                                rotate_left
                                · intro w'
                                  go_simp
                                  with_reducible rfl
                                rotate_left
                                · simp only [Act.put, List.setIfInBounds_toArray, List.set_cons_zero, List.set_cons_succ, i64_w, i32_w]
                                  rfl
                                refine done_ (done_of HT_.out (by kernel_rfl)) ?_
                                try go_wp2
                                refine bodyPost_ret (results_ctt rfl _ _ gb145 33 #[.int .i64 7, .int .i64 0, .string (rdOf ByteArray.empty tab0 x8_2), .int .i64 0, .int .i64 0] (0, 0) _ rfl (by (with_reducible repeat (first | refine blk_drewN ?_ _ | refine blk_drew ?_ | refine blk_alloc ?_ _)); refine blk_put (cs := #[.int .i64 7, .int .i64 0, .string (rdOf ByteArray.empty tab0 x8_2), .int .i64 0, .int .i64 x146004_2]) ?_ 4 _ rfl; (with_reducible repeat (first | refine blk_drewN ?_ _ | refine blk_drew ?_ | refine blk_alloc ?_ _)); refine blk_put (cs := #[.int .i64 7, .int .i64 0, .string (rdOf ByteArray.empty tab0 x8_2), .int .i64 x146003_2, .int .i64 x146004_2]) ?_ 3 _ rfl; (with_reducible repeat (first | refine blk_drewN ?_ _ | refine blk_drew ?_ | refine blk_alloc ?_ _)); refine blk_put (cs := #[.int .i64 7, .int .i64 0, .string x146002_2, .int .i64 x146003_2, .int .i64 x146004_2]) ?_ 2 _ rfl; (with_reducible repeat (first | refine blk_drewN ?_ _ | refine blk_drew ?_ | refine blk_alloc ?_ _)); refine blk_put (cs := #[.int .i64 7, .int .i64 x146001_2, .string x146002_2, .int .i64 x146003_2, .int .i64 x146004_2]) ?_ 1 _ rfl; (with_reducible repeat (first | refine blk_drewN ?_ _ | refine blk_drew ?_ | refine blk_alloc ?_ _)); refine blk_put (cs := #[.int .i64 x146000_2, .int .i64 x146001_2, .string x146002_2, .int .i64 x146003_2, .int .i64 x146004_2]) ?_ 0 _ rfl; (with_reducible repeat (first | refine blk_drewN ?_ _ | refine blk_drew ?_ | refine blk_alloc ?_ _)); exact BK145.out) Tryd.underlying33 rfl (by kernel_rfl)) rfl ?_
                                exact ⟨by first | rfl | (simp [errW_none, errW_some] <;> rfl) | (simp [*, errW_none, errW_some] <;> rfl), by repeat (first | (with_reducible first | exact HB.out | apply below_alloc | apply pw_below_drewN | apply below_drew1 | refine below_set ?_ GE145.out) | exact HB.out)⟩
                              · replace c44 := Bool.eq_false_iff.mpr c44
                                subst c44
                                have H1 : (levyref4_word.l0 k2 a0 a1 (wrap64 (x8_2 + 1))) = some (r1, r2, r3, r4, r5, r6, r7) := by rw [if_neg (show ¬ (false = true) by decide)] at H; exact H
                                clear H
                                have H := H1
                                clear H1
                                have H' := Aside0.mk H
                                clear H
                                have p42 : 0 ≤ (x8_2 : Int) := of_decide_eq_true (by first | (with_reducible assumption) | assumption)
                                have q42 : x8_2 < 15 := of_decide_eq_true (by first | (with_reducible assumption) | assumption)
                                have hx42_0 := (HT.out.below HB.out).c0 x8_2 p42 q42
                                replace p42 := eq_true p42
                                replace q42 := eq_true q42
                                go_wp2_with (first | ((with_reducible refine gate_callee (f := 49) rfl ?_); refine goesL_ (some 78) rfl rfl Tryd.func49 (by kernel_rfl) rfl #[.string a0, .int .i64 a1, .string (rdOf ByteArray.empty tab0 x8_2)] rfl (by (try simp only [List.map_toArray, List.map_cons, List.map_nil]); first | done | rfl | (simp only [List.length_drop, List.length_take]; rfl)) ?_; (with_reducible refine (levyref4_is.calls a0 a1 (rdOf ByteArray.empty tab0 x8_2) false _ A43.out).mono ?_); rintro e w' ⟨rfl, ⟨nd, rfl⟩⟩; refine ⟨_, rfl, ?_⟩))
                                go_roundg k2
                                case measure => have := HJ16.out; have := HK2.out; omega
                                case rel => exact ⟨(wrap64 (x8_2 + 1)), (x146000_2), (x146001_2), (x146002_2), (x146003_2), (x146004_2), (by first | rfl | (simp; done) | (simp [*]; done)), H', ⟨by have := HJ16.out; have := HK2.out; omega⟩, ⟨by (with_reducible repeat (first | refine blk_drewN ?_ _ | refine blk_drew ?_ | refine blk_alloc ?_ _)); exact BK145.out⟩, ⟨by repeat (first | (with_reducible first | exact HB.out | apply below_alloc | apply pw_below_drewN | apply below_drew1 | refine below_set ?_ GE145.out) | exact HB.out)⟩⟩
                            · rw [if_neg c41] at H
                              exact absurd H (by simp)
                          · rw [if_neg c40] at H
                            have c40b0 : decide (x8_2 < 15) = false := decide_eq_false c40
                            clear c40
                            simp only [Option.some.injEq, Prod.mk.injEq] at H
                            obtain ⟨rfl, rfl, rfl, rfl, rfl, rfl, rfl⟩ := H
                            have hcz53_0 : wr.cell? ⟨gb145, 0, none⟩ = some (.int .i64 x146000_2) := (blk_cell BK145.out 0).trans rfl
                            have hcz53_1 : wr.cell? ⟨gb145, 1, none⟩ = some (.int .i64 x146001_2) := (blk_cell BK145.out 1).trans rfl
                            have hcz53_2 : wr.cell? ⟨gb145, 2, none⟩ = some (.string x146002_2) := (blk_cell BK145.out 2).trans rfl
                            have hcz53_3 : wr.cell? ⟨gb145, 3, none⟩ = some (.int .i64 x146003_2) := (blk_cell BK145.out 3).trans rfl
                            have hcz53_4 : wr.cell? ⟨gb145, 4, none⟩ = some (.int .i64 x146004_2) := (blk_cell BK145.out 4).trans rfl
                            have hfz53_0 := blk_frozen BK145.out 0
                            have hfz53_1 := blk_frozen BK145.out 1
                            have hfz53_2 := blk_frozen BK145.out 2
                            have hfz53_3 := blk_frozen BK145.out 3
                            have hfz53_4 := blk_frozen BK145.out 4
                            go_wp2
                            refine bodyPost_ret (results_ctt rfl _ _ gb145 33 #[.int .i64 0, .int .i64 0, .string (⟨#[]⟩ : ByteArray), .int .i64 0, .int .i64 0] (0, 0) _ rfl (by (with_reducible repeat (first | refine blk_drewN ?_ _ | refine blk_drew ?_ | refine blk_alloc ?_ _)); refine blk_put (cs := #[.int .i64 0, .int .i64 0, .string (⟨#[]⟩ : ByteArray), .int .i64 0, .int .i64 x146004_2]) ?_ 4 _ rfl; (with_reducible repeat (first | refine blk_drewN ?_ _ | refine blk_drew ?_ | refine blk_alloc ?_ _)); refine blk_put (cs := #[.int .i64 0, .int .i64 0, .string (⟨#[]⟩ : ByteArray), .int .i64 x146003_2, .int .i64 x146004_2]) ?_ 3 _ rfl; (with_reducible repeat (first | refine blk_drewN ?_ _ | refine blk_drew ?_ | refine blk_alloc ?_ _)); refine blk_put (cs := #[.int .i64 0, .int .i64 0, .string x146002_2, .int .i64 x146003_2, .int .i64 x146004_2]) ?_ 2 _ rfl; (with_reducible repeat (first | refine blk_drewN ?_ _ | refine blk_drew ?_ | refine blk_alloc ?_ _)); refine blk_put (cs := #[.int .i64 0, .int .i64 x146001_2, .string x146002_2, .int .i64 x146003_2, .int .i64 x146004_2]) ?_ 1 _ rfl; (with_reducible repeat (first | refine blk_drewN ?_ _ | refine blk_drew ?_ | refine blk_alloc ?_ _)); refine blk_put (cs := #[.int .i64 x146000_2, .int .i64 x146001_2, .string x146002_2, .int .i64 x146003_2, .int .i64 x146004_2]) ?_ 0 _ rfl; (with_reducible repeat (first | refine blk_drewN ?_ _ | refine blk_drew ?_ | refine blk_alloc ?_ _)); exact BK145.out) Tryd.underlying33 rfl (by kernel_rfl)) rfl ?_
                            exact ⟨by first | rfl | (simp [errW_none, errW_some] <;> rfl) | (simp [*, errW_none, errW_some] <;> rfl), by repeat (first | (with_reducible first | exact HB.out | apply below_alloc | apply pw_below_drewN | apply below_drew1 | refine below_set ?_ GE145.out) | exact HB.out)⟩
                · rw [if_neg c28] at H
                  exact absurd H (by simp)
              · rw [if_neg c27] at H
                exact absurd H (by simp)
    · rw [if_neg c4] at H
      exact absurd H (by simp)
  · rw [if_neg c3] at H
    exact absurd H (by simp)

end Go.Proofs.YtidbcenbcllfnaaDoor.PA
