/- The Go functions of this seat that the laws of part A come to, each as a plain Lean function ('f', its loops 'l0' ..) with a proof that the call comes to its answer. Conditions: where a function comes to a package-level table, the world holds that table ('Tabs'). Written by a program of this session (a changed copy of the print). -/
import Derived.Test.YtlipkhhpjelicaaDoorPAx0
import Derived.Test.YtlipkhhpjelicaaDoorPAx6
import Derived.Test.YtlipkhhpjelicaaDoorPAx15
namespace Go.Proofs.YtlipkhhpjelicaaDoor.PA
open Go.RowKit Go.Proofs.YtlipkhhpjelicaaDoorW.PrintWords Go.Proofs.YtlipkhhpjelicaaDoorW.PrintLast Go.Proofs.YtlipkhhpjelicaaDoorW.PrintMore
attribute [local go_sem] max2_int min2_int max_two min_two max_three min_three max_four min_four   -- for this text's walks alone
set_option linter.unusedVariables false
set_option linter.unusedSimpArgs false

/-! ### days_Print: function 25 -/
def days_Print.f (k : Nat) (a0 : Int) : Option (ByteArray × Int) := (days_isDay.f a0).bind fun t243 => (if t243 = true then ((days_date.f k a0).bind fun bt244 => ((days_digits.f k bt244.1 4).bind fun t248 => (if t248.size + 1 ≤ 9223372036854775807 then ((days_digits.f k bt244.2.1 2).bind fun t249 => (if (t248 ++ (⟨#[45]⟩ : ByteArray)).size + t249.size ≤ 9223372036854775807 then (if ((t248 ++ (⟨#[45]⟩ : ByteArray)) ++ t249).size + 1 ≤ 9223372036854775807 then ((days_digits.f k bt244.2.2 2).bind fun t250 => (if (((t248 ++ (⟨#[45]⟩ : ByteArray)) ++ t249) ++ (⟨#[45]⟩ : ByteArray)).size + t250.size ≤ 9223372036854775807 then (some ((((t248 ++ (⟨#[45]⟩ : ByteArray)) ++ t249) ++ (⟨#[45]⟩ : ByteArray)) ++ t250, 0)) else (none))) else (none)) else (none))) else (none)))) else (some ((⟨#[]⟩ : ByteArray), 21)))
theorem days_Print.mono : ∀ a0 k, LeO (days_Print.f k a0) (days_Print.f (k + 1) a0) := by
  intro a0 k
  unfold days_Print.f
  repeat' first
      | (with_reducible exact days_date.mono _ _)
      | (with_reducible exact days_digits.mono _ _ _)
      | (with_reducible exact LeO.refl _)
      | (with_reducible exact LeO.none _)
      | (with_reducible refine LeO.ite ?_ ?_)
      | (with_reducible refine LeO.bind ?_ (fun _ => ?_))
      | exact days_date.mono _ _
      | exact days_digits.mono _ _ _
      | exact LeO.none _
      | refine LeO.ite ?_ ?_
      | refine LeO.bind ?_ (fun _ => ?_)
def days_Print.T4 : Bool × List (List Nat × List Nat) := (true, [([], []), ([0], [0]), ([1], [1]), ([2], [2]), ([], []), ([4], [4]), ([5, 2], [5]), ([3, 6], [3, 6]), ([7], [7]), ([], []), ([9], [9]), ([10, 6], [10]), ([8, 11], [8, 11]), ([12, 11, 0, 1, 2, 3, 4, 5, 6, 7, 8, 9, 10, 11, 12], [12]), ([13, 0, 1, 2, 3, 4, 5, 6, 7, 8, 9, 10, 11, 12, 13], [])])
def days_Print.B4 : List Nat := [0, 1, 3, 7, 0, 16, 55, 127, 255, 0, 512, 1655, 4095, 8191, 16383]
theorem days_Print.tab4 : rtab .any (opsOf Tryd.f25 4) = days_Print.T4 := by kernel_rfl
theorem days_Print.bits4 : waitsOk days_Print.T4.2 days_Print.B4 = true := by kernel_rfl
set_option maxHeartbeats 8000000 in
set_option maxRecDepth 100000 in
theorem days_Print.calls (k : Nat) (a0 : Int) (r1 : ByteArray) (r2 : Int) (w : World) (hT : Tabs w) (h : days_Print.f k a0 = some (r1, r2)) :
    Calls Tryd.prog 25 #[.int .i64 a0] w fun e w' => e = .returned (.tuple #[.string r1, .int .i64 r2]) ∧ Below w.heap.size w w' := by
  have hu33 := Tryd.underlying33
  have HB := Aside0.mk (Below.refl w.heap.size w)
  have HT := Aside0.mk hT
  clear hT
  have H : ((days_isDay.f a0).bind fun t243 => (if t243 = true then ((days_date.f k a0).bind fun bt244 => ((days_digits.f k bt244.1 4).bind fun t248 => (if t248.size + 1 ≤ 9223372036854775807 then ((days_digits.f k bt244.2.1 2).bind fun t249 => (if (t248 ++ (⟨#[45]⟩ : ByteArray)).size + t249.size ≤ 9223372036854775807 then (if ((t248 ++ (⟨#[45]⟩ : ByteArray)) ++ t249).size + 1 ≤ 9223372036854775807 then ((days_digits.f k bt244.2.2 2).bind fun t250 => (if (((t248 ++ (⟨#[45]⟩ : ByteArray)) ++ t249) ++ (⟨#[45]⟩ : ByteArray)).size + t250.size ≤ 9223372036854775807 then (some ((((t248 ++ (⟨#[45]⟩ : ByteArray)) ++ t249) ++ (⟨#[45]⟩ : ByteArray)) ++ t250, 0)) else (none))) else (none)) else (none))) else (none)))) else (some ((⟨#[]⟩ : ByteArray), 21)))) = some (r1, r2) := h
  clear h
  replace H := Option.bind_eq_some_iff.mp H
  obtain ⟨t243, A20, H⟩ := H
  replace H : (if t243 = true then ((days_date.f k a0).bind fun bt244 => ((days_digits.f k bt244.1 4).bind fun t248 => (if t248.size + 1 ≤ 9223372036854775807 then ((days_digits.f k bt244.2.1 2).bind fun t249 => (if (t248 ++ (⟨#[45]⟩ : ByteArray)).size + t249.size ≤ 9223372036854775807 then (if ((t248 ++ (⟨#[45]⟩ : ByteArray)) ++ t249).size + 1 ≤ 9223372036854775807 then ((days_digits.f k bt244.2.2 2).bind fun t250 => (if (((t248 ++ (⟨#[45]⟩ : ByteArray)) ++ t249) ++ (⟨#[45]⟩ : ByteArray)).size + t250.size ≤ 9223372036854775807 then (some ((((t248 ++ (⟨#[45]⟩ : ByteArray)) ++ t249) ++ (⟨#[45]⟩ : ByteArray)) ++ t250, 0)) else (none))) else (none)) else (none))) else (none)))) else (some ((⟨#[]⟩ : ByteArray), 21))) = some (r1, r2) := H
  have A2 := Aside0.mk A20
  clear A20
  by_cases c3 : t243 = true
  · subst c3
    have H1 : ((days_date.f k a0).bind fun bt244 => ((days_digits.f k bt244.1 4).bind fun t248 => (if t248.size + 1 ≤ 9223372036854775807 then ((days_digits.f k bt244.2.1 2).bind fun t249 => (if (t248 ++ (⟨#[45]⟩ : ByteArray)).size + t249.size ≤ 9223372036854775807 then (if ((t248 ++ (⟨#[45]⟩ : ByteArray)) ++ t249).size + 1 ≤ 9223372036854775807 then ((days_digits.f k bt244.2.2 2).bind fun t250 => (if (((t248 ++ (⟨#[45]⟩ : ByteArray)) ++ t249) ++ (⟨#[45]⟩ : ByteArray)).size + t250.size ≤ 9223372036854775807 then (some ((((t248 ++ (⟨#[45]⟩ : ByteArray)) ++ t249) ++ (⟨#[45]⟩ : ByteArray)) ++ t250, 0)) else (none))) else (none)) else (none))) else (none)))) = some (r1, r2) := by rw [if_pos rfl] at H; exact H
    clear H
    have H := H1
    clear H1
    replace H := Option.bind_eq_some_iff.mp H
    obtain ⟨⟨t244, t245, t246⟩, A40, H⟩ := H
    replace H : ((days_digits.f k t244 4).bind fun t248 => (if t248.size + 1 ≤ 9223372036854775807 then ((days_digits.f k t245 2).bind fun t249 => (if (t248 ++ (⟨#[45]⟩ : ByteArray)).size + t249.size ≤ 9223372036854775807 then (if ((t248 ++ (⟨#[45]⟩ : ByteArray)) ++ t249).size + 1 ≤ 9223372036854775807 then ((days_digits.f k t246 2).bind fun t250 => (if (((t248 ++ (⟨#[45]⟩ : ByteArray)) ++ t249) ++ (⟨#[45]⟩ : ByteArray)).size + t250.size ≤ 9223372036854775807 then (some ((((t248 ++ (⟨#[45]⟩ : ByteArray)) ++ t249) ++ (⟨#[45]⟩ : ByteArray)) ++ t250, 0)) else (none))) else (none)) else (none))) else (none))) = some (r1, r2) := H
    have A4 := Aside0.mk A40
    clear A40
    replace H := Option.bind_eq_some_iff.mp H
    obtain ⟨t248, A50, H⟩ := H
    replace H : (if t248.size + 1 ≤ 9223372036854775807 then ((days_digits.f k t245 2).bind fun t249 => (if (t248 ++ (⟨#[45]⟩ : ByteArray)).size + t249.size ≤ 9223372036854775807 then (if ((t248 ++ (⟨#[45]⟩ : ByteArray)) ++ t249).size + 1 ≤ 9223372036854775807 then ((days_digits.f k t246 2).bind fun t250 => (if (((t248 ++ (⟨#[45]⟩ : ByteArray)) ++ t249) ++ (⟨#[45]⟩ : ByteArray)).size + t250.size ≤ 9223372036854775807 then (some ((((t248 ++ (⟨#[45]⟩ : ByteArray)) ++ t249) ++ (⟨#[45]⟩ : ByteArray)) ++ t250, 0)) else (none))) else (none)) else (none))) else (none)) = some (r1, r2) := H
    have A5 := Aside0.mk A50
    clear A50
    by_cases c6 : t248.size + 1 ≤ 9223372036854775807
    · rw [if_pos c6] at H
      have c6b0 := eq_true c6
      have c6b1 : decide (t248.size + 1 ≤ 9223372036854775807) = true := decide_eq_true c6
      try have c6b2 : (9223372036854775807 < t248.size + 1) = False := eq_false (Nat.not_lt.2 c6)
      replace H := Option.bind_eq_some_iff.mp H
      obtain ⟨t249, A70, H⟩ := H
      replace H : (if (t248 ++ (⟨#[45]⟩ : ByteArray)).size + t249.size ≤ 9223372036854775807 then (if ((t248 ++ (⟨#[45]⟩ : ByteArray)) ++ t249).size + 1 ≤ 9223372036854775807 then ((days_digits.f k t246 2).bind fun t250 => (if (((t248 ++ (⟨#[45]⟩ : ByteArray)) ++ t249) ++ (⟨#[45]⟩ : ByteArray)).size + t250.size ≤ 9223372036854775807 then (some ((((t248 ++ (⟨#[45]⟩ : ByteArray)) ++ t249) ++ (⟨#[45]⟩ : ByteArray)) ++ t250, 0)) else (none))) else (none)) else (none)) = some (r1, r2) := H
      have A7 := Aside0.mk A70
      clear A70
      by_cases c8 : (t248 ++ (⟨#[45]⟩ : ByteArray)).size + t249.size ≤ 9223372036854775807
      · rw [if_pos c8] at H
        have c8b0 := eq_true c8
        have c8b1 : decide ((t248 ++ (⟨#[45]⟩ : ByteArray)).size + t249.size ≤ 9223372036854775807) = true := decide_eq_true c8
        try have c8b2 : (9223372036854775807 < (t248 ++ (⟨#[45]⟩ : ByteArray)).size + t249.size) = False := eq_false (Nat.not_lt.2 c8)
        (try have c8b3 : (9223372036854775807 < t248.size + 1 + t249.size) = False := eq_false (Nat.not_lt.2 (Nat.le_trans (Nat.le_of_eq (by simp only [ByteArray.size_append] <;> rfl)) c8)))
        (try have c8b4 : (t248.size + 1 + t249.size ≤ 9223372036854775807) = True := eq_true (Nat.le_trans (Nat.le_of_eq (by simp only [ByteArray.size_append] <;> rfl)) c8))
        by_cases c9 : ((t248 ++ (⟨#[45]⟩ : ByteArray)) ++ t249).size + 1 ≤ 9223372036854775807
        · rw [if_pos c9] at H
          have c9b0 := eq_true c9
          have c9b1 : decide (((t248 ++ (⟨#[45]⟩ : ByteArray)) ++ t249).size + 1 ≤ 9223372036854775807) = true := decide_eq_true c9
          try have c9b2 : (9223372036854775807 < ((t248 ++ (⟨#[45]⟩ : ByteArray)) ++ t249).size + 1) = False := eq_false (Nat.not_lt.2 c9)
          (try have c9b3 : (9223372036854775807 < t248.size + 1 + t249.size + 1) = False := eq_false (Nat.not_lt.2 (Nat.le_trans (Nat.le_of_eq (by simp only [ByteArray.size_append] <;> rfl)) c9)))
          (try have c9b4 : (t248.size + 1 + t249.size + 1 ≤ 9223372036854775807) = True := eq_true (Nat.le_trans (Nat.le_of_eq (by simp only [ByteArray.size_append] <;> rfl)) c9))
          replace H := Option.bind_eq_some_iff.mp H
          obtain ⟨t250, A100, H⟩ := H
          replace H : (if (((t248 ++ (⟨#[45]⟩ : ByteArray)) ++ t249) ++ (⟨#[45]⟩ : ByteArray)).size + t250.size ≤ 9223372036854775807 then (some ((((t248 ++ (⟨#[45]⟩ : ByteArray)) ++ t249) ++ (⟨#[45]⟩ : ByteArray)) ++ t250, 0)) else (none)) = some (r1, r2) := H
          have A10 := Aside0.mk A100
          clear A100
          by_cases c11 : (((t248 ++ (⟨#[45]⟩ : ByteArray)) ++ t249) ++ (⟨#[45]⟩ : ByteArray)).size + t250.size ≤ 9223372036854775807
          · rw [if_pos c11] at H
            have c11b0 := eq_true c11
            have c11b1 : decide ((((t248 ++ (⟨#[45]⟩ : ByteArray)) ++ t249) ++ (⟨#[45]⟩ : ByteArray)).size + t250.size ≤ 9223372036854775807) = true := decide_eq_true c11
            try have c11b2 : (9223372036854775807 < (((t248 ++ (⟨#[45]⟩ : ByteArray)) ++ t249) ++ (⟨#[45]⟩ : ByteArray)).size + t250.size) = False := eq_false (Nat.not_lt.2 c11)
            (try have c11b3 : (9223372036854775807 < t248.size + 1 + t249.size + 1 + t250.size) = False := eq_false (Nat.not_lt.2 (Nat.le_trans (Nat.le_of_eq (by simp only [ByteArray.size_append] <;> rfl)) c11)))
            (try have c11b4 : (t248.size + 1 + t249.size + 1 + t250.size ≤ 9223372036854775807) = True := eq_true (Nat.le_trans (Nat.le_of_eq (by simp only [ByteArray.size_append] <;> rfl)) c11))
            simp only [Option.some.injEq, Prod.mk.injEq] at H
            obtain ⟨rfl, rfl⟩ := H
            go_enter Tryd.func25, Tryd.ntmps25
            try go_wp2_with (first | ((with_reducible refine gate_callee (f := 48) rfl ?_); refine goesL_ (some 6) rfl rfl Tryd.func48 (by kernel_rfl) rfl #[.int .i64 a0] rfl (by (try simp only [List.map_toArray, List.map_cons, List.map_nil]); first | done | rfl | (simp only [List.length_drop, List.length_take]; rfl)) ?_; (with_reducible refine (days_isDay.calls a0 true _ A2.out).mono ?_); rintro e w' ⟨rfl, ⟨nd, rfl⟩⟩; refine ⟨_, rfl, ?_⟩) | ((with_reducible refine gate_callee (f := 45) rfl ?_); refine goesL_ (some 9) rfl rfl Tryd.func45 (by kernel_rfl) rfl #[.int .i64 a0] rfl (by (try simp only [List.map_toArray, List.map_cons, List.map_nil]); first | done | rfl | (simp only [List.length_drop, List.length_take]; rfl)) ?_; (with_reducible refine (days_date.calls k a0 t244 t245 t246 _ ?side1 A4.out).mono ?_); (case side1 => first | (with_reducible exact HT.out) | (with_reducible exact HT.out.below HB.out) | (with_reducible refine Tabs.below HT.out ?_; repeat (first | (with_reducible first | exact HB.out | apply below_alloc | apply pw_below_drewN | apply below_drew1) | exact HB.out))); rintro e w12 ⟨rfl, hb⟩; refine ⟨_, rfl, ?_⟩; have n0_ := Aside0.mk (below_step (by repeat (first | (with_reducible first | exact HB.out | apply below_alloc | apply pw_below_drewN | apply below_drew1) | exact HB.out)) hb); clear HB; have HB := n0_; clear n0_; (try clear hb); (try clear hb2); (try clear hk); (try clear hi)) | ((with_reducible refine gate_dst (N := 4) rfl ?_); refine box_event ?hg (N := 4) ?hd (cs := #[.int .i64 0, .int .i64 0, .int .i64 0]) (t := 33) ?hr ?_; (case hd => rfl); (case hg => rfl); (case hr => first | (go_simp; done) | (go_simp; rfl)); intro gb247 hg w13 hbox hb; have n0_ := Aside0.mk (below_step (by repeat (first | (with_reducible first | exact HB.out | apply below_alloc | apply pw_below_drewN | apply below_drew1) | exact HB.out)) hb); have n1_ := Aside0.mk (hbox); have n2_ := Aside0.mk ((by rw [hg]; exact (below_size (by repeat (first | (with_reducible first | exact HB.out | apply below_alloc | apply pw_below_drewN | apply below_drew1) | exact HB.out))) : w.heap.size ≤ gb247)); have n3_ := Aside0.mk ((by rw [hg]; exact (below_size (by repeat (first | (with_reducible first | exact HB.out | apply below_alloc | apply pw_below_drewN | apply below_drew1) | exact HB.out))) : w.heap.size ≤ gb247)); clear HB; have HB := n0_; have BK247 := n1_; have GW247 := n2_; have GE247 := n3_; clear n0_ n1_ n2_ n3_; clear hb hbox hg; have hcz14_0 : w13.cell? ⟨gb247, 0, none⟩ = some (.int .i64 0) := (blk_cell BK247.out 0).trans rfl; have hcz14_1 : w13.cell? ⟨gb247, 1, none⟩ = some (.int .i64 0) := (blk_cell BK247.out 1).trans rfl; have hcz14_2 : w13.cell? ⟨gb247, 2, none⟩ = some (.int .i64 0) := (blk_cell BK247.out 2).trans rfl; have hfz14_0 := blk_frozen BK247.out 0; have hfz14_1 := blk_frozen BK247.out 1; have hfz14_2 := blk_frozen BK247.out 2))
            have n0_ : Aside0 ((((w13.setCell ⟨gb247, 0, none⟩ (.int .i64 t244)).setCell ⟨gb247, 1, none⟩ (.int .i64 t245)).setCell ⟨gb247, 2, none⟩ (.int .i64 t246)).heap[gb247]? = some (.cells #[.int .i64 t244, .int .i64 t245, .int .i64 t246] 33 (0, 0))) := ⟨by (with_reducible repeat (first | refine blk_drewN ?_ _ | refine blk_drew ?_ | refine blk_alloc ?_ _)); refine blk_put (cs := #[.int .i64 t244, .int .i64 t245, .int .i64 0]) ?_ 2 _ rfl; (with_reducible repeat (first | refine blk_drewN ?_ _ | refine blk_drew ?_ | refine blk_alloc ?_ _)); refine blk_put (cs := #[.int .i64 t244, .int .i64 0, .int .i64 0]) ?_ 1 _ rfl; (with_reducible repeat (first | refine blk_drewN ?_ _ | refine blk_drew ?_ | refine blk_alloc ?_ _)); refine blk_put (cs := #[.int .i64 0, .int .i64 0, .int .i64 0]) ?_ 0 _ rfl; (with_reducible repeat (first | refine blk_drewN ?_ _ | refine blk_drew ?_ | refine blk_alloc ?_ _)); exact BK247.out⟩
            have n1_ : Aside0 (Below w.heap.size w (((w13.setCell ⟨gb247, 0, none⟩ (.int .i64 t244)).setCell ⟨gb247, 1, none⟩ (.int .i64 t245)).setCell ⟨gb247, 2, none⟩ (.int .i64 t246))) := ⟨by repeat (first | (with_reducible first | exact HB.out | apply below_alloc | apply pw_below_drewN | apply below_drew1 | refine below_set ?_ GE247.out) | exact HB.out)⟩
            (try clear BK247)
            (try clear HB)
            generalize (((w13.setCell ⟨gb247, 0, none⟩ (.int .i64 t244)).setCell ⟨gb247, 1, none⟩ (.int .i64 t245)).setCell ⟨gb247, 2, none⟩ (.int .i64 t246)) = w15 at n0_ n1_ ⊢
            have BK247 := n0_
            have HB := n1_
            clear n0_ n1_
            have n0_ := Aside0.mk (blk_drew BK247.out)
            have n1_ := Aside0.mk (below_drew1 HB.out)
            clear BK247
            clear HB
            have BK247 := n0_
            have HB := n1_
            clear n0_ n1_
            refine start_ (n := 15) (S := fun w' => w'.cell? ⟨gb247, 0, none⟩ = some (.int .i64 t244) ∧ w'.cell? ⟨gb247, 1, none⟩ = some (.int .i64 t245) ∧ w'.cell? ⟨gb247, 2, none⟩ = some (.int .i64 t246)) (ds := []) #[false, false, false, false, false, false, false, false, false, false, false, false, false, false, false] (by kernel_rfl) rfl rfl ⟨(blk_cell BK247.out 0).trans rfl, (blk_cell BK247.out 1).trans rfl, (blk_cell BK247.out 2).trans rfl⟩ (fun hHeld => ?_); refine with_tabW days_Print.tab4 days_Print.bits4 (fun HT_ HW_ => ?_)
            generalize w15.drew = w16 at BK247 HB hHeld ⊢
            refine pure_ (i := 0) (N := some 10) (v := ?_) (a' := ?_) #[true, false, false, false, false, false, false, false, false, false, false, false, false, false, false] rfl rfl (any_of HT_.out (by kernel_rfl)) (fun _ _ _ h => h) (Or.inl ⟨by rfl, ?_⟩) ?_ ?_
            rotate_left
            · intro w'
              go_simp
              with_reducible rfl
            rotate_left
            · simp only [Act.put, List.setIfInBounds_toArray, List.set_cons_zero, List.set_cons_succ, i64_w, i32_w]
              rfl
            refine pure_ (i := 4) (N := some 14) (v := ?_) (a' := ?_) #[true, false, false, false, true, false, false, false, false, false, false, false, false, false, false] rfl rfl (any_of HT_.out (by kernel_rfl)) (fun _ _ _ h => h) (Or.inl ⟨by rfl, ?_⟩) ?_ ?_
            rotate_left
            · intro w'
              go_simp
              with_reducible rfl
            rotate_left
            · simp only [Act.put, List.setIfInBounds_toArray, List.set_cons_zero, List.set_cons_succ, i64_w, i32_w]
              rfl
            refine pure_ (i := 9) (N := some 19) (v := ?_) (a' := ?_) #[true, false, false, false, true, false, false, false, false, true, false, false, false, false, false] rfl rfl (any_of HT_.out (by kernel_rfl)) (fun _ _ _ h => h) (Or.inl ⟨by rfl, ?_⟩) ?_ ?_
            rotate_left
            · intro w'
              go_simp
              with_reducible rfl
            rotate_left
            · simp only [Act.put, List.setIfInBounds_toArray, List.set_cons_zero, List.set_cons_succ, i64_w, i32_w]
              rfl
            refine take_ (i := 1) (N := some 11) (v := ?_) (a' := ?_) #[true, true, false, false, true, false, false, false, false, true, false, false, false, false, false] rfl rfl (take_ofW HT_.out HW_.out (by kernel_rfl)) (fun _ _ _ h => h) (Or.inl ⟨by rfl, ?_⟩) hHeld ?_ ?_
            rotate_left
            · rintro w' ⟨s0, s1, s2⟩
              go_simp
              with_reducible rfl
            rotate_left
            · simp only [Act.put, List.setIfInBounds_toArray, List.set_cons_zero, List.set_cons_succ, i64_w, i32_w]
              rfl
            refine take_ (i := 5) (N := some 15) (v := ?_) (a' := ?_) #[true, true, false, false, true, true, false, false, false, true, false, false, false, false, false] rfl rfl (take_ofW HT_.out HW_.out (by kernel_rfl)) (fun _ _ _ h => h) (Or.inl ⟨by rfl, ?_⟩) hHeld ?_ ?_
            rotate_left
            · rintro w' ⟨s0, s1, s2⟩
              go_simp
              with_reducible rfl
            rotate_left
            · simp only [Act.put, List.setIfInBounds_toArray, List.set_cons_zero, List.set_cons_succ, i64_w, i32_w]
              rfl
            refine take_ (i := 10) (N := some 20) (v := ?_) (a' := ?_) #[true, true, false, false, true, true, false, false, false, true, true, false, false, false, false] rfl rfl (take_ofW HT_.out HW_.out (by kernel_rfl)) (fun _ _ _ h => h) (Or.inl ⟨by rfl, ?_⟩) hHeld ?_ ?_
            rotate_left
            · rintro w' ⟨s0, s1, s2⟩
              go_simp
              with_reducible rfl
            rotate_left
            · simp only [Act.put, List.setIfInBounds_toArray, List.set_cons_zero, List.set_cons_succ, i64_w, i32_w]
              rfl
            refine one_ (i := 2) (N := some 12) #[true, true, true, false, true, true, false, false, false, true, true, false, false, false, false] rfl rfl (one_of HT_.out (by kernel_rfl)) (by decide) (fun K hK => ?_)
            refine goes_ Tryd.func50 (by kernel_rfl) rfl #[.int .i64 t244, .int .i64 4] (by rfl) rfl rfl (by (try simp only [List.map_toArray, List.map_cons, List.map_nil]); first | done | rfl | (simp only [List.length_drop, List.length_take]; rfl)) ?_
            with_reducible refine (days_digits.calls k t244 4 t248 _ A5.out).mono ?_
            rintro e w17 ⟨rfl, hb⟩
            refine ⟨_, rfl, ?_⟩
            have n0_ := Aside0.mk (blk_below (g := gb247) (o := .cells #[.int .i64 t244, .int .i64 t245, .int .i64 t246] 33 (0, 0)) (by (with_reducible repeat (first | refine blk_drewN ?_ _ | refine blk_drew ?_ | refine blk_alloc ?_ _)); exact BK247.out) hb)
            have n1_ := Aside0.mk (below_step (by repeat (first | (with_reducible first | exact HB.out | apply below_alloc | apply pw_below_drewN | apply below_drew1 | refine below_set ?_ GE247.out) | exact HB.out)) hb)
            clear BK247
            clear HB
            have BK247 := n0_
            have HB := n1_
            clear n0_ n1_
            (try clear hb)
            (try clear hb2)
            (try clear hk)
            (try clear hi)
            refine hK.out _ _ ⟨(blk_cell BK247.out 0).trans rfl, (blk_cell BK247.out 1).trans rfl, (blk_cell BK247.out 2).trans rfl⟩ (fun hHeld => ?_)
            clear hK K
            refine norm_ (a' := ?_) ?_ ?_
            rotate_left
            · show Act.put _ (some 12) _ = _
              simp only [Act.put, List.setIfInBounds_toArray, List.set_cons_zero, List.set_cons_succ, i64_w, i32_w]
              rfl
            refine pure_ (i := 3) (N := some 13) (v := ?_) (a' := ?_) #[true, true, true, true, true, true, false, false, false, true, true, false, false, false, false] rfl rfl (any_of HT_.out (by kernel_rfl)) (fun _ _ _ h => h) (Or.inl ⟨by rfl, ?_⟩) ?_ ?_
            rotate_left
            · intro w'
              go_simp
              with_reducible rfl
            rotate_left
            · simp only [Act.put, List.setIfInBounds_toArray, List.set_cons_zero, List.set_cons_succ, i64_w, i32_w]
              rfl
            refine one_ (i := 6) (N := some 16) #[true, true, true, true, true, true, true, false, false, true, true, false, false, false, false] rfl rfl (one_of HT_.out (by kernel_rfl)) (by decide) (fun K hK => ?_)
            refine goes_ Tryd.func50 (by kernel_rfl) rfl #[.int .i64 t245, .int .i64 2] (by rfl) rfl rfl (by (try simp only [List.map_toArray, List.map_cons, List.map_nil]); first | done | rfl | (simp only [List.length_drop, List.length_take]; rfl)) ?_
            with_reducible refine (days_digits.calls k t245 2 t249 _ A7.out).mono ?_
            rintro e w18 ⟨rfl, hb⟩
            refine ⟨_, rfl, ?_⟩
            have n0_ := Aside0.mk (blk_below (g := gb247) (o := .cells #[.int .i64 t244, .int .i64 t245, .int .i64 t246] 33 (0, 0)) (by (with_reducible repeat (first | refine blk_drewN ?_ _ | refine blk_drew ?_ | refine blk_alloc ?_ _)); exact BK247.out) hb)
            have n1_ := Aside0.mk (below_step (by repeat (first | (with_reducible first | exact HB.out | apply below_alloc | apply pw_below_drewN | apply below_drew1 | refine below_set ?_ GE247.out) | exact HB.out)) hb)
            clear BK247
            clear HB
            have BK247 := n0_
            have HB := n1_
            clear n0_ n1_
            (try clear hb)
            (try clear hb2)
            (try clear hk)
            (try clear hi)
            refine hK.out _ _ ⟨(blk_cell BK247.out 0).trans rfl, (blk_cell BK247.out 1).trans rfl, (blk_cell BK247.out 2).trans rfl⟩ (fun hHeld => ?_)
            clear hK K
            refine norm_ (a' := ?_) ?_ ?_
            rotate_left
            · show Act.put _ (some 16) _ = _
              simp only [Act.put, List.setIfInBounds_toArray, List.set_cons_zero, List.set_cons_succ, i64_w, i32_w]
              rfl
            refine pure_ (i := 7) (N := some 17) (v := ?_) (a' := ?_) #[true, true, true, true, true, true, true, true, false, true, true, false, false, false, false] rfl rfl (any_of HT_.out (by kernel_rfl)) (fun _ _ _ h => h) (Or.inl ⟨by rfl, ?_⟩) ?_ ?_
            rotate_left
            · intro w'
              go_simp
              with_reducible rfl
            rotate_left
            · simp only [Act.put, List.setIfInBounds_toArray, List.set_cons_zero, List.set_cons_succ, i64_w, i32_w]
              rfl
            refine pure_ (i := 8) (N := some 18) (v := ?_) (a' := ?_) #[true, true, true, true, true, true, true, true, true, true, true, false, false, false, false] rfl rfl (any_of HT_.out (by kernel_rfl)) (fun _ _ _ h => h) (Or.inl ⟨by rfl, ?_⟩) ?_ ?_
            rotate_left
            · intro w'
              go_simp
              with_reducible rfl
            rotate_left
            · simp only [Act.put, List.setIfInBounds_toArray, List.set_cons_zero, List.set_cons_succ, i64_w, i32_w]
              rfl
            refine one_ (i := 11) (N := some 21) #[true, true, true, true, true, true, true, true, true, true, true, true, false, false, false] rfl rfl (one_of HT_.out (by kernel_rfl)) (by decide) (fun K hK => ?_)
            refine goes_ Tryd.func50 (by kernel_rfl) rfl #[.int .i64 t246, .int .i64 2] (by rfl) rfl rfl (by (try simp only [List.map_toArray, List.map_cons, List.map_nil]); first | done | rfl | (simp only [List.length_drop, List.length_take]; rfl)) ?_
            with_reducible refine (days_digits.calls k t246 2 t250 _ A10.out).mono ?_
            rintro e w19 ⟨rfl, hb⟩
            refine ⟨_, rfl, ?_⟩
            have n0_ := Aside0.mk (blk_below (g := gb247) (o := .cells #[.int .i64 t244, .int .i64 t245, .int .i64 t246] 33 (0, 0)) (by (with_reducible repeat (first | refine blk_drewN ?_ _ | refine blk_drew ?_ | refine blk_alloc ?_ _)); exact BK247.out) hb)
            have n1_ := Aside0.mk (below_step (by repeat (first | (with_reducible first | exact HB.out | apply below_alloc | apply pw_below_drewN | apply below_drew1 | refine below_set ?_ GE247.out) | exact HB.out)) hb)
            clear BK247
            clear HB
            have BK247 := n0_
            have HB := n1_
            clear n0_ n1_
            (try clear hb)
            (try clear hb2)
            (try clear hk)
            (try clear hi)
            refine hK.out _ _ ⟨(blk_cell BK247.out 0).trans rfl, (blk_cell BK247.out 1).trans rfl, (blk_cell BK247.out 2).trans rfl⟩ (fun hHeld => ?_)
            clear hK K
            refine norm_ (a' := ?_) ?_ ?_
            rotate_left
            · show Act.put _ (some 21) _ = _
              simp only [Act.put, List.setIfInBounds_toArray, List.set_cons_zero, List.set_cons_succ, i64_w, i32_w]
              rfl
            refine pure_ (i := 12) (N := some 22) (v := ?_) (a' := ?_) #[true, true, true, true, true, true, true, true, true, true, true, true, true, false, false] rfl rfl (any_of HT_.out (by kernel_rfl)) (fun _ _ _ h => h) (Or.inl ⟨by rfl, ?_⟩) ?_ ?_
            rotate_left
            · intro w'
              go_simp
              with_reducible rfl
            rotate_left
            · simp only [Act.put, List.setIfInBounds_toArray, List.set_cons_zero, List.set_cons_succ, i64_w, i32_w]
              rfl
            refine pure_ (i := 13) (N := some 2) (v := ?_) (a' := ?_) #[true, true, true, true, true, true, true, true, true, true, true, true, true, true, false] rfl rfl (any_of HT_.out (by kernel_rfl)) (fun _ _ _ h => h) (Or.inl ⟨by rfl, ?_⟩) ?_ ?_
            rotate_left
            · intro w'
              go_simp
              with_reducible rfl
            rotate_left
            · simp only [Act.put, List.setIfInBounds_toArray, List.set_cons_zero, List.set_cons_succ, i64_w, i32_w]
              rfl
            refine pure_ (i := 14) (N := some 3) (v := ?_) (a' := ?_) #[true, true, true, true, true, true, true, true, true, true, true, true, true, true, true] rfl rfl (any_of HT_.out (by kernel_rfl)) (fun _ _ _ h => h) (Or.inl ⟨by rfl, ?_⟩) ?_ ?_
            rotate_left
            · intro w'
              go_simp
              with_reducible rfl
            rotate_left
            · simp only [Act.put, List.setIfInBounds_toArray, List.set_cons_zero, List.set_cons_succ, i64_w, i32_w]
              rfl
            refine done_ (done_of HT_.out (by kernel_rfl)) ?_
            try go_wp2
            go_ret2
            exact ⟨by first | rfl | (simp [errW_none, errW_some] <;> rfl) | (simp [*, errW_none, errW_some] <;> rfl), by repeat (first | (with_reducible first | exact HB.out | apply below_alloc | apply pw_below_drewN | apply below_drew1 | refine below_set ?_ GE247.out) | exact HB.out)⟩
          · rw [if_neg c11] at H
            exact absurd H (by simp)
        · rw [if_neg c9] at H
          exact absurd H (by simp)
      · rw [if_neg c8] at H
        exact absurd H (by simp)
    · rw [if_neg c6] at H
      exact absurd H (by simp)
  · replace c3 := Bool.eq_false_iff.mpr c3
    subst c3
    have H1 : (some ((⟨#[]⟩ : ByteArray), 21)) = some (r1, r2) := by rw [if_neg (show ¬ (false = true) by decide)] at H; exact H
    clear H
    have H := H1
    clear H1
    simp only [Option.some.injEq, Prod.mk.injEq] at H
    obtain ⟨rfl, rfl⟩ := H
    go_enter Tryd.func25, Tryd.ntmps25
    go_wp2_with (first | ((with_reducible refine gate_callee (f := 48) rfl ?_); refine goesL_ (some 6) rfl rfl Tryd.func48 (by kernel_rfl) rfl #[.int .i64 a0] rfl (by (try simp only [List.map_toArray, List.map_cons, List.map_nil]); first | done | rfl | (simp only [List.length_drop, List.length_take]; rfl)) ?_; (with_reducible refine (days_isDay.calls a0 false _ A2.out).mono ?_); rintro e w' ⟨rfl, ⟨nd, rfl⟩⟩; refine ⟨_, rfl, ?_⟩))
    go_ret2
    exact ⟨by first | rfl | (simp [errW_none, errW_some] <;> rfl) | (simp [*, errW_none, errW_some] <;> rfl), by repeat (first | (with_reducible first | exact HB.out | apply below_alloc | apply pw_below_drewN | apply below_drew1) | exact HB.out)⟩

end Go.Proofs.YtlipkhhpjelicaaDoor.PA
