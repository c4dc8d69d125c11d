/- The Go functions of this seat that the laws of part A come to, each as a plain Lean function ('f', its loops 'l0' ..) with a proof that the call comes to its answer. Conditions: where a function comes to a package-level table, the world holds that table ('Tabs'). Written by a program of this session (a changed copy of the print). -/
import Derived.Test.YtlipkhhpjelicaaDoorPAx0
import Derived.Test.YtlipkhhpjelicaaDoorPAx7
import Derived.Test.YtlipkhhpjelicaaDoorPAx9
import Derived.Test.YtlipkhhpjelicaaDoorPAx10
import Derived.Test.YtlipkhhpjelicaaDoorPAx23
import Derived.Test.YtlipkhhpjelicaaDoorHDue
namespace Go.Proofs.YtlipkhhpjelicaaDoor.PA
open Go.RowKit Go.Proofs.YtlipkhhpjelicaaDoorW.PrintWords Go.Proofs.YtlipkhhpjelicaaDoorW.PrintLast Go.Proofs.YtlipkhhpjelicaaDoorW.PrintMore
attribute [local go_sem] max2_int min2_int max_two min_two max_three min_three max_four min_four   -- for this text's walks alone
set_option linter.unusedVariables false
set_option linter.unusedSimpArgs false

/-! ### levylaw2_DaysWork: function 9 -/
mutual
def levylaw2_DaysWork.j0 : Nat → Int → List Int → Int → Int → Option (Bool)
  | 0, _, _, _, _ => none
  | k + 1, x0, x1, x7, x8 => if x8 < x0 then (some false) else (levylaw2_DaysWork.l0 k x0 x1 x7 x8 x0)
def levylaw2_DaysWork.l0 : Nat → Int → List Int → Int → Int → Int → Option (Bool)
  | 0, _, _, _, _, _ => none
  | k + 1, x0, x1, x7, x8, x9 => if x9 ≤ x8 then (levylaw2_DaysWork.j2 k x0 x1 x7 x8 x9 (decide (x9 ≤ 109572))) else (levylaw2_DaysWork.j2 k x0 x1 x7 x8 x9 false)
def levylaw2_DaysWork.j2 : Nat → Int → List Int → Int → Int → Int → Bool → Option (Bool)
  | 0, _, _, _, _, _, _ => none
  | k + 1, x0, x1, x7, x8, x9, x45 => if x45 = true then ((days_Weekday.f x9).bind fun bt370 => (levylaw2_DaysWork.l1 k x0 x1 x7 x8 x9 (decide (bt370.1 ≥ 6)) 0)) else ((days_Add.f k x0 12).bind fun bt373 => (if bt373.2 = 0 then (levylaw2_DaysWork.j4 k x0 x7 bt373.1 (bt373.1 == 109572)) else (levylaw2_DaysWork.j4 k x0 x7 bt373.1 true)))
def levylaw2_DaysWork.l1 : Nat → Int → List Int → Int → Int → Int → Bool → Int → Option (Bool)
  | 0, _, _, _, _, _, _, _ => none
  | k + 1, x0, x1, x7, x8, x9, x12, x13 => if x13 < (x1.length : Int) then (if x12 = true then (levylaw2_DaysWork.l1 k x0 x1 x7 x8 x9 true (wrap64 (x13 + 1))) else (if 0 ≤ x13 then (levylaw2_DaysWork.l1 k x0 x1 x7 x8 x9 ((rd x1 x13) == x9) (wrap64 (x13 + 1))) else (none))) else (if (x12 == (x9 == x8)) = true then (some false) else (levylaw2_DaysWork.l0 k x0 x1 x7 x8 (wrap64 (x9 + 1))))
def levylaw2_DaysWork.j4 : Nat → Int → Int → Int → Bool → Option (Bool)
  | 0, _, _, _, _ => none
  | k + 1, x0, x7, x14, x85 => if x85 = true then (if x7 = 0 then (some true) else (some (x7 == 21))) else ((days_Held.f k x0 x14).bind fun bt375 => ((days_Held.f k x0 (wrap64 (x14 + 1))).bind fun bt377 => (if bt375.2 = 0 then (if bt377.2 = 0 then (if bt375.1 = true then (some false) else (if bt377.1 = true then (if x7 = 0 then (some true) else (some (x7 == 21))) else (some false))) else (some false)) else (some false))))
end
def levylaw2_DaysWork.f (k : Nat) (a0 : Int) (l1 : List Int) : Option (Bool) := (levylaw2_known.f k).bind fun t363 => (if t363 = true then ((levylaw2_day.f a0).bind fun t364 => (if ([] : List Int).length + l1.length < 17592186044416 then ((days_Due.f t364 (([] : List Int) ++ l1)).bind fun bt368 => (if bt368.2 = 0 then (levylaw2_DaysWork.j0 k t364 l1 bt368.2 bt368.1) else (levylaw2_DaysWork.j0 k t364 l1 bt368.2 109573))) else (none))) else (some false))
theorem levylaw2_DaysWork.mono_l : ∀ k, (∀ y0 y1 y2 y3, LeO (levylaw2_DaysWork.j0 k y0 y1 y2 y3) (levylaw2_DaysWork.j0 (k + 1) y0 y1 y2 y3)) ∧ (∀ y0 y1 y2 y3 y4, LeO (levylaw2_DaysWork.l0 k y0 y1 y2 y3 y4) (levylaw2_DaysWork.l0 (k + 1) y0 y1 y2 y3 y4)) ∧ (∀ y0 y1 y2 y3 y4 y5, LeO (levylaw2_DaysWork.j2 k y0 y1 y2 y3 y4 y5) (levylaw2_DaysWork.j2 (k + 1) y0 y1 y2 y3 y4 y5)) ∧ (∀ y0 y1 y2 y3 y4 y5 y6, LeO (levylaw2_DaysWork.l1 k y0 y1 y2 y3 y4 y5 y6) (levylaw2_DaysWork.l1 (k + 1) y0 y1 y2 y3 y4 y5 y6)) ∧ (∀ y0 y1 y2 y3, LeO (levylaw2_DaysWork.j4 k y0 y1 y2 y3) (levylaw2_DaysWork.j4 (k + 1) y0 y1 y2 y3))
  | 0 => ⟨fun _ _ _ _ r h => by simp [levylaw2_DaysWork.j0] at h, fun _ _ _ _ _ r h => by simp [levylaw2_DaysWork.l0] at h, fun _ _ _ _ _ _ r h => by simp [levylaw2_DaysWork.j2] at h, fun _ _ _ _ _ _ _ r h => by simp [levylaw2_DaysWork.l1] at h, fun _ _ _ _ r h => by simp [levylaw2_DaysWork.j4] at h⟩
  | k + 1 => by
    obtain ⟨ih0, ih1, ih2, ih3, ih4⟩ := levylaw2_DaysWork.mono_l k
    refine ⟨?_, ?_, ?_, ?_, ?_⟩
    · intro y0 y1 y2 y3
      unfold levylaw2_DaysWork.j0
      repeat' first
      | (with_reducible exact ih0 _ _ _ _)
      | (with_reducible exact ih1 _ _ _ _ _)
      | (with_reducible exact ih2 _ _ _ _ _ _)
      | (with_reducible exact ih3 _ _ _ _ _ _ _)
      | (with_reducible exact ih4 _ _ _ _)
      | (with_reducible exact days_Add.mono _ _ _)
      | (with_reducible exact days_Held.mono _ _ _)
      | (with_reducible exact levylaw2_known.mono _)
      | (with_reducible exact LeO.refl _)
      | (with_reducible exact LeO.none _)
      | (with_reducible refine LeO.ite ?_ ?_)
      | (with_reducible refine LeO.bind ?_ (fun _ => ?_))
      | exact ih0 _ _ _ _
      | exact ih1 _ _ _ _ _
      | exact ih2 _ _ _ _ _ _
      | exact ih3 _ _ _ _ _ _ _
      | exact ih4 _ _ _ _
      | exact days_Add.mono _ _ _
      | exact days_Held.mono _ _ _
      | exact levylaw2_known.mono _
      | exact LeO.none _
      | refine LeO.ite ?_ ?_
      | refine LeO.bind ?_ (fun _ => ?_)
    · intro y0 y1 y2 y3 y4
      unfold levylaw2_DaysWork.l0
      repeat' first
      | (with_reducible exact ih0 _ _ _ _)
      | (with_reducible exact ih1 _ _ _ _ _)
      | (with_reducible exact ih2 _ _ _ _ _ _)
      | (with_reducible exact ih3 _ _ _ _ _ _ _)
      | (with_reducible exact ih4 _ _ _ _)
      | (with_reducible exact days_Add.mono _ _ _)
      | (with_reducible exact days_Held.mono _ _ _)
      | (with_reducible exact levylaw2_known.mono _)
      | (with_reducible exact LeO.refl _)
      | (with_reducible exact LeO.none _)
      | (with_reducible refine LeO.ite ?_ ?_)
      | (with_reducible refine LeO.bind ?_ (fun _ => ?_))
      | exact ih0 _ _ _ _
      | exact ih1 _ _ _ _ _
      | exact ih2 _ _ _ _ _ _
      | exact ih3 _ _ _ _ _ _ _
      | exact ih4 _ _ _ _
      | exact days_Add.mono _ _ _
      | exact days_Held.mono _ _ _
      | exact levylaw2_known.mono _
      | exact LeO.none _
      | refine LeO.ite ?_ ?_
      | refine LeO.bind ?_ (fun _ => ?_)
    · intro y0 y1 y2 y3 y4 y5
      unfold levylaw2_DaysWork.j2
      repeat' first
      | (with_reducible exact ih0 _ _ _ _)
      | (with_reducible exact ih1 _ _ _ _ _)
      | (with_reducible exact ih2 _ _ _ _ _ _)
      | (with_reducible exact ih3 _ _ _ _ _ _ _)
      | (with_reducible exact ih4 _ _ _ _)
      | (with_reducible exact days_Add.mono _ _ _)
      | (with_reducible exact days_Held.mono _ _ _)
      | (with_reducible exact levylaw2_known.mono _)
      | (with_reducible exact LeO.refl _)
      | (with_reducible exact LeO.none _)
      | (with_reducible refine LeO.ite ?_ ?_)
      | (with_reducible refine LeO.bind ?_ (fun _ => ?_))
      | exact ih0 _ _ _ _
      | exact ih1 _ _ _ _ _
      | exact ih2 _ _ _ _ _ _
      | exact ih3 _ _ _ _ _ _ _
      | exact ih4 _ _ _ _
      | exact days_Add.mono _ _ _
      | exact days_Held.mono _ _ _
      | exact levylaw2_known.mono _
      | exact LeO.none _
      | refine LeO.ite ?_ ?_
      | refine LeO.bind ?_ (fun _ => ?_)
    · intro y0 y1 y2 y3 y4 y5 y6
      unfold levylaw2_DaysWork.l1
      repeat' first
      | (with_reducible exact ih0 _ _ _ _)
      | (with_reducible exact ih1 _ _ _ _ _)
      | (with_reducible exact ih2 _ _ _ _ _ _)
      | (with_reducible exact ih3 _ _ _ _ _ _ _)
      | (with_reducible exact ih4 _ _ _ _)
      | (with_reducible exact days_Add.mono _ _ _)
      | (with_reducible exact days_Held.mono _ _ _)
      | (with_reducible exact levylaw2_known.mono _)
      | (with_reducible exact LeO.refl _)
      | (with_reducible exact LeO.none _)
      | (with_reducible refine LeO.ite ?_ ?_)
      | (with_reducible refine LeO.bind ?_ (fun _ => ?_))
      | exact ih0 _ _ _ _
      | exact ih1 _ _ _ _ _
      | exact ih2 _ _ _ _ _ _
      | exact ih3 _ _ _ _ _ _ _
      | exact ih4 _ _ _ _
      | exact days_Add.mono _ _ _
      | exact days_Held.mono _ _ _
      | exact levylaw2_known.mono _
      | exact LeO.none _
      | refine LeO.ite ?_ ?_
      | refine LeO.bind ?_ (fun _ => ?_)
    · intro y0 y1 y2 y3
      unfold levylaw2_DaysWork.j4
      repeat' first
      | (with_reducible exact ih0 _ _ _ _)
      | (with_reducible exact ih1 _ _ _ _ _)
      | (with_reducible exact ih2 _ _ _ _ _ _)
      | (with_reducible exact ih3 _ _ _ _ _ _ _)
      | (with_reducible exact ih4 _ _ _ _)
      | (with_reducible exact days_Add.mono _ _ _)
      | (with_reducible exact days_Held.mono _ _ _)
      | (with_reducible exact levylaw2_known.mono _)
      | (with_reducible exact LeO.refl _)
      | (with_reducible exact LeO.none _)
      | (with_reducible refine LeO.ite ?_ ?_)
      | (with_reducible refine LeO.bind ?_ (fun _ => ?_))
      | exact ih0 _ _ _ _
      | exact ih1 _ _ _ _ _
      | exact ih2 _ _ _ _ _ _
      | exact ih3 _ _ _ _ _ _ _
      | exact ih4 _ _ _ _
      | exact days_Add.mono _ _ _
      | exact days_Held.mono _ _ _
      | exact levylaw2_known.mono _
      | exact LeO.none _
      | refine LeO.ite ?_ ?_
      | refine LeO.bind ?_ (fun _ => ?_)
theorem levylaw2_DaysWork.mono : ∀ a0 a1 k, LeO (levylaw2_DaysWork.f k a0 a1) (levylaw2_DaysWork.f (k + 1) a0 a1) := by
  intro a0 a1 k
  obtain ⟨ih0, ih1, ih2, ih3, ih4⟩ := levylaw2_DaysWork.mono_l k
  unfold levylaw2_DaysWork.f
  repeat' first
      | (with_reducible exact ih0 _ _ _ _)
      | (with_reducible exact ih1 _ _ _ _ _)
      | (with_reducible exact ih2 _ _ _ _ _ _)
      | (with_reducible exact ih3 _ _ _ _ _ _ _)
      | (with_reducible exact ih4 _ _ _ _)
      | (with_reducible exact days_Add.mono _ _ _)
      | (with_reducible exact days_Held.mono _ _ _)
      | (with_reducible exact levylaw2_known.mono _)
      | (with_reducible exact LeO.refl _)
      | (with_reducible exact LeO.none _)
      | (with_reducible refine LeO.ite ?_ ?_)
      | (with_reducible refine LeO.bind ?_ (fun _ => ?_))
      | exact ih0 _ _ _ _
      | exact ih1 _ _ _ _ _
      | exact ih2 _ _ _ _ _ _
      | exact ih3 _ _ _ _ _ _ _
      | exact ih4 _ _ _ _
      | exact days_Add.mono _ _ _
      | exact days_Held.mono _ _ _
      | exact levylaw2_known.mono _
      | exact LeO.none _
      | refine LeO.ite ?_ ?_
      | refine LeO.bind ?_ (fun _ => ?_)
set_option maxHeartbeats 8000000 in
set_option maxRecDepth 100000 in
theorem levylaw2_DaysWork.calls (k : Nat) (a0 : Int) (A1 : Option Addr) (c1 : Nat) (l1 : List Int) (r : Bool) (w : World) (hT : Tabs w) (hr1 : Kd.C (Kd.int .i64) w A1 l1.length l1) (hc1 : l1.length ≤ c1) (h : levylaw2_DaysWork.f k a0 l1 = some r) :
    Calls Tryd.prog 9 #[.int .i64 a0, .slice A1 l1.length c1] w fun e w' => e = .returned (.bool r) ∧ Below w.heap.size w w' := by
  have HR1 := Aside0.mk hr1
  have HC1 := Aside0.mk hc1
  clear hr1 hc1
  have HB := Aside0.mk (Below.refl w.heap.size w)
  have HT := Aside0.mk hT
  clear hT
  have H : ((levylaw2_known.f k).bind fun t363 => (if t363 = true then ((levylaw2_day.f a0).bind fun t364 => (if ([] : List Int).length + l1.length < 17592186044416 then ((days_Due.f t364 (([] : List Int) ++ l1)).bind fun bt368 => (if bt368.2 = 0 then (levylaw2_DaysWork.j0 k t364 l1 bt368.2 bt368.1) else (levylaw2_DaysWork.j0 k t364 l1 bt368.2 109573))) else (none))) else (some false))) = some r := h
  clear h
  replace H := Option.bind_eq_some_iff.mp H
  obtain ⟨t363, A30, H⟩ := H
  replace H : (if t363 = true then ((levylaw2_day.f a0).bind fun t364 => (if ([] : List Int).length + l1.length < 17592186044416 then ((days_Due.f t364 (([] : List Int) ++ l1)).bind fun bt368 => (if bt368.2 = 0 then (levylaw2_DaysWork.j0 k t364 l1 bt368.2 bt368.1) else (levylaw2_DaysWork.j0 k t364 l1 bt368.2 109573))) else (none))) else (some false)) = some r := H
  have A3 := Aside0.mk A30
  clear A30
  by_cases c4 : t363 = true
  · subst c4
    have H1 : ((levylaw2_day.f a0).bind fun t364 => (if ([] : List Int).length + l1.length < 17592186044416 then ((days_Due.f t364 (([] : List Int) ++ l1)).bind fun bt368 => (if bt368.2 = 0 then (levylaw2_DaysWork.j0 k t364 l1 bt368.2 bt368.1) else (levylaw2_DaysWork.j0 k t364 l1 bt368.2 109573))) else (none))) = some r := by rw [if_pos rfl] at H; exact H
    clear H
    have H := H1
    clear H1
    replace H := Option.bind_eq_some_iff.mp H
    obtain ⟨t364, A50, H⟩ := H
    replace H : (if ([] : List Int).length + l1.length < 17592186044416 then ((days_Due.f t364 (([] : List Int) ++ l1)).bind fun bt368 => (if bt368.2 = 0 then (levylaw2_DaysWork.j0 k t364 l1 bt368.2 bt368.1) else (levylaw2_DaysWork.j0 k t364 l1 bt368.2 109573))) else (none)) = some r := H
    have A5 := Aside0.mk A50
    clear A50
    by_cases c6 : ([] : List Int).length + l1.length < 17592186044416
    · rw [if_pos c6] at H
      have LMc6 := Aside0.mk c6
      clear c6
      obtain ⟨y365, hy365⟩ : ∃ y_ : List Int, y_ = (([] : List Int) ++ l1) := ⟨_, rfl⟩
      replace H : ((days_Due.f t364 y365).bind fun bt368 => (if bt368.2 = 0 then (levylaw2_DaysWork.j0 k t364 l1 bt368.2 bt368.1) else (levylaw2_DaysWork.j0 k t364 l1 bt368.2 109573))) = some r := by first | (rw [hy365]; with_reducible exact H) | (have H2_ := (Option.bind_some _ _).symm.trans H; rw [hy365]; with_reducible exact H2_) | (have H2_ := (Option.bind_some _ _).symm.trans H; with_reducible exact H2_) | with_reducible exact H | (rw [hy365]; exact H) | exact H
      have Ny365 := Aside0.mk hy365
      clear hy365
      replace H := Option.bind_eq_some_iff.mp H
      obtain ⟨⟨t368, t369⟩, A70, H⟩ := H
      replace H : (if t369 = 0 then (levylaw2_DaysWork.j0 k t364 l1 t369 t368) else (levylaw2_DaysWork.j0 k t364 l1 t369 109573)) = some r := H
      have A7 := Aside0.mk A70
      clear A70
      have HC8 := Aside0.mk H
      clear H
      go_enter Tryd.func9, Tryd.ntmps9
      go_upto_if 34 with (first | ((with_reducible refine gate_callee (f := 29) rfl ?_); refine goesL_ (some 20) rfl rfl Tryd.func29 (by kernel_rfl) rfl #[] rfl (by (try simp only [List.map_toArray, List.map_cons, List.map_nil]); first | done | rfl | (simp only [List.length_drop, List.length_take]; rfl)) ?_; (with_reducible refine (levylaw2_known.calls k  true _ ?side1 A3.out).mono ?_); (case side1 => first | (with_reducible exact HT.out) | (with_reducible exact HT.out.below HB.out) | (with_reducible refine Tabs.below HT.out ?_; repeat (first | (with_reducible first | exact HB.out | apply below_alloc | apply pw_below_drewN | apply below_drew1) | exact HB.out))); rintro e w9 ⟨rfl, hb⟩; refine ⟨_, rfl, ?_⟩; have n0_ := Aside0.mk (below_step (by repeat (first | (with_reducible first | exact HB.out | apply below_alloc | apply pw_below_drewN | apply below_drew1) | exact HB.out)) hb); clear HB; have HB := n0_; clear n0_; (try clear hb); (try clear hb2); (try clear hk); (try clear hi)) | ((with_reducible refine gate_callee (f := 30) rfl ?_); refine goesL_ (some 23) rfl rfl Tryd.func30 (by kernel_rfl) rfl #[.int .i64 a0] rfl (by (try simp only [List.map_toArray, List.map_cons, List.map_nil]); first | done | rfl | (simp only [List.length_drop, List.length_take]; rfl)) ?_; (with_reducible refine (levylaw2_day.calls a0 t364 _ A5.out).mono ?_); rintro e w' ⟨rfl, ⟨nd, rfl⟩⟩; refine ⟨_, rfl, ?_⟩) | ((with_reducible refine gate_builtin (b := .append) (xs := #[.const (.slice none 0 0), .tmp 24]) rfl ?_); at_builtin; refine Kd.R_append_rows (Kd.int .i64) (w0 := w) w.heap.size rfl (.const (.slice none 0 0)) (.tmp 24) 66 3 (.int .i64 0) 8 rfl Tryd.underlying66 info3 rfl (by decide) (by omega) (.slice none 0 0) ([] : List Int) l1 _ _ _ (fun _ => True) (fun _ => False) rfl rfl ?aO ?aR (fun _ _ h => h) (fun _ h => h.elim) ?aF ?aB ?aS ?aL ?_; (case aR => repeat (first | exact (Kd.C_below HR1.out (by repeat (first | (with_reducible first | exact HB.out | apply below_alloc | apply pw_below_drewN | apply below_drew1) | exact HB.out))) | (with_reducible refine Kd.C_alloc ?_ _) | (with_reducible refine Kd.C_drewN ?_ _) | (with_reducible refine Kd.C_drew ?_))); (case aB => exact (by repeat (first | (with_reducible first | exact HB.out | apply below_alloc | apply pw_below_drewN | apply below_drew1) | exact HB.out))); (case aF => exact (fun _ _ => trivial)); (case aO => exact ((Kd.R_nil _ _ _ _ (fun _ => True)))); (case aS => exact (below_size (by repeat (first | (with_reducible first | exact HB.out | apply below_alloc | apply pw_below_drewN | apply below_drew1) | exact HB.out)))); (case aL => have := LMc6.out; omega); intro v366 w10 ho hb hg hat; rw [← Ny365.out] at ho; have n0_ := Aside0.mk (hb); have n1_ := Aside0.mk (ho); clear HB; have HB := n0_; have HO367 := n1_; clear n0_ n1_; clear ho hb hg hat; obtain ⟨Ao11, co11, eo11⟩ := Kd.R_slice HO367.out; subst eo11) | ((with_reducible refine gate_callee (f := 34) rfl ?_); refine goesL_ (some 29) rfl rfl Tryd.func34 (by kernel_rfl) rfl #[.int .i64 t364, .slice Ao11 y365.length co11] rfl (by (try simp only [List.map_toArray, List.map_cons, List.map_nil]); first | done | rfl | (simp only [List.length_drop, List.length_take]; rfl)) ?_; (with_reducible refine (days_Due.calls t364 _ _ y365 t368 t369 _ ?side1 ?side2 A7.out).mono ?_); (case side1 => repeat (first | exact (Kd.R_reads' HO367.out).2.2 | (with_reducible refine Kd.C_alloc ?_ _) | (with_reducible refine Kd.C_drewN ?_ _) | (with_reducible refine Kd.C_drew ?_))); (case side2 => exact (Kd.R_reads' HO367.out).2.1); rintro e w12 ⟨rfl, hb⟩; refine ⟨_, rfl, ?_⟩; have n0_ := Aside0.mk (Kd.R_below (by (with_reducible repeat (first | apply Kd.R_alloc | apply Kd.R_drewN | apply Kd.R_drew)); exact HO367.out) hb); have n1_ := Aside0.mk (below_step (by repeat (first | (with_reducible first | exact HB.out | apply below_alloc | apply pw_below_drewN | apply below_drew1) | exact HB.out)) hb); clear HO367; clear HB; have HO367 := n0_; have HB := n1_; clear n0_ n1_; (try clear hb); (try clear hb2); (try clear hk); (try clear hi)))
      (try simp only [Act.put, List.setIfInBounds_toArray, List.set_cons_zero, List.set_cons_succ])
      go_cut [8] (fun v8 wc => ∃ (kq : Nat) (x8_7 : Int), v8 = .int .i64 x8_7 ∧ Aside0 (levylaw2_DaysWork.j0 kq t364 l1 t369 x8_7 = some r) ∧ Aside0 (kq ≤ k) ∧ Aside0 (Below w.heap.size w wc))
      case first =>
        have H := HC8.out
        clear HC8
        by_cases c13 : t369 = 0
        · rw [if_pos c13] at H
          have c13b0 : (t369 == 0) = true := beq_iff_eq.mpr c13
          have c13b1 : (t369 != 0) = false := bne_eq_false_iff_eq.mpr c13
          clear c13
          (first | rw [c13b0] | (simp only [i64_w, i32_w]; rw [c13b0]) | skip)
          have H' := Aside0.mk H
          clear H
          go_wp2
          go_meet
          case rel => exact ⟨_, (t368), (by first | rfl | (simp; done) | (simp [*]; done)), H', ⟨by first | omega | exact Nat.le_refl _⟩, ⟨by repeat (first | (with_reducible first | exact HB.out | apply below_alloc | apply pw_below_drewN | apply below_drew1) | exact HB.out)⟩⟩
        · rw [if_neg c13] at H
          have c13b0 : (t369 == 0) = false := beq_eq_false_iff_ne.mpr c13
          have c13b1 : (t369 != 0) = true := bne_iff_ne.mpr c13
          (first | rw [c13b0] | (simp only [i64_w, i32_w]; rw [c13b0]) | skip)
          have H' := Aside0.mk H
          clear H
          go_wp2
          go_meet
          case rel => exact ⟨_, (109573), (by first | rfl | (simp; done) | (simp [*]; done)), H', ⟨by first | omega | exact Nat.le_refl _⟩, ⟨by repeat (first | (with_reducible first | exact HB.out | apply below_alloc | apply pw_below_drewN | apply below_drew1) | exact HB.out)⟩⟩
      case rest =>
        clear HC8
        try clear c1
        try clear c2
        try clear p2
        try clear c3
        try clear c4
        try clear c6
        try clear c9
        try clear c13
        try clear c13b0
        try clear c13b1
        obtain ⟨kq, x8_7, rfl, HA, HJ7, HB⟩ := hcut
        cases kq with
        | zero => exact absurd HA.out (by simp [levylaw2_DaysWork.j0])
        | succ kj7 =>
          have H := HA.out
          clear HA
          simp only [levylaw2_DaysWork.j0] at H
          by_cases c14 : x8_7 < t364
          · rw [if_pos c14] at H
            have c14b0 : decide (x8_7 < t364) = true := decide_eq_true c14
            clear c14
            obtain rfl := Option.some.inj H
            go_wp2
            go_ret
            exact ⟨by first | rfl | (simp [errW_none, errW_some] <;> rfl) | (simp [*, errW_none, errW_some] <;> rfl), by repeat (first | (with_reducible first | exact HB.out | apply below_alloc | apply pw_below_drewN | apply below_drew1) | exact HB.out)⟩
          · rw [if_neg c14] at H
            have c14b0 : decide (x8_7 < t364) = false := decide_eq_false c14
            clear c14
            have H' := Aside0.mk H
            clear H
            go_wp2
            go_loopg [9] kj7 (fun kq v9 w' => ∃ (x9_2 : Int), v9 = .int .i64 x9_2 ∧ Aside0 (levylaw2_DaysWork.l0 kq t364 l1 t369 x8_7 x9_2 = some r) ∧ Aside0 (kq ≤ kj7) ∧ Aside0 (Below w.heap.size w w'))
            case atStart => exact ⟨(t364), (by first | rfl | (simp; done) | (simp [*]; done)), H', ⟨Nat.le_refl _⟩, ⟨by repeat (first | (with_reducible first | exact HB.out | apply below_alloc | apply pw_below_drewN | apply below_drew1) | exact HB.out)⟩⟩
            case round =>
              clear H'
              try clear c1
              try clear c2
              try clear p2
              try clear c3
              try clear c4
              try clear c6
              try clear c9
              try clear c13
              try clear c13b0
              try clear c13b1
              try clear c14
              try clear c14b0
              try clear p2
              obtain ⟨x9_2, rfl, HA, HK2, HB⟩ := hrel
              cases gk with
              | zero => exact absurd HA.out (by simp [levylaw2_DaysWork.l0])
              | succ k2 =>
                have H := HA.out
                clear HA
                simp only [levylaw2_DaysWork.l0] at H
                have HC15 := Aside0.mk H
                clear H
                go_upto_region 12 with (fail)
                go_cut [45] (fun v45 wc => ∃ (kq : Nat) (x45_14 : Bool), v45 = .bool x45_14 ∧ Aside0 (levylaw2_DaysWork.j2 kq t364 l1 t369 x8_7 x9_2 x45_14 = some r) ∧ Aside0 (kq ≤ k2) ∧ Aside0 (Below w.heap.size w wc))
                case first =>
                  have H := HC15.out
                  clear HC15
                  by_cases c16 : x9_2 ≤ x8_7
                  · rw [if_pos c16] at H
                    have c16b0 : decide (x9_2 ≤ x8_7) = true := decide_eq_true c16
                    clear c16
                    (first | rw [c16b0] | (simp only [i64_w, i32_w]; rw [c16b0]) | skip)
                    have H' := Aside0.mk H
                    clear H
                    go_wp2
                    go_meet
                    case rel => exact ⟨_, (decide (x9_2 ≤ 109572)), (by first | rfl | (simp; done) | (simp [*]; done)), H', ⟨by have := HJ7.out; have := HK2.out; first | omega | exact Nat.le_refl _⟩, ⟨by repeat (first | (with_reducible first | exact HB.out | apply below_alloc | apply pw_below_drewN | apply below_drew1) | exact HB.out)⟩⟩
                  · rw [if_neg c16] at H
                    have c16b0 : decide (x9_2 ≤ x8_7) = false := decide_eq_false c16
                    clear c16
                    (first | rw [c16b0] | (simp only [i64_w, i32_w]; rw [c16b0]) | skip)
                    have H' := Aside0.mk H
                    clear H
                    go_wp2
                    go_meet
                    case rel => exact ⟨_, (false), (by first | rfl | (simp; done) | (simp [*]; done)), H', ⟨by have := HJ7.out; have := HK2.out; first | omega | exact Nat.le_refl _⟩, ⟨by repeat (first | (with_reducible first | exact HB.out | apply below_alloc | apply pw_below_drewN | apply below_drew1) | exact HB.out)⟩⟩
                case rest =>
                  clear HC15
                  try clear c1
                  try clear c2
                  try clear p2
                  try clear c3
                  try clear c4
                  try clear c6
                  try clear c9
                  try clear c13
                  try clear c13b0
                  try clear c13b1
                  try clear c14
                  try clear c14b0
                  try clear c16
                  try clear c16b0
                  try clear p2
                  obtain ⟨kq, x45_14, rfl, HA, HJ14, HB⟩ := hcut
                  cases kq with
                  | zero => exact absurd HA.out (by simp [levylaw2_DaysWork.j2])
                  | succ kj14 =>
                    have H := HA.out
                    clear HA
                    simp only [levylaw2_DaysWork.j2] at H
                    by_cases c17 : x45_14 = true
                    · subst c17
                      have H1 : ((days_Weekday.f x9_2).bind fun bt370 => (levylaw2_DaysWork.l1 kj14 t364 l1 t369 x8_7 x9_2 (decide (bt370.1 ≥ 6)) 0)) = some r := by rw [if_pos rfl] at H; exact H
                      clear H
                      have H := H1
                      clear H1
                      replace H := Option.bind_eq_some_iff.mp H
                      obtain ⟨⟨t370, t371⟩, A180, H⟩ := H
                      replace H : (levylaw2_DaysWork.l1 kj14 t364 l1 t369 x8_7 x9_2 (decide (t370 ≥ 6)) 0) = some r := H
                      have A18 := Aside0.mk A180
                      clear A180
                      have H' := Aside0.mk H
                      clear H
                      go_wp2_with (first | ((with_reducible refine gate_callee (f := 23) rfl ?_); refine goesL_ (some 50) rfl rfl Tryd.func23 (by kernel_rfl) rfl #[.int .i64 x9_2] rfl (by (try simp only [List.map_toArray, List.map_cons, List.map_nil]); first | done | rfl | (simp only [List.length_drop, List.length_take]; rfl)) ?_; (with_reducible refine (days_Weekday.calls x9_2 t370 t371 _ A18.out).mono ?_); rintro e w' ⟨rfl, ⟨nd, rfl⟩⟩; refine ⟨_, rfl, ?_⟩))
                      go_loopg [12, 13] kj14 (fun kq v12 v13 w' => ∃ (x12_4 : Bool) (x13_4 : Int), v12 = .bool x12_4 ∧ v13 = .int .i64 x13_4 ∧ Aside0 (levylaw2_DaysWork.l1 kq t364 l1 t369 x8_7 x9_2 x12_4 x13_4 = some r) ∧ Aside0 (kq ≤ kj14) ∧ Aside0 (Below w.heap.size w w'))
                      case atStart => exact ⟨(decide (t370 ≥ 6)), (0), (by first | rfl | (simp; done) | (simp [*]; done)), (by first | rfl | (simp; done) | (simp [*]; done)), H', ⟨Nat.le_refl _⟩, ⟨by repeat (first | (with_reducible first | exact HB.out | apply below_alloc | apply pw_below_drewN | apply below_drew1) | exact HB.out)⟩⟩
                      case round =>
                        clear H'
                        try clear c1
                        try clear c2
                        try clear p2
                        try clear c3
                        try clear c4
                        try clear c6
                        try clear c9
                        try clear c13
                        try clear c13b0
                        try clear c13b1
                        try clear c14
                        try clear c14b0
                        try clear c16
                        try clear c16b0
                        try clear c17
                        try clear p2
                        obtain ⟨x12_4, x13_4, rfl, rfl, HA, HK4, HB⟩ := hrel
                        cases gk with
                        | zero => exact absurd HA.out (by simp [levylaw2_DaysWork.l1])
                        | succ k4 =>
                          have H := HA.out
                          clear HA
                          simp only [levylaw2_DaysWork.l1] at H
                          by_cases c19 : x13_4 < (l1.length : Int)
                          · rw [if_pos c19] at H
                            have c19b0 : decide (x13_4 < (l1.length : Int)) = true := decide_eq_true c19
                            clear c19
                            by_cases c20 : x12_4 = true
                            · subst c20
                              have H1 : (levylaw2_DaysWork.l1 k4 t364 l1 t369 x8_7 x9_2 true (wrap64 (x13_4 + 1))) = some r := by rw [if_pos rfl] at H; exact H
                              clear H
                              have H := H1
                              clear H1
                              have H' := Aside0.mk H
                              clear H
                              go_wp2
                              go_roundg k4
                              case measure => have := HJ7.out; have := HK2.out; have := HJ14.out; have := HK4.out; omega
                              case rel => exact ⟨(true), (wrap64 (x13_4 + 1)), (by first | rfl | (simp; done) | (simp [*]; done)), (by first | rfl | (simp; done) | (simp [*]; done)), H', ⟨by have := HJ7.out; have := HK2.out; have := HJ14.out; have := HK4.out; omega⟩, ⟨by repeat (first | (with_reducible first | exact HB.out | apply below_alloc | apply pw_below_drewN | apply below_drew1) | exact HB.out)⟩⟩
                            · replace c20 := Bool.eq_false_iff.mpr c20
                              subst c20
                              have H1 : (if 0 ≤ x13_4 then (levylaw2_DaysWork.l1 k4 t364 l1 t369 x8_7 x9_2 ((rd l1 x13_4) == x9_2) (wrap64 (x13_4 + 1))) else (none)) = some r := by rw [if_neg (show ¬ (false = true) by decide)] at H; exact H
                              clear H
                              have H := H1
                              clear H1
                              by_cases c21 : 0 ≤ x13_4
                              · rw [if_pos c21] at H
                                have c21b0 : decide (0 ≤ x13_4) = true := decide_eq_true c21
                                clear c21
                                have H' := Aside0.mk H
                                clear H
                                have p372 : 0 ≤ (x13_4 : Int) := of_decide_eq_true (by first | (with_reducible assumption) | assumption)
                                have q372 : x13_4 < (l1.length : Int) := of_decide_eq_true (by first | (with_reducible assumption) | assumption)
                                obtain ⟨ad372, e372, hx372_0⟩ := Kd.at_int HR1.out x13_4 p372 q372
                                cases e372
                                replace hx372_0 := (HB.out.cell (World.block_lt_of_cell? w _ hx372_0)).trans hx372_0
                                replace p372 := eq_true p372
                                replace q372 := eq_true q372
                                go_wp2
                                go_roundg k4
                                case measure => have := HJ7.out; have := HK2.out; have := HJ14.out; have := HK4.out; omega
                                case rel => exact ⟨(((rd l1 x13_4) == x9_2)), (wrap64 (x13_4 + 1)), (by first | rfl | (simp; done) | (simp [*]; done)), (by first | rfl | (simp; done) | (simp [*]; done)), H', ⟨by have := HJ7.out; have := HK2.out; have := HJ14.out; have := HK4.out; omega⟩, ⟨by repeat (first | (with_reducible first | exact HB.out | apply below_alloc | apply pw_below_drewN | apply below_drew1) | exact HB.out)⟩⟩
                              · rw [if_neg c21] at H
                                exact absurd H (by simp)
                          · rw [if_neg c19] at H
                            have c19b0 : decide (x13_4 < (l1.length : Int)) = false := decide_eq_false c19
                            clear c19
                            by_cases c22 : (x12_4 == (x9_2 == x8_7)) = true
                            · rw [if_pos c22] at H
                              have c22b0 : (x12_4 == (x9_2 == x8_7)) = true := c22
                              (try (have c22b1 : decide (x12_4 = (x9_2 == x8_7)) = true := by simpa using c22))
                              (try (have c22b2 : (x12_4 == (x9_2 == x8_7)) = true := by simpa using c22))
                              clear c22
                              obtain rfl := Option.some.inj H
                              go_wp2
                              go_ret
                              exact ⟨by first | rfl | (simp [errW_none, errW_some] <;> rfl) | (simp [*, errW_none, errW_some] <;> rfl), by repeat (first | (with_reducible first | exact HB.out | apply below_alloc | apply pw_below_drewN | apply below_drew1) | exact HB.out)⟩
                            · rw [if_neg c22] at H
                              have c22b0 : (x12_4 == (x9_2 == x8_7)) = false := by simpa using c22
                              (try (have c22b1 : decide (x12_4 = (x9_2 == x8_7)) = false := by simpa using c22))
                              (try (have c22b2 : (x12_4 == (x9_2 == x8_7)) = false := by simpa using c22))
                              (try (have c22b3 : ¬ (x12_4 = (x9_2 == x8_7)) := by simpa using c22))
                              clear c22
                              have H' := Aside0.mk H
                              clear H
                              go_wp2
                              go_roundg k4
                              case measure => have := HJ7.out; have := HK2.out; have := HJ14.out; have := HK4.out; omega
                              case rel => exact ⟨(wrap64 (x9_2 + 1)), (by first | rfl | (simp; done) | (simp [*]; done)), H', ⟨by have := HJ7.out; have := HK2.out; have := HJ14.out; have := HK4.out; omega⟩, ⟨by repeat (first | (with_reducible first | exact HB.out | apply below_alloc | apply pw_below_drewN | apply below_drew1) | exact HB.out)⟩⟩
                    · replace c17 := Bool.eq_false_iff.mpr c17
                      subst c17
                      have H1 : ((days_Add.f kj14 t364 12).bind fun bt373 => (if bt373.2 = 0 then (levylaw2_DaysWork.j4 kj14 t364 t369 bt373.1 (bt373.1 == 109572)) else (levylaw2_DaysWork.j4 kj14 t364 t369 bt373.1 true))) = some r := by rw [if_neg (show ¬ (false = true) by decide)] at H; exact H
                      clear H
                      have H := H1
                      clear H1
                      replace H := Option.bind_eq_some_iff.mp H
                      obtain ⟨⟨t373, t374⟩, A230, H⟩ := H
                      replace H : (if t374 = 0 then (levylaw2_DaysWork.j4 kj14 t364 t369 t373 (t373 == 109572)) else (levylaw2_DaysWork.j4 kj14 t364 t369 t373 true)) = some r := H
                      have A23 := Aside0.mk A230
                      clear A230
                      have HC24 := Aside0.mk H
                      clear H
                      go_upto_region 23 with (first | ((with_reducible refine gate_callee (f := 31) rfl ?_); refine goesL_ (some 77) rfl rfl Tryd.func31 (by kernel_rfl) rfl #[.int .i64 t364, .int .i64 12] rfl (by (try simp only [List.map_toArray, List.map_cons, List.map_nil]); first | done | rfl | (simp only [List.length_drop, List.length_take]; rfl)) ?_; (with_reducible refine (days_Add.calls kj14 t364 12 t373 t374 _ ?side1 A23.out).mono ?_); (case side1 => first | (with_reducible exact HT.out) | (with_reducible exact HT.out.below HB.out) | (with_reducible refine Tabs.below HT.out ?_; repeat (first | (with_reducible first | exact HB.out | apply below_alloc | apply pw_below_drewN | apply below_drew1) | exact HB.out))); rintro e w25 ⟨rfl, hb⟩; refine ⟨_, rfl, ?_⟩; have n0_ := Aside0.mk (below_step (by repeat (first | (with_reducible first | exact HB.out | apply below_alloc | apply pw_below_drewN | apply below_drew1) | exact HB.out)) hb); clear HB; have HB := n0_; clear n0_; (try clear hb); (try clear hb2); (try clear hk); (try clear hi)))
                      (try simp only [Act.put, List.setIfInBounds_toArray, List.set_cons_zero, List.set_cons_succ])
                      go_cut [85] (fun v85 wc => ∃ (kq : Nat) (x85_23 : Bool), v85 = .bool x85_23 ∧ Aside0 (levylaw2_DaysWork.j4 kq t364 t369 t373 x85_23 = some r) ∧ Aside0 (kq ≤ kj14) ∧ Aside0 (Below w.heap.size w wc))
                      case first =>
                        have H := HC24.out
                        clear HC24
                        by_cases c26 : t374 = 0
                        · rw [if_pos c26] at H
                          have c26b0 : (t374 == 0) = true := beq_iff_eq.mpr c26
                          have c26b1 : (t374 != 0) = false := bne_eq_false_iff_eq.mpr c26
                          clear c26
                          (first | rw [c26b0] | (simp only [i64_w, i32_w]; rw [c26b0]) | skip)
                          have H' := Aside0.mk H
                          clear H
                          go_wp2
                          go_meet
                          case rel => exact ⟨_, ((t373 == 109572)), (by first | rfl | (simp; done) | (simp [*]; done)), H', ⟨by have := HJ7.out; have := HK2.out; have := HJ14.out; first | omega | exact Nat.le_refl _⟩, ⟨by repeat (first | (with_reducible first | exact HB.out | apply below_alloc | apply pw_below_drewN | apply below_drew1) | exact HB.out)⟩⟩
                        · rw [if_neg c26] at H
                          have c26b0 : (t374 == 0) = false := beq_eq_false_iff_ne.mpr c26
                          have c26b1 : (t374 != 0) = true := bne_iff_ne.mpr c26
                          (first | rw [c26b0] | (simp only [i64_w, i32_w]; rw [c26b0]) | skip)
                          have H' := Aside0.mk H
                          clear H
                          go_wp2
                          go_meet
                          case rel => exact ⟨_, (true), (by first | rfl | (simp; done) | (simp [*]; done)), H', ⟨by have := HJ7.out; have := HK2.out; have := HJ14.out; first | omega | exact Nat.le_refl _⟩, ⟨by repeat (first | (with_reducible first | exact HB.out | apply below_alloc | apply pw_below_drewN | apply below_drew1) | exact HB.out)⟩⟩
                      case rest =>
                        clear HC24
                        try clear c1
                        try clear c2
                        try clear p2
                        try clear c3
                        try clear p3
                        try clear q3
                        try clear hx3
                        try clear c4
                        try clear c6
                        try clear p6
                        try clear c9
                        try clear c13
                        try clear c13b0
                        try clear c13b1
                        try clear c14
                        try clear c14b0
                        try clear c16
                        try clear c16b0
                        try clear c17
                        try clear c19
                        try clear c19b0
                        try clear c20
                        try clear c21
                        try clear c21b0
                        try clear c22
                        try clear c22b0
                        try clear c22b1
                        try clear c22b2
                        try clear c23
                        try clear c26
                        try clear c26b0
                        try clear c26b1
                        try clear hx372_0
                        try clear p2
                        try clear p372
                        try clear q372
                        obtain ⟨kq, x85_23, rfl, HA, HJ23, HB⟩ := hcut
                        cases kq with
                        | zero => exact absurd HA.out (by simp [levylaw2_DaysWork.j4])
                        | succ kj23 =>
                          have H := HA.out
                          clear HA
                          simp only [levylaw2_DaysWork.j4] at H
                          by_cases c27 : x85_23 = true
                          · subst c27
                            have H1 : (if t369 = 0 then (some true) else (some (t369 == 21))) = some r := by rw [if_pos rfl] at H; exact H
                            clear H
                            have H := H1
                            clear H1
                            by_cases c28 : t369 = 0
                            · rw [if_pos c28] at H
                              have c28b0 : (t369 == 0) = true := beq_iff_eq.mpr c28
                              have c28b1 : (t369 != 0) = false := bne_eq_false_iff_eq.mpr c28
                              clear c28
                              obtain rfl := Option.some.inj H
                              go_wp2
                              go_ret
                              exact ⟨by first | rfl | (simp [errW_none, errW_some] <;> rfl) | (simp [*, errW_none, errW_some] <;> rfl), by repeat (first | (with_reducible first | exact HB.out | apply below_alloc | apply pw_below_drewN | apply below_drew1) | exact HB.out)⟩
                            · rw [if_neg c28] at H
                              have c28b0 : (t369 == 0) = false := beq_eq_false_iff_ne.mpr c28
                              have c28b1 : (t369 != 0) = true := bne_iff_ne.mpr c28
                              obtain rfl := Option.some.inj H
                              go_wp2
                              go_ret
                              exact ⟨by first | rfl | (simp [errW_none, errW_some] <;> rfl) | (simp [*, errW_none, errW_some] <;> rfl), by repeat (first | (with_reducible first | exact HB.out | apply below_alloc | apply pw_below_drewN | apply below_drew1) | exact HB.out)⟩
                          · replace c27 := Bool.eq_false_iff.mpr c27
                            subst c27
                            have H1 : ((days_Held.f kj23 t364 t373).bind fun bt375 => ((days_Held.f kj23 t364 (wrap64 (t373 + 1))).bind fun bt377 => (if bt375.2 = 0 then (if bt377.2 = 0 then (if bt375.1 = true then (some false) else (if bt377.1 = true then (if t369 = 0 then (some true) else (some (t369 == 21))) else (some false))) else (some false)) else (some false)))) = some r := by rw [if_neg (show ¬ (false = true) by decide)] at H; exact H
                            clear H
                            have H := H1
                            clear H1
                            replace H := Option.bind_eq_some_iff.mp H
                            obtain ⟨⟨t375, t376⟩, A290, H⟩ := H
                            replace H : ((days_Held.f kj23 t364 (wrap64 (t373 + 1))).bind fun bt377 => (if t376 = 0 then (if bt377.2 = 0 then (if t375 = true then (some false) else (if bt377.1 = true then (if t369 = 0 then (some true) else (some (t369 == 21))) else (some false))) else (some false)) else (some false))) = some r := H
                            have A29 := Aside0.mk A290
                            clear A290
                            replace H := Option.bind_eq_some_iff.mp H
                            obtain ⟨⟨t377, t378⟩, A300, H⟩ := H
                            replace H : (if t376 = 0 then (if t378 = 0 then (if t375 = true then (some false) else (if t377 = true then (if t369 = 0 then (some true) else (some (t369 == 21))) else (some false))) else (some false)) else (some false)) = some r := H
                            have A30 := Aside0.mk A300
                            clear A300
                            by_cases c31 : t376 = 0
                            · rw [if_pos c31] at H
                              have c31b0 : (t376 == 0) = true := beq_iff_eq.mpr c31
                              have c31b1 : (t376 != 0) = false := bne_eq_false_iff_eq.mpr c31
                              clear c31
                              by_cases c32 : t378 = 0
                              · rw [if_pos c32] at H
                                have c32b0 : (t378 == 0) = true := beq_iff_eq.mpr c32
                                have c32b1 : (t378 != 0) = false := bne_eq_false_iff_eq.mpr c32
                                clear c32
                                by_cases c33 : t375 = true
                                · subst c33
                                  have H1 : (some false) = some r := by rw [if_pos rfl] at H; exact H
                                  clear H
                                  have H := H1
                                  clear H1
                                  obtain rfl := Option.some.inj H
                                  go_wp2_with (first | ((with_reducible refine gate_callee (f := 35) rfl ?_); refine goesL_ (some 95) rfl rfl Tryd.func35 (by kernel_rfl) rfl #[.int .i64 t364, .int .i64 t373] rfl (by (try simp only [List.map_toArray, List.map_cons, List.map_nil]); first | done | rfl | (simp only [List.length_drop, List.length_take]; rfl)) ?_; (with_reducible refine (days_Held.calls kj23 t364 t373 true t376 _ ?side1 A29.out).mono ?_); (case side1 => first | (with_reducible exact HT.out) | (with_reducible exact HT.out.below HB.out) | (with_reducible refine Tabs.below HT.out ?_; repeat (first | (with_reducible first | exact HB.out | apply below_alloc | apply pw_below_drewN | apply below_drew1) | exact HB.out))); rintro e w34 ⟨rfl, hb⟩; refine ⟨_, rfl, ?_⟩; have n0_ := Aside0.mk (below_step (by repeat (first | (with_reducible first | exact HB.out | apply below_alloc | apply pw_below_drewN | apply below_drew1) | exact HB.out)) hb); clear HB; have HB := n0_; clear n0_; (try clear hb); (try clear hb2); (try clear hk); (try clear hi)) | ((with_reducible refine gate_callee (f := 35) rfl ?_); refine goesL_ (some 102) rfl rfl Tryd.func35 (by kernel_rfl) rfl #[.int .i64 t364, .int .i64 (wrap64 (t373 + 1))] rfl (by (try simp only [List.map_toArray, List.map_cons, List.map_nil]); first | done | rfl | (simp only [List.length_drop, List.length_take]; rfl)) ?_; (with_reducible refine (days_Held.calls kj23 t364 (wrap64 (t373 + 1)) t377 t378 _ ?side1 A30.out).mono ?_); (case side1 => first | (with_reducible exact HT.out) | (with_reducible exact HT.out.below HB.out) | (with_reducible refine Tabs.below HT.out ?_; repeat (first | (with_reducible first | exact HB.out | apply below_alloc | apply pw_below_drewN | apply below_drew1) | exact HB.out))); rintro e w35 ⟨rfl, hb⟩; refine ⟨_, rfl, ?_⟩; have n0_ := Aside0.mk (below_step (by repeat (first | (with_reducible first | exact HB.out | apply below_alloc | apply pw_below_drewN | apply below_drew1) | exact HB.out)) hb); clear HB; have HB := n0_; clear n0_; (try clear hb); (try clear hb2); (try clear hk); (try clear hi)))
                                  go_ret
                                  exact ⟨by first | rfl | (simp [errW_none, errW_some] <;> rfl) | (simp [*, errW_none, errW_some] <;> rfl), by repeat (first | (with_reducible first | exact HB.out | apply below_alloc | apply pw_below_drewN | apply below_drew1) | exact HB.out)⟩
                                · replace c33 := Bool.eq_false_iff.mpr c33
                                  subst c33
                                  have H1 : (if t377 = true then (if t369 = 0 then (some true) else (some (t369 == 21))) else (some false)) = some r := by rw [if_neg (show ¬ (false = true) by decide)] at H; exact H
                                  clear H
                                  have H := H1
                                  clear H1
                                  by_cases c36 : t377 = true
                                  · subst c36
                                    have H1 : (if t369 = 0 then (some true) else (some (t369 == 21))) = some r := by rw [if_pos rfl] at H; exact H
                                    clear H
                                    have H := H1
                                    clear H1
                                    by_cases c37 : t369 = 0
                                    · rw [if_pos c37] at H
                                      have c37b0 : (t369 == 0) = true := beq_iff_eq.mpr c37
                                      have c37b1 : (t369 != 0) = false := bne_eq_false_iff_eq.mpr c37
                                      clear c37
                                      obtain rfl := Option.some.inj H
                                      go_wp2_with (first | ((with_reducible refine gate_callee (f := 35) rfl ?_); refine goesL_ (some 95) rfl rfl Tryd.func35 (by kernel_rfl) rfl #[.int .i64 t364, .int .i64 t373] rfl (by (try simp only [List.map_toArray, List.map_cons, List.map_nil]); first | done | rfl | (simp only [List.length_drop, List.length_take]; rfl)) ?_; (with_reducible refine (days_Held.calls kj23 t364 t373 false t376 _ ?side1 A29.out).mono ?_); (case side1 => first | (with_reducible exact HT.out) | (with_reducible exact HT.out.below HB.out) | (with_reducible refine Tabs.below HT.out ?_; repeat (first | (with_reducible first | exact HB.out | apply below_alloc | apply pw_below_drewN | apply below_drew1) | exact HB.out))); rintro e w38 ⟨rfl, hb⟩; refine ⟨_, rfl, ?_⟩; have n0_ := Aside0.mk (below_step (by repeat (first | (with_reducible first | exact HB.out | apply below_alloc | apply pw_below_drewN | apply below_drew1) | exact HB.out)) hb); clear HB; have HB := n0_; clear n0_; (try clear hb); (try clear hb2); (try clear hk); (try clear hi)) | ((with_reducible refine gate_callee (f := 35) rfl ?_); refine goesL_ (some 102) rfl rfl Tryd.func35 (by kernel_rfl) rfl #[.int .i64 t364, .int .i64 (wrap64 (t373 + 1))] rfl (by (try simp only [List.map_toArray, List.map_cons, List.map_nil]); first | done | rfl | (simp only [List.length_drop, List.length_take]; rfl)) ?_; (with_reducible refine (days_Held.calls kj23 t364 (wrap64 (t373 + 1)) true t378 _ ?side1 A30.out).mono ?_); (case side1 => first | (with_reducible exact HT.out) | (with_reducible exact HT.out.below HB.out) | (with_reducible refine Tabs.below HT.out ?_; repeat (first | (with_reducible first | exact HB.out | apply below_alloc | apply pw_below_drewN | apply below_drew1) | exact HB.out))); rintro e w39 ⟨rfl, hb⟩; refine ⟨_, rfl, ?_⟩; have n0_ := Aside0.mk (below_step (by repeat (first | (with_reducible first | exact HB.out | apply below_alloc | apply pw_below_drewN | apply below_drew1) | exact HB.out)) hb); clear HB; have HB := n0_; clear n0_; (try clear hb); (try clear hb2); (try clear hk); (try clear hi)))
                                      go_ret
                                      exact ⟨by first | rfl | (simp [errW_none, errW_some] <;> rfl) | (simp [*, errW_none, errW_some] <;> rfl), by repeat (first | (with_reducible first | exact HB.out | apply below_alloc | apply pw_below_drewN | apply below_drew1) | exact HB.out)⟩
                                    · rw [if_neg c37] at H
                                      have c37b0 : (t369 == 0) = false := beq_eq_false_iff_ne.mpr c37
                                      have c37b1 : (t369 != 0) = true := bne_iff_ne.mpr c37
                                      obtain rfl := Option.some.inj H
                                      go_wp2_with (first | ((with_reducible refine gate_callee (f := 35) rfl ?_); refine goesL_ (some 95) rfl rfl Tryd.func35 (by kernel_rfl) rfl #[.int .i64 t364, .int .i64 t373] rfl (by (try simp only [List.map_toArray, List.map_cons, List.map_nil]); first | done | rfl | (simp only [List.length_drop, List.length_take]; rfl)) ?_; (with_reducible refine (days_Held.calls kj23 t364 t373 false t376 _ ?side1 A29.out).mono ?_); (case side1 => first | (with_reducible exact HT.out) | (with_reducible exact HT.out.below HB.out) | (with_reducible refine Tabs.below HT.out ?_; repeat (first | (with_reducible first | exact HB.out | apply below_alloc | apply pw_below_drewN | apply below_drew1) | exact HB.out))); rintro e w40 ⟨rfl, hb⟩; refine ⟨_, rfl, ?_⟩; have n0_ := Aside0.mk (below_step (by repeat (first | (with_reducible first | exact HB.out | apply below_alloc | apply pw_below_drewN | apply below_drew1) | exact HB.out)) hb); clear HB; have HB := n0_; clear n0_; (try clear hb); (try clear hb2); (try clear hk); (try clear hi)) | ((with_reducible refine gate_callee (f := 35) rfl ?_); refine goesL_ (some 102) rfl rfl Tryd.func35 (by kernel_rfl) rfl #[.int .i64 t364, .int .i64 (wrap64 (t373 + 1))] rfl (by (try simp only [List.map_toArray, List.map_cons, List.map_nil]); first | done | rfl | (simp only [List.length_drop, List.length_take]; rfl)) ?_; (with_reducible refine (days_Held.calls kj23 t364 (wrap64 (t373 + 1)) true t378 _ ?side1 A30.out).mono ?_); (case side1 => first | (with_reducible exact HT.out) | (with_reducible exact HT.out.below HB.out) | (with_reducible refine Tabs.below HT.out ?_; repeat (first | (with_reducible first | exact HB.out | apply below_alloc | apply pw_below_drewN | apply below_drew1) | exact HB.out))); rintro e w41 ⟨rfl, hb⟩; refine ⟨_, rfl, ?_⟩; have n0_ := Aside0.mk (below_step (by repeat (first | (with_reducible first | exact HB.out | apply below_alloc | apply pw_below_drewN | apply below_drew1) | exact HB.out)) hb); clear HB; have HB := n0_; clear n0_; (try clear hb); (try clear hb2); (try clear hk); (try clear hi)))
                                      go_ret
                                      exact ⟨by first | rfl | (simp [errW_none, errW_some] <;> rfl) | (simp [*, errW_none, errW_some] <;> rfl), by repeat (first | (with_reducible first | exact HB.out | apply below_alloc | apply pw_below_drewN | apply below_drew1) | exact HB.out)⟩
                                  · replace c36 := Bool.eq_false_iff.mpr c36
                                    subst c36
                                    have H1 : (some false) = some r := by rw [if_neg (show ¬ (false = true) by decide)] at H; exact H
                                    clear H
                                    have H := H1
                                    clear H1
                                    obtain rfl := Option.some.inj H
                                    go_wp2_with (first | ((with_reducible refine gate_callee (f := 35) rfl ?_); refine goesL_ (some 95) rfl rfl Tryd.func35 (by kernel_rfl) rfl #[.int .i64 t364, .int .i64 t373] rfl (by (try simp only [List.map_toArray, List.map_cons, List.map_nil]); first | done | rfl | (simp only [List.length_drop, List.length_take]; rfl)) ?_; (with_reducible refine (days_Held.calls kj23 t364 t373 false t376 _ ?side1 A29.out).mono ?_); (case side1 => first | (with_reducible exact HT.out) | (with_reducible exact HT.out.below HB.out) | (with_reducible refine Tabs.below HT.out ?_; repeat (first | (with_reducible first | exact HB.out | apply below_alloc | apply pw_below_drewN | apply below_drew1) | exact HB.out))); rintro e w42 ⟨rfl, hb⟩; refine ⟨_, rfl, ?_⟩; have n0_ := Aside0.mk (below_step (by repeat (first | (with_reducible first | exact HB.out | apply below_alloc | apply pw_below_drewN | apply below_drew1) | exact HB.out)) hb); clear HB; have HB := n0_; clear n0_; (try clear hb); (try clear hb2); (try clear hk); (try clear hi)) | ((with_reducible refine gate_callee (f := 35) rfl ?_); refine goesL_ (some 102) rfl rfl Tryd.func35 (by kernel_rfl) rfl #[.int .i64 t364, .int .i64 (wrap64 (t373 + 1))] rfl (by (try simp only [List.map_toArray, List.map_cons, List.map_nil]); first | done | rfl | (simp only [List.length_drop, List.length_take]; rfl)) ?_; (with_reducible refine (days_Held.calls kj23 t364 (wrap64 (t373 + 1)) false t378 _ ?side1 A30.out).mono ?_); (case side1 => first | (with_reducible exact HT.out) | (with_reducible exact HT.out.below HB.out) | (with_reducible refine Tabs.below HT.out ?_; repeat (first | (with_reducible first | exact HB.out | apply below_alloc | apply pw_below_drewN | apply below_drew1) | exact HB.out))); rintro e w43 ⟨rfl, hb⟩; refine ⟨_, rfl, ?_⟩; have n0_ := Aside0.mk (below_step (by repeat (first | (with_reducible first | exact HB.out | apply below_alloc | apply pw_below_drewN | apply below_drew1) | exact HB.out)) hb); clear HB; have HB := n0_; clear n0_; (try clear hb); (try clear hb2); (try clear hk); (try clear hi)))
                                    go_ret
                                    exact ⟨by first | rfl | (simp [errW_none, errW_some] <;> rfl) | (simp [*, errW_none, errW_some] <;> rfl), by repeat (first | (with_reducible first | exact HB.out | apply below_alloc | apply pw_below_drewN | apply below_drew1) | exact HB.out)⟩
                              · rw [if_neg c32] at H
                                have c32b0 : (t378 == 0) = false := beq_eq_false_iff_ne.mpr c32
                                have c32b1 : (t378 != 0) = true := bne_iff_ne.mpr c32
                                obtain rfl := Option.some.inj H
                                go_wp2_with (first | ((with_reducible refine gate_callee (f := 35) rfl ?_); refine goesL_ (some 95) rfl rfl Tryd.func35 (by kernel_rfl) rfl #[.int .i64 t364, .int .i64 t373] rfl (by (try simp only [List.map_toArray, List.map_cons, List.map_nil]); first | done | rfl | (simp only [List.length_drop, List.length_take]; rfl)) ?_; (with_reducible refine (days_Held.calls kj23 t364 t373 t375 t376 _ ?side1 A29.out).mono ?_); (case side1 => first | (with_reducible exact HT.out) | (with_reducible exact HT.out.below HB.out) | (with_reducible refine Tabs.below HT.out ?_; repeat (first | (with_reducible first | exact HB.out | apply below_alloc | apply pw_below_drewN | apply below_drew1) | exact HB.out))); rintro e w44 ⟨rfl, hb⟩; refine ⟨_, rfl, ?_⟩; have n0_ := Aside0.mk (below_step (by repeat (first | (with_reducible first | exact HB.out | apply below_alloc | apply pw_below_drewN | apply below_drew1) | exact HB.out)) hb); clear HB; have HB := n0_; clear n0_; (try clear hb); (try clear hb2); (try clear hk); (try clear hi)) | ((with_reducible refine gate_callee (f := 35) rfl ?_); refine goesL_ (some 102) rfl rfl Tryd.func35 (by kernel_rfl) rfl #[.int .i64 t364, .int .i64 (wrap64 (t373 + 1))] rfl (by (try simp only [List.map_toArray, List.map_cons, List.map_nil]); first | done | rfl | (simp only [List.length_drop, List.length_take]; rfl)) ?_; (with_reducible refine (days_Held.calls kj23 t364 (wrap64 (t373 + 1)) t377 t378 _ ?side1 A30.out).mono ?_); (case side1 => first | (with_reducible exact HT.out) | (with_reducible exact HT.out.below HB.out) | (with_reducible refine Tabs.below HT.out ?_; repeat (first | (with_reducible first | exact HB.out | apply below_alloc | apply pw_below_drewN | apply below_drew1) | exact HB.out))); rintro e w45 ⟨rfl, hb⟩; refine ⟨_, rfl, ?_⟩; have n0_ := Aside0.mk (below_step (by repeat (first | (with_reducible first | exact HB.out | apply below_alloc | apply pw_below_drewN | apply below_drew1) | exact HB.out)) hb); clear HB; have HB := n0_; clear n0_; (try clear hb); (try clear hb2); (try clear hk); (try clear hi)))
                                go_ret
                                exact ⟨by first | rfl | (simp [errW_none, errW_some] <;> rfl) | (simp [*, errW_none, errW_some] <;> rfl), by repeat (first | (with_reducible first | exact HB.out | apply below_alloc | apply pw_below_drewN | apply below_drew1) | exact HB.out)⟩
                            · rw [if_neg c31] at H
                              have c31b0 : (t376 == 0) = false := beq_eq_false_iff_ne.mpr c31
                              have c31b1 : (t376 != 0) = true := bne_iff_ne.mpr c31
                              obtain rfl := Option.some.inj H
                              go_wp2_with (first | ((with_reducible refine gate_callee (f := 35) rfl ?_); refine goesL_ (some 95) rfl rfl Tryd.func35 (by kernel_rfl) rfl #[.int .i64 t364, .int .i64 t373] rfl (by (try simp only [List.map_toArray, List.map_cons, List.map_nil]); first | done | rfl | (simp only [List.length_drop, List.length_take]; rfl)) ?_; (with_reducible refine (days_Held.calls kj23 t364 t373 t375 t376 _ ?side1 A29.out).mono ?_); (case side1 => first | (with_reducible exact HT.out) | (with_reducible exact HT.out.below HB.out) | (with_reducible refine Tabs.below HT.out ?_; repeat (first | (with_reducible first | exact HB.out | apply below_alloc | apply pw_below_drewN | apply below_drew1) | exact HB.out))); rintro e w46 ⟨rfl, hb⟩; refine ⟨_, rfl, ?_⟩; have n0_ := Aside0.mk (below_step (by repeat (first | (with_reducible first | exact HB.out | apply below_alloc | apply pw_below_drewN | apply below_drew1) | exact HB.out)) hb); clear HB; have HB := n0_; clear n0_; (try clear hb); (try clear hb2); (try clear hk); (try clear hi)) | ((with_reducible refine gate_callee (f := 35) rfl ?_); refine goesL_ (some 102) rfl rfl Tryd.func35 (by kernel_rfl) rfl #[.int .i64 t364, .int .i64 (wrap64 (t373 + 1))] rfl (by (try simp only [List.map_toArray, List.map_cons, List.map_nil]); first | done | rfl | (simp only [List.length_drop, List.length_take]; rfl)) ?_; (with_reducible refine (days_Held.calls kj23 t364 (wrap64 (t373 + 1)) t377 t378 _ ?side1 A30.out).mono ?_); (case side1 => first | (with_reducible exact HT.out) | (with_reducible exact HT.out.below HB.out) | (with_reducible refine Tabs.below HT.out ?_; repeat (first | (with_reducible first | exact HB.out | apply below_alloc | apply pw_below_drewN | apply below_drew1) | exact HB.out))); rintro e w47 ⟨rfl, hb⟩; refine ⟨_, rfl, ?_⟩; have n0_ := Aside0.mk (below_step (by repeat (first | (with_reducible first | exact HB.out | apply below_alloc | apply pw_below_drewN | apply below_drew1) | exact HB.out)) hb); clear HB; have HB := n0_; clear n0_; (try clear hb); (try clear hb2); (try clear hk); (try clear hi)))
                              go_ret
                              exact ⟨by first | rfl | (simp [errW_none, errW_some] <;> rfl) | (simp [*, errW_none, errW_some] <;> rfl), by repeat (first | (with_reducible first | exact HB.out | apply below_alloc | apply pw_below_drewN | apply below_drew1) | exact HB.out)⟩
    · rw [if_neg c6] at H
      exact absurd H (by simp)
  · replace c4 := Bool.eq_false_iff.mpr c4
    subst c4
    have H1 : (some false) = some r := by rw [if_neg (show ¬ (false = true) by decide)] at H; exact H
    clear H
    have H := H1
    clear H1
    obtain rfl := Option.some.inj H
    go_enter Tryd.func9, Tryd.ntmps9
    go_wp2_with (first | ((with_reducible refine gate_callee (f := 29) rfl ?_); refine goesL_ (some 20) rfl rfl Tryd.func29 (by kernel_rfl) rfl #[] rfl (by (try simp only [List.map_toArray, List.map_cons, List.map_nil]); first | done | rfl | (simp only [List.length_drop, List.length_take]; rfl)) ?_; (with_reducible refine (levylaw2_known.calls k  false _ ?side1 A3.out).mono ?_); (case side1 => first | (with_reducible exact HT.out) | (with_reducible exact HT.out.below HB.out) | (with_reducible refine Tabs.below HT.out ?_; repeat (first | (with_reducible first | exact HB.out | apply below_alloc | apply pw_below_drewN | apply below_drew1) | exact HB.out))); rintro e w48 ⟨rfl, hb⟩; refine ⟨_, rfl, ?_⟩; have n0_ := Aside0.mk (below_step (by repeat (first | (with_reducible first | exact HB.out | apply below_alloc | apply pw_below_drewN | apply below_drew1) | exact HB.out)) hb); clear HB; have HB := n0_; clear n0_; (try clear hb); (try clear hb2); (try clear hk); (try clear hi)))
    go_ret
    exact ⟨by first | rfl | (simp [errW_none, errW_some] <;> rfl) | (simp [*, errW_none, errW_some] <;> rfl), by repeat (first | (with_reducible first | exact HB.out | apply below_alloc | apply pw_below_drewN | apply below_drew1) | exact HB.out)⟩

/-- THE ONE PURE STATEMENT of levylaw2_DaysWork: yours. -/
def levylaw2_DaysWork.Pure : Prop := ∀ (a0 : Int) (l1 : List Int), (Lit.int .i64 a0).wf = true → l1.length ≤ maxLen → l1.length * 8 ≤ 140737488351232 → (∀ x ∈ l1, (Lit.int .i64 x).wf = true) → ∃ k, levylaw2_DaysWork.f k a0 l1 = some true
theorem levylaw2_DaysWork.walk (P : levylaw2_DaysWork.Pure) (a0 : Int) (a1 : Option Addr) (len1 cap1 : Nat) (z1 : List Int) (w : World) (hT : Tabs w) (w0 : (Lit.int .i64 a0).wf = true) (w1 : (a1 = none ∧ len1 = 0 ∧ cap1 = 0 ∧ z1 = []) ∨ ∃ x, a1 = some x ∧ len1 ≤ cap1 ∧ cap1 ≤ maxLen ∧ z1.length = cap1 ∧ (∀ i, i < z1.length → w.cell? (x.add i) = some (.int .i64 (z1.getD i 0))) ∧ ∀ n ∈ z1, (Lit.int .i64 n).wf = true) (y1 : len1 * 8 ≤ 140737488351232) :
    Calls Tryd.prog 9 #[.int .i64 a0, .slice a1 len1 cap1] w fun e w' => e = .returned (.bool true) ∧ Below w.heap.size w w' := by
  obtain ⟨l1, rfl, hr1, hm1, hw1, hc1⟩ := ReadsInt.ofRowC w1
  obtain ⟨k, h⟩ := P a0 l1 w0 hm1 y1 hw1
  refine (levylaw2_DaysWork.calls k a0 _ _ l1 true w hT (Kd.C_of_reads (d := (0 : Int)) (h1 := fun _ => rfl) hr1) hc1 h).mono ?_
  rintro e w' ⟨rfl, hd⟩
  exact ⟨rfl, hd⟩

end Go.Proofs.YtlipkhhpjelicaaDoor.PA
