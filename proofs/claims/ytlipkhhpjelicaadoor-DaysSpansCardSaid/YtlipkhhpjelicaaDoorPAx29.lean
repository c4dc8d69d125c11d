/- The Go functions of this seat that the laws of part A come to, each as a plain Lean function ('f', its loops 'l0' ..) with a proof that the call comes to its answer. Conditions: where a function comes to a package-level table, the world holds that table ('Tabs'). Written by a program of this session (a changed copy of the print). -/
import Derived.Test.YtlipkhhpjelicaaDoorPAx0
import Derived.Test.YtlipkhhpjelicaaDoorPAx10
import Derived.Test.YtlipkhhpjelicaaDoorPAx11
import Derived.Test.YtlipkhhpjelicaaDoorPAx13
import Derived.Test.YtlipkhhpjelicaaDoorPAx23
import Derived.Test.YtlipkhhpjelicaaDoorPAx24
import Derived.Test.YtlipkhhpjelicaaDoorPAx25
import Derived.Test.YtlipkhhpjelicaaDoorPAx26
import Derived.Test.YtlipkhhpjelicaaDoorPAx27
import Derived.Test.YtlipkhhpjelicaaDoorPAx28
import Derived.Test.YtlipkhhpjelicaaDoorHShare
namespace Go.Proofs.YtlipkhhpjelicaaDoor.PA
open Go.RowKit Go.Proofs.YtlipkhhpjelicaaDoorW.PrintWords Go.Proofs.YtlipkhhpjelicaaDoorW.PrintLast Go.Proofs.YtlipkhhpjelicaaDoorW.PrintMore
attribute [local go_sem] max2_int min2_int max_two min_two max_three min_three max_four min_four   -- for this text's walks alone
set_option linter.unusedVariables false
set_option linter.unusedSimpArgs false

/-! ### levylaw2_DaysSpans: function 11 -/
mutual
def levylaw2_DaysSpans.j0 : Nat → Int → Int → Int → Bool → Option (Bool)
  | 0, _, _, _, _ => none
  | k + 1, x0, x1, x2, x40 => if x40 = true then (some false) else ((days_Between.f k x0 x1).bind fun bt345 => ((levyref2_Between.f k x0 x1).bind fun bt347 => (if bt345.1 = bt347.1 then (levylaw2_DaysSpans.j1 k x0 x1 x2 (bt345.2 != bt347.2)) else (levylaw2_DaysSpans.j1 k x0 x1 x2 true))))
def levylaw2_DaysSpans.j1 : Nat → Int → Int → Int → Bool → Option (Bool)
  | 0, _, _, _, _ => none
  | k + 1, x0, x1, x2, x60 => if x60 = true then (some false) else ((days_Age.f k x0 x1).bind fun bt349 => ((levyref2_Age.f k x0 x1).bind fun bt351 => (if bt349.1 = bt351.1 then (levylaw2_DaysSpans.j2 k x0 x1 x2 (bt349.2 != bt351.2)) else (levylaw2_DaysSpans.j2 k x0 x1 x2 true))))
def levylaw2_DaysSpans.j2 : Nat → Int → Int → Int → Bool → Option (Bool)
  | 0, _, _, _, _ => none
  | k + 1, x0, x1, x2, x80 => if x80 = true then (some false) else ((days_Held.f k x0 x1).bind fun bt353 => ((levyref2_Held.f k x0 x1).bind fun bt355 => (if (bt353.1 != bt355.1) = true then (levylaw2_DaysSpans.j3 k x0 x1 x2 true) else (levylaw2_DaysSpans.j3 k x0 x1 x2 (bt353.2 != bt355.2)))))
def levylaw2_DaysSpans.j3 : Nat → Int → Int → Int → Bool → Option (Bool)
  | 0, _, _, _, _ => none
  | k + 1, x0, x1, x2, x100 => if x100 = true then (some false) else ((days_Share.f x0 x1 x2).bind fun bt357 => ((levyref2_Share.f k x0 x1 x2).bind fun bt360 => (if bt357.1 = bt360.1 then (if bt357.2.1 = bt360.2.1 then (some (bt357.2.2 == bt360.2.2)) else (some false)) else (some false))))
end
def levylaw2_DaysSpans.f (k : Nat) (a0 : Int) (a1 : Int) (a2 : Int) : Option (Bool) := (days_Add.f k a0 a2).bind fun bt341 => ((levyref2_Add.f k a0 a2).bind fun bt343 => (if bt341.1 = bt343.1 then (levylaw2_DaysSpans.j0 k a0 a1 a2 (bt341.2 != bt343.2)) else (levylaw2_DaysSpans.j0 k a0 a1 a2 true)))
theorem levylaw2_DaysSpans.mono_l : ∀ k, (∀ y0 y1 y2 y3, LeO (levylaw2_DaysSpans.j0 k y0 y1 y2 y3) (levylaw2_DaysSpans.j0 (k + 1) y0 y1 y2 y3)) ∧ (∀ y0 y1 y2 y3, LeO (levylaw2_DaysSpans.j1 k y0 y1 y2 y3) (levylaw2_DaysSpans.j1 (k + 1) y0 y1 y2 y3)) ∧ (∀ y0 y1 y2 y3, LeO (levylaw2_DaysSpans.j2 k y0 y1 y2 y3) (levylaw2_DaysSpans.j2 (k + 1) y0 y1 y2 y3)) ∧ (∀ y0 y1 y2 y3, LeO (levylaw2_DaysSpans.j3 k y0 y1 y2 y3) (levylaw2_DaysSpans.j3 (k + 1) y0 y1 y2 y3))
  | 0 => ⟨fun _ _ _ _ r h => by simp [levylaw2_DaysSpans.j0] at h, fun _ _ _ _ r h => by simp [levylaw2_DaysSpans.j1] at h, fun _ _ _ _ r h => by simp [levylaw2_DaysSpans.j2] at h, fun _ _ _ _ r h => by simp [levylaw2_DaysSpans.j3] at h⟩
  | k + 1 => by
    obtain ⟨ih0, ih1, ih2, ih3⟩ := levylaw2_DaysSpans.mono_l k
    refine ⟨?_, ?_, ?_, ?_⟩
    · intro y0 y1 y2 y3
      unfold levylaw2_DaysSpans.j0
      repeat' first
      | (with_reducible exact ih0 _ _ _ _)
      | (with_reducible exact ih1 _ _ _ _)
      | (with_reducible exact ih2 _ _ _ _)
      | (with_reducible exact ih3 _ _ _ _)
      | (with_reducible exact days_Add.mono _ _ _)
      | (with_reducible exact days_Age.mono _ _ _)
      | (with_reducible exact days_Between.mono _ _ _)
      | (with_reducible exact days_Held.mono _ _ _)
      | (with_reducible exact levyref2_Add.mono _ _ _)
      | (with_reducible exact levyref2_Age.mono _ _ _)
      | (with_reducible exact levyref2_Between.mono _ _ _)
      | (with_reducible exact levyref2_Held.mono _ _ _)
      | (with_reducible exact levyref2_Share.mono _ _ _ _)
      | (with_reducible exact LeO.refl _)
      | (with_reducible exact LeO.none _)
      | (with_reducible refine LeO.ite ?_ ?_)
      | (with_reducible refine LeO.bind ?_ (fun _ => ?_))
      | exact ih0 _ _ _ _
      | exact ih1 _ _ _ _
      | exact ih2 _ _ _ _
      | exact ih3 _ _ _ _
      | exact days_Add.mono _ _ _
      | exact days_Age.mono _ _ _
      | exact days_Between.mono _ _ _
      | exact days_Held.mono _ _ _
      | exact levyref2_Add.mono _ _ _
      | exact levyref2_Age.mono _ _ _
      | exact levyref2_Between.mono _ _ _
      | exact levyref2_Held.mono _ _ _
      | exact levyref2_Share.mono _ _ _ _
      | exact LeO.none _
      | refine LeO.ite ?_ ?_
      | refine LeO.bind ?_ (fun _ => ?_)
    · intro y0 y1 y2 y3
      unfold levylaw2_DaysSpans.j1
      repeat' first
      | (with_reducible exact ih0 _ _ _ _)
      | (with_reducible exact ih1 _ _ _ _)
      | (with_reducible exact ih2 _ _ _ _)
      | (with_reducible exact ih3 _ _ _ _)
      | (with_reducible exact days_Add.mono _ _ _)
      | (with_reducible exact days_Age.mono _ _ _)
      | (with_reducible exact days_Between.mono _ _ _)
      | (with_reducible exact days_Held.mono _ _ _)
      | (with_reducible exact levyref2_Add.mono _ _ _)
      | (with_reducible exact levyref2_Age.mono _ _ _)
      | (with_reducible exact levyref2_Between.mono _ _ _)
      | (with_reducible exact levyref2_Held.mono _ _ _)
      | (with_reducible exact levyref2_Share.mono _ _ _ _)
      | (with_reducible exact LeO.refl _)
      | (with_reducible exact LeO.none _)
      | (with_reducible refine LeO.ite ?_ ?_)
      | (with_reducible refine LeO.bind ?_ (fun _ => ?_))
      | exact ih0 _ _ _ _
      | exact ih1 _ _ _ _
      | exact ih2 _ _ _ _
      | exact ih3 _ _ _ _
      | exact days_Add.mono _ _ _
      | exact days_Age.mono _ _ _
      | exact days_Between.mono _ _ _
      | exact days_Held.mono _ _ _
      | exact levyref2_Add.mono _ _ _
      | exact levyref2_Age.mono _ _ _
      | exact levyref2_Between.mono _ _ _
      | exact levyref2_Held.mono _ _ _
      | exact levyref2_Share.mono _ _ _ _
      | exact LeO.none _
      | refine LeO.ite ?_ ?_
      | refine LeO.bind ?_ (fun _ => ?_)
    · intro y0 y1 y2 y3
      unfold levylaw2_DaysSpans.j2
      repeat' first
      | (with_reducible exact ih0 _ _ _ _)
      | (with_reducible exact ih1 _ _ _ _)
      | (with_reducible exact ih2 _ _ _ _)
      | (with_reducible exact ih3 _ _ _ _)
      | (with_reducible exact days_Add.mono _ _ _)
      | (with_reducible exact days_Age.mono _ _ _)
      | (with_reducible exact days_Between.mono _ _ _)
      | (with_reducible exact days_Held.mono _ _ _)
      | (with_reducible exact levyref2_Add.mono _ _ _)
      | (with_reducible exact levyref2_Age.mono _ _ _)
      | (with_reducible exact levyref2_Between.mono _ _ _)
      | (with_reducible exact levyref2_Held.mono _ _ _)
      | (with_reducible exact levyref2_Share.mono _ _ _ _)
      | (with_reducible exact LeO.refl _)
      | (with_reducible exact LeO.none _)
      | (with_reducible refine LeO.ite ?_ ?_)
      | (with_reducible refine LeO.bind ?_ (fun _ => ?_))
      | exact ih0 _ _ _ _
      | exact ih1 _ _ _ _
      | exact ih2 _ _ _ _
      | exact ih3 _ _ _ _
      | exact days_Add.mono _ _ _
      | exact days_Age.mono _ _ _
      | exact days_Between.mono _ _ _
      | exact days_Held.mono _ _ _
      | exact levyref2_Add.mono _ _ _
      | exact levyref2_Age.mono _ _ _
      | exact levyref2_Between.mono _ _ _
      | exact levyref2_Held.mono _ _ _
      | exact levyref2_Share.mono _ _ _ _
      | exact LeO.none _
      | refine LeO.ite ?_ ?_
      | refine LeO.bind ?_ (fun _ => ?_)
    · intro y0 y1 y2 y3
      unfold levylaw2_DaysSpans.j3
      repeat' first
      | (with_reducible exact ih0 _ _ _ _)
      | (with_reducible exact ih1 _ _ _ _)
      | (with_reducible exact ih2 _ _ _ _)
      | (with_reducible exact ih3 _ _ _ _)
      | (with_reducible exact days_Add.mono _ _ _)
      | (with_reducible exact days_Age.mono _ _ _)
      | (with_reducible exact days_Between.mono _ _ _)
      | (with_reducible exact days_Held.mono _ _ _)
      | (with_reducible exact levyref2_Add.mono _ _ _)
      | (with_reducible exact levyref2_Age.mono _ _ _)
      | (with_reducible exact levyref2_Between.mono _ _ _)
      | (with_reducible exact levyref2_Held.mono _ _ _)
      | (with_reducible exact levyref2_Share.mono _ _ _ _)
      | (with_reducible exact LeO.refl _)
      | (with_reducible exact LeO.none _)
      | (with_reducible refine LeO.ite ?_ ?_)
      | (with_reducible refine LeO.bind ?_ (fun _ => ?_))
      | exact ih0 _ _ _ _
      | exact ih1 _ _ _ _
      | exact ih2 _ _ _ _
      | exact ih3 _ _ _ _
      | exact days_Add.mono _ _ _
      | exact days_Age.mono _ _ _
      | exact days_Between.mono _ _ _
      | exact days_Held.mono _ _ _
      | exact levyref2_Add.mono _ _ _
      | exact levyref2_Age.mono _ _ _
      | exact levyref2_Between.mono _ _ _
      | exact levyref2_Held.mono _ _ _
      | exact levyref2_Share.mono _ _ _ _
      | exact LeO.none _
      | refine LeO.ite ?_ ?_
      | refine LeO.bind ?_ (fun _ => ?_)
theorem levylaw2_DaysSpans.mono : ∀ a0 a1 a2 k, LeO (levylaw2_DaysSpans.f k a0 a1 a2) (levylaw2_DaysSpans.f (k + 1) a0 a1 a2) := by
  intro a0 a1 a2 k
  obtain ⟨ih0, ih1, ih2, ih3⟩ := levylaw2_DaysSpans.mono_l k
  unfold levylaw2_DaysSpans.f
  repeat' first
      | (with_reducible exact ih0 _ _ _ _)
      | (with_reducible exact ih1 _ _ _ _)
      | (with_reducible exact ih2 _ _ _ _)
      | (with_reducible exact ih3 _ _ _ _)
      | (with_reducible exact days_Add.mono _ _ _)
      | (with_reducible exact days_Age.mono _ _ _)
      | (with_reducible exact days_Between.mono _ _ _)
      | (with_reducible exact days_Held.mono _ _ _)
      | (with_reducible exact levyref2_Add.mono _ _ _)
      | (with_reducible exact levyref2_Age.mono _ _ _)
      | (with_reducible exact levyref2_Between.mono _ _ _)
      | (with_reducible exact levyref2_Held.mono _ _ _)
      | (with_reducible exact levyref2_Share.mono _ _ _ _)
      | (with_reducible exact LeO.refl _)
      | (with_reducible exact LeO.none _)
      | (with_reducible refine LeO.ite ?_ ?_)
      | (with_reducible refine LeO.bind ?_ (fun _ => ?_))
      | exact ih0 _ _ _ _
      | exact ih1 _ _ _ _
      | exact ih2 _ _ _ _
      | exact ih3 _ _ _ _
      | exact days_Add.mono _ _ _
      | exact days_Age.mono _ _ _
      | exact days_Between.mono _ _ _
      | exact days_Held.mono _ _ _
      | exact levyref2_Add.mono _ _ _
      | exact levyref2_Age.mono _ _ _
      | exact levyref2_Between.mono _ _ _
      | exact levyref2_Held.mono _ _ _
      | exact levyref2_Share.mono _ _ _ _
      | exact LeO.none _
      | refine LeO.ite ?_ ?_
      | refine LeO.bind ?_ (fun _ => ?_)
set_option maxHeartbeats 8000000 in
set_option maxRecDepth 100000 in
theorem levylaw2_DaysSpans.calls (k : Nat) (a0 : Int) (a1 : Int) (a2 : Int) (r : Bool) (w : World) (hT : Tabs w) (h : levylaw2_DaysSpans.f k a0 a1 a2 = some r) :
    Calls Tryd.prog 11 #[.int .i64 a0, .int .i64 a1, .int .i64 a2] w fun e w' => e = .returned (.bool r) ∧ Below w.heap.size w w' := by
  have HB := Aside0.mk (Below.refl w.heap.size w)
  have HT := Aside0.mk hT
  clear hT
  have H : ((days_Add.f k a0 a2).bind fun bt341 => ((levyref2_Add.f k a0 a2).bind fun bt343 => (if bt341.1 = bt343.1 then (levylaw2_DaysSpans.j0 k a0 a1 a2 (bt341.2 != bt343.2)) else (levylaw2_DaysSpans.j0 k a0 a1 a2 true)))) = some r := h
  clear h
  replace H := Option.bind_eq_some_iff.mp H
  obtain ⟨⟨t341, t342⟩, A40, H⟩ := H
  replace H : ((levyref2_Add.f k a0 a2).bind fun bt343 => (if t341 = bt343.1 then (levylaw2_DaysSpans.j0 k a0 a1 a2 (t342 != bt343.2)) else (levylaw2_DaysSpans.j0 k a0 a1 a2 true))) = some r := H
  have A4 := Aside0.mk A40
  clear A40
  replace H := Option.bind_eq_some_iff.mp H
  obtain ⟨⟨t343, t344⟩, A50, H⟩ := H
  replace H : (if t341 = t343 then (levylaw2_DaysSpans.j0 k a0 a1 a2 (t342 != t344)) else (levylaw2_DaysSpans.j0 k a0 a1 a2 true)) = some r := H
  have A5 := Aside0.mk A50
  clear A50
  have HC6 := Aside0.mk H
  clear H
  go_enter Tryd.func11, Tryd.ntmps11
  go_upto_region 3 with (first | ((with_reducible refine gate_callee (f := 31) rfl ?_); refine goesL_ (some 24) rfl rfl Tryd.func31 (by kernel_rfl) rfl #[.int .i64 a0, .int .i64 a2] rfl (by (try simp only [List.map_toArray, List.map_cons, List.map_nil]); first | done | rfl | (simp only [List.length_drop, List.length_take]; rfl)) ?_; (with_reducible refine (days_Add.calls k a0 a2 t341 t342 _ ?side1 A4.out).mono ?_); (case side1 => first | (with_reducible exact HT.out) | (with_reducible exact HT.out.below HB.out) | (with_reducible refine Tabs.below HT.out ?_; repeat (first | (with_reducible first | exact HB.out | apply below_alloc | apply pw_below_drewN | apply below_drew1) | exact HB.out))); rintro e w7 ⟨rfl, hb⟩; refine ⟨_, rfl, ?_⟩; have n0_ := Aside0.mk (below_step (by repeat (first | (with_reducible first | exact HB.out | apply below_alloc | apply pw_below_drewN | apply below_drew1) | exact HB.out)) hb); clear HB; have HB := n0_; clear n0_; (try clear hb); (try clear hb2); (try clear hk); (try clear hi)) | ((with_reducible refine gate_callee (f := 37) rfl ?_); refine goesL_ (some 30) rfl rfl Tryd.func37 (by kernel_rfl) rfl #[.int .i64 a0, .int .i64 a2] rfl (by (try simp only [List.map_toArray, List.map_cons, List.map_nil]); first | done | rfl | (simp only [List.length_drop, List.length_take]; rfl)) ?_; (with_reducible refine (levyref2_Add.calls k a0 a2 t343 t344 _ A5.out).mono ?_); rintro e w' ⟨rfl, ⟨nd, rfl⟩⟩; refine ⟨_, rfl, ?_⟩))
  (try simp only [Act.put, List.setIfInBounds_toArray, List.set_cons_zero, List.set_cons_succ])
  go_cut [40] (fun v40 wc => ∃ (kq : Nat) (x40_5 : Bool), v40 = .bool x40_5 ∧ Aside0 (levylaw2_DaysSpans.j0 kq a0 a1 a2 x40_5 = some r) ∧ Aside0 (kq ≤ k) ∧ Aside0 (Below w.heap.size w wc))
  case first =>
    have H := HC6.out
    clear HC6
    by_cases c8 : t341 = t343
    · rw [if_pos c8] at H
      have c8b0 : (t341 == t343) = true := beq_iff_eq.mpr c8
      have c8b1 : (t341 != t343) = false := bne_eq_false_iff_eq.mpr c8
      clear c8
      (first | rw [c8b0] | (simp only [i64_w, i32_w]; rw [c8b0]) | skip)
      have H' := Aside0.mk H
      clear H
      go_wp2
      go_meet
      case rel => exact ⟨_, ((t342 != t344)), (by first | rfl | (simp; done) | (simp [*]; done)), H', ⟨by first | omega | exact Nat.le_refl _⟩, ⟨by repeat (first | (with_reducible first | exact HB.out | apply below_alloc | apply pw_below_drewN | apply below_drew1) | exact HB.out)⟩⟩
    · rw [if_neg c8] at H
      have c8b0 : (t341 == t343) = false := beq_eq_false_iff_ne.mpr c8
      have c8b1 : (t341 != t343) = true := bne_iff_ne.mpr c8
      (first | rw [c8b0] | (simp only [i64_w, i32_w]; rw [c8b0]) | skip)
      have H' := Aside0.mk H
      clear H
      go_wp2
      go_meet
      case rel => exact ⟨_, (true), (by first | rfl | (simp; done) | (simp [*]; done)), H', ⟨by first | omega | exact Nat.le_refl _⟩, ⟨by repeat (first | (with_reducible first | exact HB.out | apply below_alloc | apply pw_below_drewN | apply below_drew1) | exact HB.out)⟩⟩
  case rest =>
    clear HC6
    try clear c1
    try clear p2
    try clear c3
    try clear c8
    try clear c8b0
    try clear c8b1
    obtain ⟨kq, x40_5, rfl, HA, HJ5, HB⟩ := hcut
    cases kq with
    | zero => exact absurd HA.out (by simp [levylaw2_DaysSpans.j0])
    | succ kj5 =>
      have H := HA.out
      clear HA
      simp only [levylaw2_DaysSpans.j0] at H
      by_cases c9 : x40_5 = true
      · subst c9
        have H1 : (some false) = some r := by rw [if_pos rfl] at H; exact H
        clear H
        have H := H1
        clear H1
        obtain rfl := Option.some.inj H
        go_wp2
        go_ret
        exact ⟨by first | rfl | (simp [errW_none, errW_some] <;> rfl) | (simp [*, errW_none, errW_some] <;> rfl), by repeat (first | (with_reducible first | exact HB.out | apply below_alloc | apply pw_below_drewN | apply below_drew1) | exact HB.out)⟩
      · replace c9 := Bool.eq_false_iff.mpr c9
        subst c9
        have H1 : ((days_Between.f kj5 a0 a1).bind fun bt345 => ((levyref2_Between.f kj5 a0 a1).bind fun bt347 => (if bt345.1 = bt347.1 then (levylaw2_DaysSpans.j1 kj5 a0 a1 a2 (bt345.2 != bt347.2)) else (levylaw2_DaysSpans.j1 kj5 a0 a1 a2 true)))) = some r := by rw [if_neg (show ¬ (false = true) by decide)] at H; exact H
        clear H
        have H := H1
        clear H1
        replace H := Option.bind_eq_some_iff.mp H
        obtain ⟨⟨t345, t346⟩, A100, H⟩ := H
        replace H : ((levyref2_Between.f kj5 a0 a1).bind fun bt347 => (if t345 = bt347.1 then (levylaw2_DaysSpans.j1 kj5 a0 a1 a2 (t346 != bt347.2)) else (levylaw2_DaysSpans.j1 kj5 a0 a1 a2 true))) = some r := H
        have A10 := Aside0.mk A100
        clear A100
        replace H := Option.bind_eq_some_iff.mp H
        obtain ⟨⟨t347, t348⟩, A110, H⟩ := H
        replace H : (if t345 = t347 then (levylaw2_DaysSpans.j1 kj5 a0 a1 a2 (t346 != t348)) else (levylaw2_DaysSpans.j1 kj5 a0 a1 a2 true)) = some r := H
        have A11 := Aside0.mk A110
        clear A110
        have HC12 := Aside0.mk H
        clear H
        go_upto_region 7 with (first | ((with_reducible refine gate_callee (f := 32) rfl ?_); refine goesL_ (some 44) rfl rfl Tryd.func32 (by kernel_rfl) rfl #[.int .i64 a0, .int .i64 a1] rfl (by (try simp only [List.map_toArray, List.map_cons, List.map_nil]); first | done | rfl | (simp only [List.length_drop, List.length_take]; rfl)) ?_; (with_reducible refine (days_Between.calls kj5 a0 a1 t345 t346 _ ?side1 A10.out).mono ?_); (case side1 => first | (with_reducible exact HT.out) | (with_reducible exact HT.out.below HB.out) | (with_reducible refine Tabs.below HT.out ?_; repeat (first | (with_reducible first | exact HB.out | apply below_alloc | apply pw_below_drewN | apply below_drew1) | exact HB.out))); rintro e w13 ⟨rfl, hb⟩; refine ⟨_, rfl, ?_⟩; have n0_ := Aside0.mk (below_step (by repeat (first | (with_reducible first | exact HB.out | apply below_alloc | apply pw_below_drewN | apply below_drew1) | exact HB.out)) hb); clear HB; have HB := n0_; clear n0_; (try clear hb); (try clear hb2); (try clear hk); (try clear hi)) | ((with_reducible refine gate_callee (f := 38) rfl ?_); refine goesL_ (some 50) rfl rfl Tryd.func38 (by kernel_rfl) rfl #[.int .i64 a0, .int .i64 a1] rfl (by (try simp only [List.map_toArray, List.map_cons, List.map_nil]); first | done | rfl | (simp only [List.length_drop, List.length_take]; rfl)) ?_; (with_reducible refine (levyref2_Between.calls kj5 a0 a1 t347 t348 _ A11.out).mono ?_); rintro e w' ⟨rfl, ⟨nd, rfl⟩⟩; refine ⟨_, rfl, ?_⟩))
        (try simp only [Act.put, List.setIfInBounds_toArray, List.set_cons_zero, List.set_cons_succ])
        go_cut [60] (fun v60 wc => ∃ (kq : Nat) (x60_11 : Bool), v60 = .bool x60_11 ∧ Aside0 (levylaw2_DaysSpans.j1 kq a0 a1 a2 x60_11 = some r) ∧ Aside0 (kq ≤ kj5) ∧ Aside0 (Below w.heap.size w wc))
        case first =>
          have H := HC12.out
          clear HC12
          by_cases c14 : t345 = t347
          · rw [if_pos c14] at H
            have c14b0 : (t345 == t347) = true := beq_iff_eq.mpr c14
            have c14b1 : (t345 != t347) = false := bne_eq_false_iff_eq.mpr c14
            clear c14
            (first | rw [c14b0] | (simp only [i64_w, i32_w]; rw [c14b0]) | skip)
            have H' := Aside0.mk H
            clear H
            go_wp2
            go_meet
            case rel => exact ⟨_, ((t346 != t348)), (by first | rfl | (simp; done) | (simp [*]; done)), H', ⟨by have := HJ5.out; first | omega | exact Nat.le_refl _⟩, ⟨by repeat (first | (with_reducible first | exact HB.out | apply below_alloc | apply pw_below_drewN | apply below_drew1) | exact HB.out)⟩⟩
          · rw [if_neg c14] at H
            have c14b0 : (t345 == t347) = false := beq_eq_false_iff_ne.mpr c14
            have c14b1 : (t345 != t347) = true := bne_iff_ne.mpr c14
            (first | rw [c14b0] | (simp only [i64_w, i32_w]; rw [c14b0]) | skip)
            have H' := Aside0.mk H
            clear H
            go_wp2
            go_meet
            case rel => exact ⟨_, (true), (by first | rfl | (simp; done) | (simp [*]; done)), H', ⟨by have := HJ5.out; first | omega | exact Nat.le_refl _⟩, ⟨by repeat (first | (with_reducible first | exact HB.out | apply below_alloc | apply pw_below_drewN | apply below_drew1) | exact HB.out)⟩⟩
        case rest =>
          clear HC12
          try clear c1
          try clear p2
          try clear c3
          try clear c8
          try clear c8b0
          try clear c8b1
          try clear c9
          try clear c11
          try clear c14
          try clear c14b0
          try clear c14b1
          try clear p2
          obtain ⟨kq, x60_11, rfl, HA, HJ11, HB⟩ := hcut
          cases kq with
          | zero => exact absurd HA.out (by simp [levylaw2_DaysSpans.j1])
          | succ kj11 =>
            have H := HA.out
            clear HA
            simp only [levylaw2_DaysSpans.j1] at H
            by_cases c15 : x60_11 = true
            · subst c15
              have H1 : (some false) = some r := by rw [if_pos rfl] at H; exact H
              clear H
              have H := H1
              clear H1
              obtain rfl := Option.some.inj H
              go_wp2
              go_ret
              exact ⟨by first | rfl | (simp [errW_none, errW_some] <;> rfl) | (simp [*, errW_none, errW_some] <;> rfl), by repeat (first | (with_reducible first | exact HB.out | apply below_alloc | apply pw_below_drewN | apply below_drew1) | exact HB.out)⟩
            · replace c15 := Bool.eq_false_iff.mpr c15
              subst c15
              have H1 : ((days_Age.f kj11 a0 a1).bind fun bt349 => ((levyref2_Age.f kj11 a0 a1).bind fun bt351 => (if bt349.1 = bt351.1 then (levylaw2_DaysSpans.j2 kj11 a0 a1 a2 (bt349.2 != bt351.2)) else (levylaw2_DaysSpans.j2 kj11 a0 a1 a2 true)))) = some r := by rw [if_neg (show ¬ (false = true) by decide)] at H; exact H
              clear H
              have H := H1
              clear H1
              replace H := Option.bind_eq_some_iff.mp H
              obtain ⟨⟨t349, t350⟩, A160, H⟩ := H
              replace H : ((levyref2_Age.f kj11 a0 a1).bind fun bt351 => (if t349 = bt351.1 then (levylaw2_DaysSpans.j2 kj11 a0 a1 a2 (t350 != bt351.2)) else (levylaw2_DaysSpans.j2 kj11 a0 a1 a2 true))) = some r := H
              have A16 := Aside0.mk A160
              clear A160
              replace H := Option.bind_eq_some_iff.mp H
              obtain ⟨⟨t351, t352⟩, A170, H⟩ := H
              replace H : (if t349 = t351 then (levylaw2_DaysSpans.j2 kj11 a0 a1 a2 (t350 != t352)) else (levylaw2_DaysSpans.j2 kj11 a0 a1 a2 true)) = some r := H
              have A17 := Aside0.mk A170
              clear A170
              have HC18 := Aside0.mk H
              clear H
              go_upto_region 11 with (first | ((with_reducible refine gate_callee (f := 36) rfl ?_); refine goesL_ (some 64) rfl rfl Tryd.func36 (by kernel_rfl) rfl #[.int .i64 a0, .int .i64 a1] rfl (by (try simp only [List.map_toArray, List.map_cons, List.map_nil]); first | done | rfl | (simp only [List.length_drop, List.length_take]; rfl)) ?_; (with_reducible refine (days_Age.calls kj11 a0 a1 t349 t350 _ ?side1 A16.out).mono ?_); (case side1 => first | (with_reducible exact HT.out) | (with_reducible exact HT.out.below HB.out) | (with_reducible refine Tabs.below HT.out ?_; repeat (first | (with_reducible first | exact HB.out | apply below_alloc | apply pw_below_drewN | apply below_drew1) | exact HB.out))); rintro e w19 ⟨rfl, hb⟩; refine ⟨_, rfl, ?_⟩; have n0_ := Aside0.mk (below_step (by repeat (first | (with_reducible first | exact HB.out | apply below_alloc | apply pw_below_drewN | apply below_drew1) | exact HB.out)) hb); clear HB; have HB := n0_; clear n0_; (try clear hb); (try clear hb2); (try clear hk); (try clear hi)) | ((with_reducible refine gate_callee (f := 39) rfl ?_); refine goesL_ (some 70) rfl rfl Tryd.func39 (by kernel_rfl) rfl #[.int .i64 a0, .int .i64 a1] rfl (by (try simp only [List.map_toArray, List.map_cons, List.map_nil]); first | done | rfl | (simp only [List.length_drop, List.length_take]; rfl)) ?_; (with_reducible refine (levyref2_Age.calls kj11 a0 a1 t351 t352 _ A17.out).mono ?_); rintro e w' ⟨rfl, ⟨nd, rfl⟩⟩; refine ⟨_, rfl, ?_⟩))
              (try simp only [Act.put, List.setIfInBounds_toArray, List.set_cons_zero, List.set_cons_succ])
              go_cut [80] (fun v80 wc => ∃ (kq : Nat) (x80_17 : Bool), v80 = .bool x80_17 ∧ Aside0 (levylaw2_DaysSpans.j2 kq a0 a1 a2 x80_17 = some r) ∧ Aside0 (kq ≤ kj11) ∧ Aside0 (Below w.heap.size w wc))
              case first =>
                have H := HC18.out
                clear HC18
                by_cases c20 : t349 = t351
                · rw [if_pos c20] at H
                  have c20b0 : (t349 == t351) = true := beq_iff_eq.mpr c20
                  have c20b1 : (t349 != t351) = false := bne_eq_false_iff_eq.mpr c20
                  clear c20
                  (first | rw [c20b0] | (simp only [i64_w, i32_w]; rw [c20b0]) | skip)
                  have H' := Aside0.mk H
                  clear H
                  go_wp2
                  go_meet
                  case rel => exact ⟨_, ((t350 != t352)), (by first | rfl | (simp; done) | (simp [*]; done)), H', ⟨by have := HJ5.out; have := HJ11.out; first | omega | exact Nat.le_refl _⟩, ⟨by repeat (first | (with_reducible first | exact HB.out | apply below_alloc | apply pw_below_drewN | apply below_drew1) | exact HB.out)⟩⟩
                · rw [if_neg c20] at H
                  have c20b0 : (t349 == t351) = false := beq_eq_false_iff_ne.mpr c20
                  have c20b1 : (t349 != t351) = true := bne_iff_ne.mpr c20
                  (first | rw [c20b0] | (simp only [i64_w, i32_w]; rw [c20b0]) | skip)
                  have H' := Aside0.mk H
                  clear H
                  go_wp2
                  go_meet
                  case rel => exact ⟨_, (true), (by first | rfl | (simp; done) | (simp [*]; done)), H', ⟨by have := HJ5.out; have := HJ11.out; first | omega | exact Nat.le_refl _⟩, ⟨by repeat (first | (with_reducible first | exact HB.out | apply below_alloc | apply pw_below_drewN | apply below_drew1) | exact HB.out)⟩⟩
              case rest =>
                clear HC18
                try clear c1
                try clear c2
                try clear p2
                try clear c3
                try clear c8
                try clear c8b0
                try clear c8b1
                try clear c9
                try clear c11
                try clear c14
                try clear c14b0
                try clear c14b1
                try clear c15
                try clear c20
                try clear c20b0
                try clear c20b1
                try clear p2
                obtain ⟨kq, x80_17, rfl, HA, HJ17, HB⟩ := hcut
                cases kq with
                | zero => exact absurd HA.out (by simp [levylaw2_DaysSpans.j2])
                | succ kj17 =>
                  have H := HA.out
                  clear HA
                  simp only [levylaw2_DaysSpans.j2] at H
                  by_cases c21 : x80_17 = true
                  · subst c21
                    have H1 : (some false) = some r := by rw [if_pos rfl] at H; exact H
                    clear H
                    have H := H1
                    clear H1
                    obtain rfl := Option.some.inj H
                    go_wp2
                    go_ret
                    exact ⟨by first | rfl | (simp [errW_none, errW_some] <;> rfl) | (simp [*, errW_none, errW_some] <;> rfl), by repeat (first | (with_reducible first | exact HB.out | apply below_alloc | apply pw_below_drewN | apply below_drew1) | exact HB.out)⟩
                  · replace c21 := Bool.eq_false_iff.mpr c21
                    subst c21
                    have H1 : ((days_Held.f kj17 a0 a1).bind fun bt353 => ((levyref2_Held.f kj17 a0 a1).bind fun bt355 => (if (bt353.1 != bt355.1) = true then (levylaw2_DaysSpans.j3 kj17 a0 a1 a2 true) else (levylaw2_DaysSpans.j3 kj17 a0 a1 a2 (bt353.2 != bt355.2))))) = some r := by rw [if_neg (show ¬ (false = true) by decide)] at H; exact H
                    clear H
                    have H := H1
                    clear H1
                    replace H := Option.bind_eq_some_iff.mp H
                    obtain ⟨⟨t353, t354⟩, A220, H⟩ := H
                    replace H : ((levyref2_Held.f kj17 a0 a1).bind fun bt355 => (if (t353 != bt355.1) = true then (levylaw2_DaysSpans.j3 kj17 a0 a1 a2 true) else (levylaw2_DaysSpans.j3 kj17 a0 a1 a2 (t354 != bt355.2)))) = some r := H
                    have A22 := Aside0.mk A220
                    clear A220
                    replace H := Option.bind_eq_some_iff.mp H
                    obtain ⟨⟨t355, t356⟩, A230, H⟩ := H
                    replace H : (if (t353 != t355) = true then (levylaw2_DaysSpans.j3 kj17 a0 a1 a2 true) else (levylaw2_DaysSpans.j3 kj17 a0 a1 a2 (t354 != t356))) = some r := H
                    have A23 := Aside0.mk A230
                    clear A230
                    have HC24 := Aside0.mk H
                    clear H
                    go_upto_region 15 with (first | ((with_reducible refine gate_callee (f := 35) rfl ?_); refine goesL_ (some 84) rfl rfl Tryd.func35 (by kernel_rfl) rfl #[.int .i64 a0, .int .i64 a1] rfl (by (try simp only [List.map_toArray, List.map_cons, List.map_nil]); first | done | rfl | (simp only [List.length_drop, List.length_take]; rfl)) ?_; (with_reducible refine (days_Held.calls kj17 a0 a1 t353 t354 _ ?side1 A22.out).mono ?_); (case side1 => first | (with_reducible exact HT.out) | (with_reducible exact HT.out.below HB.out) | (with_reducible refine Tabs.below HT.out ?_; repeat (first | (with_reducible first | exact HB.out | apply below_alloc | apply pw_below_drewN | apply below_drew1) | exact HB.out))); rintro e w25 ⟨rfl, hb⟩; refine ⟨_, rfl, ?_⟩; have n0_ := Aside0.mk (below_step (by repeat (first | (with_reducible first | exact HB.out | apply below_alloc | apply pw_below_drewN | apply below_drew1) | exact HB.out)) hb); clear HB; have HB := n0_; clear n0_; (try clear hb); (try clear hb2); (try clear hk); (try clear hi)) | ((with_reducible refine gate_callee (f := 40) rfl ?_); refine goesL_ (some 90) rfl rfl Tryd.func40 (by kernel_rfl) rfl #[.int .i64 a0, .int .i64 a1] rfl (by (try simp only [List.map_toArray, List.map_cons, List.map_nil]); first | done | rfl | (simp only [List.length_drop, List.length_take]; rfl)) ?_; (with_reducible refine (levyref2_Held.calls kj17 a0 a1 t355 t356 _ A23.out).mono ?_); rintro e w' ⟨rfl, ⟨nd, rfl⟩⟩; refine ⟨_, rfl, ?_⟩))
                    (try simp only [Act.put, List.setIfInBounds_toArray, List.set_cons_zero, List.set_cons_succ])
                    go_cut [100] (fun v100 wc => ∃ (kq : Nat) (x100_23 : Bool), v100 = .bool x100_23 ∧ Aside0 (levylaw2_DaysSpans.j3 kq a0 a1 a2 x100_23 = some r) ∧ Aside0 (kq ≤ kj17) ∧ Aside0 (Below w.heap.size w wc))
                    case first =>
                      have H := HC24.out
                      clear HC24
                      by_cases c26 : (t353 != t355) = true
                      · rw [if_pos c26] at H
                        have c26b0 : (t353 != t355) = true := c26
                        (try (have c26b1 : decide (t353 = t355) = false := by simpa using c26))
                        (try (have c26b2 : (t353 == t355) = false := by simpa using c26))
                        (try (have c26b3 : ¬ (t353 = t355) := by simpa using c26))
                        clear c26
                        (first | rw [c26b0] | (simp only [i64_w, i32_w]; rw [c26b0]) | skip)
                        have H' := Aside0.mk H
                        clear H
                        go_wp2
                        go_meet
                        case rel => exact ⟨_, (true), (by first | rfl | (simp; done) | (simp [*]; done)), H', ⟨by have := HJ5.out; have := HJ11.out; have := HJ17.out; first | omega | exact Nat.le_refl _⟩, ⟨by repeat (first | (with_reducible first | exact HB.out | apply below_alloc | apply pw_below_drewN | apply below_drew1) | exact HB.out)⟩⟩
                      · rw [if_neg c26] at H
                        have c26b0 : (t353 != t355) = false := by simpa using c26
                        (try (have c26b1 : decide (t353 = t355) = true := by simpa using c26))
                        (try (have c26b2 : (t353 == t355) = true := by simpa using c26))
                        clear c26
                        (first | rw [c26b0] | (simp only [i64_w, i32_w]; rw [c26b0]) | skip)
                        have H' := Aside0.mk H
                        clear H
                        go_wp2
                        go_meet
                        case rel => exact ⟨_, ((t354 != t356)), (by first | rfl | (simp; done) | (simp [*]; done)), H', ⟨by have := HJ5.out; have := HJ11.out; have := HJ17.out; first | omega | exact Nat.le_refl _⟩, ⟨by repeat (first | (with_reducible first | exact HB.out | apply below_alloc | apply pw_below_drewN | apply below_drew1) | exact HB.out)⟩⟩
                    case rest =>
                      clear HC24
                      try clear c1
                      try clear c2
                      try clear p2
                      try clear c3
                      try clear c4
                      try clear c8
                      try clear c8b0
                      try clear c8b1
                      try clear c9
                      try clear c11
                      try clear c14
                      try clear c14b0
                      try clear c14b1
                      try clear c15
                      try clear c20
                      try clear c20b0
                      try clear c20b1
                      try clear c21
                      try clear c26
                      try clear c26b0
                      try clear c26b1
                      try clear c26b2
                      try clear p2
                      obtain ⟨kq, x100_23, rfl, HA, HJ23, HB⟩ := hcut
                      cases kq with
                      | zero => exact absurd HA.out (by simp [levylaw2_DaysSpans.j3])
                      | succ kj23 =>
                        have H := HA.out
                        clear HA
                        simp only [levylaw2_DaysSpans.j3] at H
                        by_cases c27 : x100_23 = true
                        · subst c27
                          have H1 : (some false) = some r := by rw [if_pos rfl] at H; exact H
                          clear H
                          have H := H1
                          clear H1
                          obtain rfl := Option.some.inj H
                          go_wp2
                          go_ret
                          exact ⟨by first | rfl | (simp [errW_none, errW_some] <;> rfl) | (simp [*, errW_none, errW_some] <;> rfl), by repeat (first | (with_reducible first | exact HB.out | apply below_alloc | apply pw_below_drewN | apply below_drew1) | exact HB.out)⟩
                        · replace c27 := Bool.eq_false_iff.mpr c27
                          subst c27
                          have H1 : ((days_Share.f a0 a1 a2).bind fun bt357 => ((levyref2_Share.f kj23 a0 a1 a2).bind fun bt360 => (if bt357.1 = bt360.1 then (if bt357.2.1 = bt360.2.1 then (some (bt357.2.2 == bt360.2.2)) else (some false)) else (some false)))) = some r := by rw [if_neg (show ¬ (false = true) by decide)] at H; exact H
                          clear H
                          have H := H1
                          clear H1
                          replace H := Option.bind_eq_some_iff.mp H
                          obtain ⟨⟨t357, t358, t359⟩, A280, H⟩ := H
                          replace H : ((levyref2_Share.f kj23 a0 a1 a2).bind fun bt360 => (if t357 = bt360.1 then (if t358 = bt360.2.1 then (some (t359 == bt360.2.2)) else (some false)) else (some false))) = some r := H
                          have A28 := Aside0.mk A280
                          clear A280
                          replace H := Option.bind_eq_some_iff.mp H
                          obtain ⟨⟨t360, t361, t362⟩, A290, H⟩ := H
                          replace H : (if t357 = t360 then (if t358 = t361 then (some (t359 == t362)) else (some false)) else (some false)) = some r := H
                          have A29 := Aside0.mk A290
                          clear A290
                          by_cases c30 : t357 = t360
                          · rw [if_pos c30] at H
                            have c30b0 : (t357 == t360) = true := beq_iff_eq.mpr c30
                            have c30b1 : (t357 != t360) = false := bne_eq_false_iff_eq.mpr c30
                            clear c30
                            by_cases c31 : t358 = t361
                            · rw [if_pos c31] at H
                              have c31b0 : (t358 == t361) = true := beq_iff_eq.mpr c31
                              have c31b1 : (t358 != t361) = false := bne_eq_false_iff_eq.mpr c31
                              clear c31
                              obtain rfl := Option.some.inj H
                              go_wp2_with (first | ((with_reducible refine gate_callee (f := 33) rfl ?_); refine goesL_ (some 105) rfl rfl Tryd.func33 (by kernel_rfl) rfl #[.int .i64 a0, .int .i64 a1, .int .i64 a2] rfl (by (try simp only [List.map_toArray, List.map_cons, List.map_nil]); first | done | rfl | (simp only [List.length_drop, List.length_take]; rfl)) ?_; (with_reducible refine (days_Share.calls a0 a1 a2 t357 t358 t359 _ ?side1 A28.out).mono ?_); (case side1 => first | (with_reducible exact HT.out) | (with_reducible exact HT.out.below HB.out) | (with_reducible refine Tabs.below HT.out ?_; repeat (first | (with_reducible first | exact HB.out | apply below_alloc | apply pw_below_drewN | apply below_drew1) | exact HB.out))); rintro e w32 ⟨rfl, hb⟩; refine ⟨_, rfl, ?_⟩; have n0_ := Aside0.mk (below_step (by repeat (first | (with_reducible first | exact HB.out | apply below_alloc | apply pw_below_drewN | apply below_drew1) | exact HB.out)) hb); clear HB; have HB := n0_; clear n0_; (try clear hb); (try clear hb2); (try clear hk); (try clear hi)) | ((with_reducible refine gate_callee (f := 41) rfl ?_); refine goesL_ (some 113) rfl rfl Tryd.func41 (by kernel_rfl) rfl #[.int .i64 a0, .int .i64 a1, .int .i64 a2] rfl (by (try simp only [List.map_toArray, List.map_cons, List.map_nil]); first | done | rfl | (simp only [List.length_drop, List.length_take]; rfl)) ?_; (with_reducible refine (levyref2_Share.calls kj23 a0 a1 a2 t360 t361 t362 _ A29.out).mono ?_); rintro e w' ⟨rfl, ⟨nd, rfl⟩⟩; refine ⟨_, rfl, ?_⟩))
                              go_ret
                              exact ⟨by first | rfl | (simp [errW_none, errW_some] <;> rfl) | (simp [*, errW_none, errW_some] <;> rfl), by repeat (first | (with_reducible first | exact HB.out | apply below_alloc | apply pw_below_drewN | apply below_drew1) | exact HB.out)⟩
                            · rw [if_neg c31] at H
                              have c31b0 : (t358 == t361) = false := beq_eq_false_iff_ne.mpr c31
                              have c31b1 : (t358 != t361) = true := bne_iff_ne.mpr c31
                              obtain rfl := Option.some.inj H
                              go_wp2_with (first | ((with_reducible refine gate_callee (f := 33) rfl ?_); refine goesL_ (some 105) rfl rfl Tryd.func33 (by kernel_rfl) rfl #[.int .i64 a0, .int .i64 a1, .int .i64 a2] rfl (by (try simp only [List.map_toArray, List.map_cons, List.map_nil]); first | done | rfl | (simp only [List.length_drop, List.length_take]; rfl)) ?_; (with_reducible refine (days_Share.calls a0 a1 a2 t357 t358 t359 _ ?side1 A28.out).mono ?_); (case side1 => first | (with_reducible exact HT.out) | (with_reducible exact HT.out.below HB.out) | (with_reducible refine Tabs.below HT.out ?_; repeat (first | (with_reducible first | exact HB.out | apply below_alloc | apply pw_below_drewN | apply below_drew1) | exact HB.out))); rintro e w33 ⟨rfl, hb⟩; refine ⟨_, rfl, ?_⟩; have n0_ := Aside0.mk (below_step (by repeat (first | (with_reducible first | exact HB.out | apply below_alloc | apply pw_below_drewN | apply below_drew1) | exact HB.out)) hb); clear HB; have HB := n0_; clear n0_; (try clear hb); (try clear hb2); (try clear hk); (try clear hi)) | ((with_reducible refine gate_callee (f := 41) rfl ?_); refine goesL_ (some 113) rfl rfl Tryd.func41 (by kernel_rfl) rfl #[.int .i64 a0, .int .i64 a1, .int .i64 a2] rfl (by (try simp only [List.map_toArray, List.map_cons, List.map_nil]); first | done | rfl | (simp only [List.length_drop, List.length_take]; rfl)) ?_; (with_reducible refine (levyref2_Share.calls kj23 a0 a1 a2 t360 t361 t362 _ A29.out).mono ?_); rintro e w' ⟨rfl, ⟨nd, rfl⟩⟩; refine ⟨_, rfl, ?_⟩))
                              go_ret
                              exact ⟨by first | rfl | (simp [errW_none, errW_some] <;> rfl) | (simp [*, errW_none, errW_some] <;> rfl), by repeat (first | (with_reducible first | exact HB.out | apply below_alloc | apply pw_below_drewN | apply below_drew1) | exact HB.out)⟩
                          · rw [if_neg c30] at H
                            have c30b0 : (t357 == t360) = false := beq_eq_false_iff_ne.mpr c30
                            have c30b1 : (t357 != t360) = true := bne_iff_ne.mpr c30
                            obtain rfl := Option.some.inj H
                            go_wp2_with (first | ((with_reducible refine gate_callee (f := 33) rfl ?_); refine goesL_ (some 105) rfl rfl Tryd.func33 (by kernel_rfl) rfl #[.int .i64 a0, .int .i64 a1, .int .i64 a2] rfl (by (try simp only [List.map_toArray, List.map_cons, List.map_nil]); first | done | rfl | (simp only [List.length_drop, List.length_take]; rfl)) ?_; (with_reducible refine (days_Share.calls a0 a1 a2 t357 t358 t359 _ ?side1 A28.out).mono ?_); (case side1 => first | (with_reducible exact HT.out) | (with_reducible exact HT.out.below HB.out) | (with_reducible refine Tabs.below HT.out ?_; repeat (first | (with_reducible first | exact HB.out | apply below_alloc | apply pw_below_drewN | apply below_drew1) | exact HB.out))); rintro e w34 ⟨rfl, hb⟩; refine ⟨_, rfl, ?_⟩; have n0_ := Aside0.mk (below_step (by repeat (first | (with_reducible first | exact HB.out | apply below_alloc | apply pw_below_drewN | apply below_drew1) | exact HB.out)) hb); clear HB; have HB := n0_; clear n0_; (try clear hb); (try clear hb2); (try clear hk); (try clear hi)) | ((with_reducible refine gate_callee (f := 41) rfl ?_); refine goesL_ (some 113) rfl rfl Tryd.func41 (by kernel_rfl) rfl #[.int .i64 a0, .int .i64 a1, .int .i64 a2] rfl (by (try simp only [List.map_toArray, List.map_cons, List.map_nil]); first | done | rfl | (simp only [List.length_drop, List.length_take]; rfl)) ?_; (with_reducible refine (levyref2_Share.calls kj23 a0 a1 a2 t360 t361 t362 _ A29.out).mono ?_); rintro e w' ⟨rfl, ⟨nd, rfl⟩⟩; refine ⟨_, rfl, ?_⟩))
                            go_ret
                            exact ⟨by first | rfl | (simp [errW_none, errW_some] <;> rfl) | (simp [*, errW_none, errW_some] <;> rfl), by repeat (first | (with_reducible first | exact HB.out | apply below_alloc | apply pw_below_drewN | apply below_drew1) | exact HB.out)⟩

/-- THE ONE PURE STATEMENT of levylaw2_DaysSpans: yours. -/
def levylaw2_DaysSpans.Pure : Prop := ∀ (a0 : Int) (a1 : Int) (a2 : Int), (Lit.int .i64 a0).wf = true → (Lit.int .i64 a1).wf = true → (Lit.int .i64 a2).wf = true → ∃ k, levylaw2_DaysSpans.f k a0 a1 a2 = some true
theorem levylaw2_DaysSpans.walk (P : levylaw2_DaysSpans.Pure) (a0 : Int) (a1 : Int) (a2 : Int) (w : World) (hT : Tabs w) (w0 : (Lit.int .i64 a0).wf = true) (w1 : (Lit.int .i64 a1).wf = true) (w2 : (Lit.int .i64 a2).wf = true) :
    Calls Tryd.prog 11 #[.int .i64 a0, .int .i64 a1, .int .i64 a2] w fun e w' => e = .returned (.bool true) ∧ Below w.heap.size w w' := by
  obtain ⟨k, h⟩ := P a0 a1 a2 w0 w1 w2
  refine (levylaw2_DaysSpans.calls k a0 a1 a2 true w hT h).mono ?_
  rintro e w' ⟨rfl, hd⟩
  exact ⟨rfl, hd⟩

end Go.Proofs.YtlipkhhpjelicaaDoor.PA
