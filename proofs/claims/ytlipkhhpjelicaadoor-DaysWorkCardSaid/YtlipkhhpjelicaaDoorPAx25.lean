/- The Go functions of this seat that the laws of part A come to, each as a plain Lean function ('f', its loops 'l0' ..) with a proof that the call comes to its answer. Conditions: where a function comes to a package-level table, the world holds that table ('Tabs'). Written by a program of this session (a changed copy of the print). -/
import Derived.Test.YtlipkhhpjelicaaDoorPAx0
import Derived.Test.YtlipkhhpjelicaaDoorPAx7
import Derived.Test.YtlipkhhpjelicaaDoorPAx24
namespace Go.Proofs.YtlipkhhpjelicaaDoor.PA
open Go.RowKit Go.Proofs.YtlipkhhpjelicaaDoorW.PrintWords Go.Proofs.YtlipkhhpjelicaaDoorW.PrintLast Go.Proofs.YtlipkhhpjelicaaDoorW.PrintMore
attribute [local go_sem] max2_int min2_int max_two min_two max_three min_three max_four min_four   -- for this text's walks alone
set_option linter.unusedVariables false
set_option linter.unusedSimpArgs false

/-! ### levyref2_Between: function 38 -/
mutual
def levyref2_Between.j0 : Nat → Int → Int → Bool → Option (Int × Int)
  | 0, _, _, _ => none
  | k + 1, x0, x1, x26 => if x26 = true then (some (0, 21)) else (if x1 < x0 then ((levyref2_Between.f k x1 x0).bind fun bt315 => (some (wrap64 (-bt315.1), bt315.2))) else ((levyref2_month.f k x0).bind fun bt317 => ((levyref2_month.f k x1).bind fun bt319 => ((levyref2_Add.f k x0 (wrap64 (bt319.1 - bt317.1))).bind fun bt321 => (if bt321.2 = 0 then (if bt321.1 > x1 then (some (wrap64 ((wrap64 (bt319.1 - bt317.1)) - 1), 0)) else (some (wrap64 (bt319.1 - bt317.1), 0))) else (some (wrap64 ((wrap64 (bt319.1 - bt317.1)) - 1), 0)))))))
def levyref2_Between.f : Nat → Int → Int → Option (Int × Int)
  | 0, _, _ => none
  | k + 1, a0, a1 => (levyref2_is.f a0).bind fun t313 => ((levyref2_is.f a1).bind fun t314 => (if t313 = true then (levyref2_Between.j0 k a0 a1 (!t314)) else (levyref2_Between.j0 k a0 a1 true)))
end
theorem levyref2_Between.mono_l : ∀ k, (∀ y0 y1, LeO (levyref2_Between.f k y0 y1) (levyref2_Between.f (k + 1) y0 y1)) ∧ (∀ y0 y1 y2, LeO (levyref2_Between.j0 k y0 y1 y2) (levyref2_Between.j0 (k + 1) y0 y1 y2))
  | 0 => ⟨fun _ _ r h => by simp [levyref2_Between.f] at h, fun _ _ _ r h => by simp [levyref2_Between.j0] at h⟩
  | k + 1 => by
    obtain ⟨ih0, ih1⟩ := levyref2_Between.mono_l k
    refine ⟨?_, ?_⟩
    · intro y0 y1
      unfold levyref2_Between.f
      repeat' first
      | (with_reducible exact ih0 _ _)
      | (with_reducible exact ih1 _ _ _)
      | (with_reducible exact levyref2_Add.mono _ _ _)
      | (with_reducible exact levyref2_month.mono _ _)
      | (with_reducible exact LeO.refl _)
      | (with_reducible exact LeO.none _)
      | (with_reducible refine LeO.ite ?_ ?_)
      | (with_reducible refine LeO.bind ?_ (fun _ => ?_))
      | exact ih0 _ _
      | exact ih1 _ _ _
      | exact levyref2_Add.mono _ _ _
      | exact levyref2_month.mono _ _
      | exact LeO.none _
      | refine LeO.ite ?_ ?_
      | refine LeO.bind ?_ (fun _ => ?_)
    · intro y0 y1 y2
      unfold levyref2_Between.j0
      repeat' first
      | (with_reducible exact ih0 _ _)
      | (with_reducible exact ih1 _ _ _)
      | (with_reducible exact levyref2_Add.mono _ _ _)
      | (with_reducible exact levyref2_month.mono _ _)
      | (with_reducible exact LeO.refl _)
      | (with_reducible exact LeO.none _)
      | (with_reducible refine LeO.ite ?_ ?_)
      | (with_reducible refine LeO.bind ?_ (fun _ => ?_))
      | exact ih0 _ _
      | exact ih1 _ _ _
      | exact levyref2_Add.mono _ _ _
      | exact levyref2_month.mono _ _
      | exact LeO.none _
      | refine LeO.ite ?_ ?_
      | refine LeO.bind ?_ (fun _ => ?_)
theorem levyref2_Between.mono : ∀ a0 a1 k, LeO (levyref2_Between.f k a0 a1) (levyref2_Between.f (k + 1) a0 a1) := by
  intro a0 a1 k
  obtain ⟨ih0, ih1⟩ := levyref2_Between.mono_l k
  exact ih0 a0 a1
set_option maxHeartbeats 8000000 in
set_option maxRecDepth 100000 in
theorem levyref2_Between.calls (k : Nat) : ∀ (a0 : Int) (a1 : Int) (r1 : Int) (r2 : Int) (w : World) (h : levyref2_Between.f k a0 a1 = some (r1, r2)),
    Calls Tryd.prog 38 #[.int .i64 a0, .int .i64 a1] w fun e w' => e = .returned (.tuple #[.int .i64 r1, .int .i64 r2]) ∧ Drawn0 w w' := by
  induction k using Nat.strongRecOn with
  | _ k ih =>
  intro a0 a1 r1 r2 w h
  cases k with
  | zero => exact absurd h (by simp [levyref2_Between.f])
  | succ k =>
  simp only [levyref2_Between.f] at h
  have H : ((levyref2_is.f a0).bind fun t313 => ((levyref2_is.f a1).bind fun t314 => (if t313 = true then (levyref2_Between.j0 k a0 a1 (!t314)) else (levyref2_Between.j0 k a0 a1 true)))) = some (r1, r2) := h
  clear h
  replace H := Option.bind_eq_some_iff.mp H
  obtain ⟨t313, A30, H⟩ := H
  replace H : ((levyref2_is.f a1).bind fun t314 => (if t313 = true then (levyref2_Between.j0 k a0 a1 (!t314)) else (levyref2_Between.j0 k a0 a1 true))) = some (r1, r2) := H
  have A3 := Aside0.mk A30
  clear A30
  replace H := Option.bind_eq_some_iff.mp H
  obtain ⟨t314, A40, H⟩ := H
  replace H : (if t313 = true then (levyref2_Between.j0 k a0 a1 (!t314)) else (levyref2_Between.j0 k a0 a1 true)) = some (r1, r2) := H
  have A4 := Aside0.mk A40
  clear A40
  have HC5 := Aside0.mk H
  clear H
  go_enter Tryd.func38, Tryd.ntmps38
  go_upto_region 3 with (first | ((with_reducible refine gate_callee (f := 49) rfl ?_); refine goesL_ (some 18) rfl rfl Tryd.func49 (by kernel_rfl) rfl #[.int .i64 a0] rfl (by (try simp only [List.map_toArray, List.map_cons, List.map_nil]); first | done | rfl | (simp only [List.length_drop, List.length_take]; rfl)) ?_; (with_reducible refine (levyref2_is.calls a0 t313 _ A3.out).mono ?_); rintro e w' ⟨rfl, ⟨nd, rfl⟩⟩; refine ⟨_, rfl, ?_⟩) | ((with_reducible refine gate_callee (f := 49) rfl ?_); refine goesL_ (some 20) rfl rfl Tryd.func49 (by kernel_rfl) rfl #[.int .i64 a1] rfl (by (try simp only [List.map_toArray, List.map_cons, List.map_nil]); first | done | rfl | (simp only [List.length_drop, List.length_take]; rfl)) ?_; (with_reducible refine (levyref2_is.calls a1 t314 _ A4.out).mono ?_); rintro e w' ⟨rfl, ⟨nd, rfl⟩⟩; refine ⟨_, rfl, ?_⟩))
  (try simp only [Act.put, List.setIfInBounds_toArray, List.set_cons_zero, List.set_cons_succ])
  go_cut [26] (fun v26 wc => ∃ (kq : Nat) (x26_4 : Bool), v26 = .bool x26_4 ∧ Aside0 (levyref2_Between.j0 kq a0 a1 x26_4 = some (r1, r2)) ∧ Aside0 (kq ≤ k) ∧ Drawn0 w wc)
  case first =>
    have H := HC5.out
    clear HC5
    by_cases c6 : t313 = true
    · subst c6
      have H1 : (levyref2_Between.j0 k a0 a1 (!t314)) = some (r1, r2) := by rw [if_pos rfl] at H; exact H
      clear H
      have H := H1
      clear H1
      have H' := Aside0.mk H
      clear H
      go_wp2
      go_meet
      case rel => exact ⟨_, (!t314), (by first | rfl | (simp; done) | (simp [*]; done)), H', ⟨by first | omega | exact Nat.le_refl _⟩, by repeat (first | exact Drawn0.refl _ | apply Drawn0.step)⟩
    · replace c6 := Bool.eq_false_iff.mpr c6
      subst c6
      have H1 : (levyref2_Between.j0 k a0 a1 true) = some (r1, r2) := by rw [if_neg (show ¬ (false = true) by decide)] at H; exact H
      clear H
      have H := H1
      clear H1
      have H' := Aside0.mk H
      clear H
      go_wp2
      go_meet
      case rel => exact ⟨_, (true), (by first | rfl | (simp; done) | (simp [*]; done)), H', ⟨by first | omega | exact Nat.le_refl _⟩, by repeat (first | exact Drawn0.refl _ | apply Drawn0.step)⟩
  case rest =>
    clear HC5
    try clear p2
    try clear c3
    try clear c4
    try clear c6
    obtain ⟨kq, x26_4, rfl, HA, HJ4, ⟨mc4, rfl⟩⟩ := hcut
    cases kq with
    | zero => exact absurd HA.out (by simp [levyref2_Between.j0])
    | succ kj4 =>
      have H := HA.out
      clear HA
      simp only [levyref2_Between.j0] at H
      by_cases c7 : x26_4 = true
      · subst c7
        have H1 : (some (0, 21)) = some (r1, r2) := by rw [if_pos rfl] at H; exact H
        clear H
        have H := H1
        clear H1
        simp only [Option.some.injEq, Prod.mk.injEq] at H
        obtain ⟨rfl, rfl⟩ := H
        go_wp2
        go_ret2
        exact ⟨by first | rfl | (simp; done) | (simp [*]; done), by repeat (first | exact Drawn0.refl _ | apply Drawn0.step)⟩
      · replace c7 := Bool.eq_false_iff.mpr c7
        subst c7
        have H1 : (if a1 < a0 then ((levyref2_Between.f kj4 a1 a0).bind fun bt315 => (some (wrap64 (-bt315.1), bt315.2))) else ((levyref2_month.f kj4 a0).bind fun bt317 => ((levyref2_month.f kj4 a1).bind fun bt319 => ((levyref2_Add.f kj4 a0 (wrap64 (bt319.1 - bt317.1))).bind fun bt321 => (if bt321.2 = 0 then (if bt321.1 > a1 then (some (wrap64 ((wrap64 (bt319.1 - bt317.1)) - 1), 0)) else (some (wrap64 (bt319.1 - bt317.1), 0))) else (some (wrap64 ((wrap64 (bt319.1 - bt317.1)) - 1), 0))))))) = some (r1, r2) := by rw [if_neg (show ¬ (false = true) by decide)] at H; exact H
        clear H
        have H := H1
        clear H1
        by_cases c8 : a1 < a0
        · rw [if_pos c8] at H
          have c8b0 : decide (a1 < a0) = true := decide_eq_true c8
          clear c8
          replace H := Option.bind_eq_some_iff.mp H
          obtain ⟨⟨t315, t316⟩, A90, H⟩ := H
          replace H : (some (wrap64 (-t315), t316)) = some (r1, r2) := H
          have A9 := Aside0.mk A90
          clear A90
          simp only [Option.some.injEq, Prod.mk.injEq] at H
          obtain ⟨rfl, rfl⟩ := H
          go_wp2_with (first | ((with_reducible refine gate_callee (f := 38) rfl ?_); refine goesL_ (some 33) rfl rfl Tryd.func38 (by kernel_rfl) rfl #[.int .i64 a1, .int .i64 a0] rfl (by (try simp only [List.map_toArray, List.map_cons, List.map_nil]); first | done | rfl | (simp only [List.length_drop, List.length_take]; rfl)) ?_; (with_reducible refine (ih kj4 (by have := HJ4.out; omega) a1 a0 t315 t316 _ A9.out).mono ?_); rintro e w' ⟨rfl, ⟨nd, rfl⟩⟩; refine ⟨_, rfl, ?_⟩))
          go_ret2
          exact ⟨by first | rfl | (simp; done) | (simp [*]; done), by repeat (first | exact Drawn0.refl _ | apply Drawn0.step)⟩
        · rw [if_neg c8] at H
          have c8b0 : decide (a1 < a0) = false := decide_eq_false c8
          clear c8
          replace H := Option.bind_eq_some_iff.mp H
          obtain ⟨⟨t317, t318⟩, A100, H⟩ := H
          replace H : ((levyref2_month.f kj4 a1).bind fun bt319 => ((levyref2_Add.f kj4 a0 (wrap64 (bt319.1 - t317))).bind fun bt321 => (if bt321.2 = 0 then (if bt321.1 > a1 then (some (wrap64 ((wrap64 (bt319.1 - t317)) - 1), 0)) else (some (wrap64 (bt319.1 - t317), 0))) else (some (wrap64 ((wrap64 (bt319.1 - t317)) - 1), 0))))) = some (r1, r2) := H
          have A10 := Aside0.mk A100
          clear A100
          replace H := Option.bind_eq_some_iff.mp H
          obtain ⟨⟨t319, t320⟩, A110, H⟩ := H
          replace H : ((levyref2_Add.f kj4 a0 (wrap64 (t319 - t317))).bind fun bt321 => (if bt321.2 = 0 then (if bt321.1 > a1 then (some (wrap64 ((wrap64 (t319 - t317)) - 1), 0)) else (some (wrap64 (t319 - t317), 0))) else (some (wrap64 ((wrap64 (t319 - t317)) - 1), 0)))) = some (r1, r2) := H
          have A11 := Aside0.mk A110
          clear A110
          replace H := Option.bind_eq_some_iff.mp H
          obtain ⟨⟨t321, t322⟩, A120, H⟩ := H
          replace H : (if t322 = 0 then (if t321 > a1 then (some (wrap64 ((wrap64 (t319 - t317)) - 1), 0)) else (some (wrap64 (t319 - t317), 0))) else (some (wrap64 ((wrap64 (t319 - t317)) - 1), 0))) = some (r1, r2) := H
          have A12 := Aside0.mk A120
          clear A120
          by_cases c13 : t322 = 0
          · rw [if_pos c13] at H
            have c13b0 : (t322 == 0) = true := beq_iff_eq.mpr c13
            have c13b1 : (t322 != 0) = false := bne_eq_false_iff_eq.mpr c13
            clear c13
            by_cases c14 : t321 > a1
            · rw [if_pos c14] at H
              have c14b0 : decide (a1 < t321) = true := decide_eq_true c14
              clear c14
              simp only [Option.some.injEq, Prod.mk.injEq] at H
              obtain ⟨rfl, rfl⟩ := H
              go_wp2_with (first | ((with_reducible refine gate_callee (f := 42) rfl ?_); refine goesL_ (some 41) rfl rfl Tryd.func42 (by kernel_rfl) rfl #[.int .i64 a0] rfl (by (try simp only [List.map_toArray, List.map_cons, List.map_nil]); first | done | rfl | (simp only [List.length_drop, List.length_take]; rfl)) ?_; (with_reducible refine (levyref2_month.calls kj4 a0 t317 t318 _ A10.out).mono ?_); rintro e w' ⟨rfl, ⟨nd, rfl⟩⟩; refine ⟨_, rfl, ?_⟩) | ((with_reducible refine gate_callee (f := 42) rfl ?_); refine goesL_ (some 46) rfl rfl Tryd.func42 (by kernel_rfl) rfl #[.int .i64 a1] rfl (by (try simp only [List.map_toArray, List.map_cons, List.map_nil]); first | done | rfl | (simp only [List.length_drop, List.length_take]; rfl)) ?_; (with_reducible refine (levyref2_month.calls kj4 a1 t319 t320 _ A11.out).mono ?_); rintro e w' ⟨rfl, ⟨nd, rfl⟩⟩; refine ⟨_, rfl, ?_⟩) | ((with_reducible refine gate_callee (f := 37) rfl ?_); refine goesL_ (some 55) rfl rfl Tryd.func37 (by kernel_rfl) rfl #[.int .i64 a0, .int .i64 (wrap64 (t319 - t317))] rfl (by (try simp only [List.map_toArray, List.map_cons, List.map_nil]); first | done | rfl | (simp only [List.length_drop, List.length_take]; rfl)) ?_; (with_reducible refine (levyref2_Add.calls kj4 a0 (wrap64 (t319 - t317)) t321 t322 _ A12.out).mono ?_); rintro e w' ⟨rfl, ⟨nd, rfl⟩⟩; refine ⟨_, rfl, ?_⟩))
              go_ret2
              exact ⟨by first | rfl | (simp; done) | (simp [*]; done), by repeat (first | exact Drawn0.refl _ | apply Drawn0.step)⟩
            · rw [if_neg c14] at H
              have c14b0 : decide (a1 < t321) = false := decide_eq_false c14
              clear c14
              simp only [Option.some.injEq, Prod.mk.injEq] at H
              obtain ⟨rfl, rfl⟩ := H
              go_wp2_with (first | ((with_reducible refine gate_callee (f := 42) rfl ?_); refine goesL_ (some 41) rfl rfl Tryd.func42 (by kernel_rfl) rfl #[.int .i64 a0] rfl (by (try simp only [List.map_toArray, List.map_cons, List.map_nil]); first | done | rfl | (simp only [List.length_drop, List.length_take]; rfl)) ?_; (with_reducible refine (levyref2_month.calls kj4 a0 t317 t318 _ A10.out).mono ?_); rintro e w' ⟨rfl, ⟨nd, rfl⟩⟩; refine ⟨_, rfl, ?_⟩) | ((with_reducible refine gate_callee (f := 42) rfl ?_); refine goesL_ (some 46) rfl rfl Tryd.func42 (by kernel_rfl) rfl #[.int .i64 a1] rfl (by (try simp only [List.map_toArray, List.map_cons, List.map_nil]); first | done | rfl | (simp only [List.length_drop, List.length_take]; rfl)) ?_; (with_reducible refine (levyref2_month.calls kj4 a1 t319 t320 _ A11.out).mono ?_); rintro e w' ⟨rfl, ⟨nd, rfl⟩⟩; refine ⟨_, rfl, ?_⟩) | ((with_reducible refine gate_callee (f := 37) rfl ?_); refine goesL_ (some 55) rfl rfl Tryd.func37 (by kernel_rfl) rfl #[.int .i64 a0, .int .i64 (wrap64 (t319 - t317))] rfl (by (try simp only [List.map_toArray, List.map_cons, List.map_nil]); first | done | rfl | (simp only [List.length_drop, List.length_take]; rfl)) ?_; (with_reducible refine (levyref2_Add.calls kj4 a0 (wrap64 (t319 - t317)) t321 t322 _ A12.out).mono ?_); rintro e w' ⟨rfl, ⟨nd, rfl⟩⟩; refine ⟨_, rfl, ?_⟩))
              go_ret2
              exact ⟨by first | rfl | (simp; done) | (simp [*]; done), by repeat (first | exact Drawn0.refl _ | apply Drawn0.step)⟩
          · rw [if_neg c13] at H
            have c13b0 : (t322 == 0) = false := beq_eq_false_iff_ne.mpr c13
            have c13b1 : (t322 != 0) = true := bne_iff_ne.mpr c13
            simp only [Option.some.injEq, Prod.mk.injEq] at H
            obtain ⟨rfl, rfl⟩ := H
            go_wp2_with (first | ((with_reducible refine gate_callee (f := 42) rfl ?_); refine goesL_ (some 41) rfl rfl Tryd.func42 (by kernel_rfl) rfl #[.int .i64 a0] rfl (by (try simp only [List.map_toArray, List.map_cons, List.map_nil]); first | done | rfl | (simp only [List.length_drop, List.length_take]; rfl)) ?_; (with_reducible refine (levyref2_month.calls kj4 a0 t317 t318 _ A10.out).mono ?_); rintro e w' ⟨rfl, ⟨nd, rfl⟩⟩; refine ⟨_, rfl, ?_⟩) | ((with_reducible refine gate_callee (f := 42) rfl ?_); refine goesL_ (some 46) rfl rfl Tryd.func42 (by kernel_rfl) rfl #[.int .i64 a1] rfl (by (try simp only [List.map_toArray, List.map_cons, List.map_nil]); first | done | rfl | (simp only [List.length_drop, List.length_take]; rfl)) ?_; (with_reducible refine (levyref2_month.calls kj4 a1 t319 t320 _ A11.out).mono ?_); rintro e w' ⟨rfl, ⟨nd, rfl⟩⟩; refine ⟨_, rfl, ?_⟩) | ((with_reducible refine gate_callee (f := 37) rfl ?_); refine goesL_ (some 55) rfl rfl Tryd.func37 (by kernel_rfl) rfl #[.int .i64 a0, .int .i64 (wrap64 (t319 - t317))] rfl (by (try simp only [List.map_toArray, List.map_cons, List.map_nil]); first | done | rfl | (simp only [List.length_drop, List.length_take]; rfl)) ?_; (with_reducible refine (levyref2_Add.calls kj4 a0 (wrap64 (t319 - t317)) t321 t322 _ A12.out).mono ?_); rintro e w' ⟨rfl, ⟨nd, rfl⟩⟩; refine ⟨_, rfl, ?_⟩))
            go_ret2
            exact ⟨by first | rfl | (simp; done) | (simp [*]; done), by repeat (first | exact Drawn0.refl _ | apply Drawn0.step)⟩

end Go.Proofs.YtlipkhhpjelicaaDoor.PA
