/- The Go functions of this seat that the laws of part A come to, each as a plain Lean function ('f', its loops 'l0' ..) with a proof that the call comes to its answer. Conditions: where a function comes to a package-level table, the world holds that table ('Tabs'). Written by a program of this session (a changed copy of the print). -/
import Derived.Test.YtlipkhhpjelicaaDoorPAx0
import Derived.Test.YtlipkhhpjelicaaDoorPAx5
import Derived.Test.YtlipkhhpjelicaaDoorPAx7
namespace Go.Proofs.YtlipkhhpjelicaaDoor.PA
open Go.RowKit Go.Proofs.YtlipkhhpjelicaaDoorW.PrintWords Go.Proofs.YtlipkhhpjelicaaDoorW.PrintLast Go.Proofs.YtlipkhhpjelicaaDoorW.PrintMore
attribute [local go_sem] max2_int min2_int max_two min_two max_three min_three max_four min_four   -- for this text's walks alone
set_option linter.unusedVariables false
set_option linter.unusedSimpArgs false

/-! ### levyref2_Share: function 41 -/
mutual
def levyref2_Share.j0 : Nat → Int → Int → Int → Bool → Option (Int × Int × Int)
  | 0, _, _, _, _ => none
  | k + 1, x0, x1, x2, x32 => if x32 = true then (some (0, 0, 21)) else (if x1 < x0 then (some (0, 0, 23)) else ((levyref2_begins.f k (wrap64 (12 * (wrap64 (x2 - 1900))))).bind fun t339 => ((levyref2_begins.f k (wrap64 (12 * (wrap64 ((wrap64 (x2 - 1900)) + 1))))).bind fun t340 => (if t339 > x0 then (levyref2_Share.j1 k t339 t340 t339 (wrap64 (x1 + 1))) else (levyref2_Share.j1 k t339 t340 x0 (wrap64 (x1 + 1)))))))
def levyref2_Share.j1 : Nat → Int → Int → Int → Int → Option (Int × Int × Int)
  | 0, _, _, _, _ => none
  | k + 1, x11, x12, x13, x14 => if x12 < x14 then (if x12 < x13 then (some (0, wrap64 (x12 - x11), 0)) else (some (wrap64 (x12 - x13), wrap64 (x12 - x11), 0))) else (if x14 < x13 then (some (0, wrap64 (x12 - x11), 0)) else (some (wrap64 (x14 - x13), wrap64 (x12 - x11), 0)))
end
def levyref2_Share.f (k : Nat) (a0 : Int) (a1 : Int) (a2 : Int) : Option (Int × Int × Int) := (levyref2_is.f a0).bind fun t337 => ((levyref2_is.f a1).bind fun t338 => (if t337 = true then (if t338 = true then (if a2 < 1900 then (levyref2_Share.j0 k a0 a1 a2 true) else (levyref2_Share.j0 k a0 a1 a2 (decide (a2 > 2199)))) else (levyref2_Share.j0 k a0 a1 a2 true)) else (levyref2_Share.j0 k a0 a1 a2 true)))
theorem levyref2_Share.mono_l : ∀ k, (∀ y0 y1 y2 y3, LeO (levyref2_Share.j0 k y0 y1 y2 y3) (levyref2_Share.j0 (k + 1) y0 y1 y2 y3)) ∧ (∀ y0 y1 y2 y3, LeO (levyref2_Share.j1 k y0 y1 y2 y3) (levyref2_Share.j1 (k + 1) y0 y1 y2 y3))
  | 0 => ⟨fun _ _ _ _ r h => by simp [levyref2_Share.j0] at h, fun _ _ _ _ r h => by simp [levyref2_Share.j1] at h⟩
  | k + 1 => by
    obtain ⟨ih0, ih1⟩ := levyref2_Share.mono_l k
    refine ⟨?_, ?_⟩
    · intro y0 y1 y2 y3
      unfold levyref2_Share.j0
      repeat' first
      | (with_reducible exact ih0 _ _ _ _)
      | (with_reducible exact ih1 _ _ _ _)
      | (with_reducible exact levyref2_begins.mono _ _)
      | (with_reducible exact LeO.refl _)
      | (with_reducible exact LeO.none _)
      | (with_reducible refine LeO.ite ?_ ?_)
      | (with_reducible refine LeO.bind ?_ (fun _ => ?_))
      | exact ih0 _ _ _ _
      | exact ih1 _ _ _ _
      | exact levyref2_begins.mono _ _
      | exact LeO.none _
      | refine LeO.ite ?_ ?_
      | refine LeO.bind ?_ (fun _ => ?_)
    · intro y0 y1 y2 y3
      unfold levyref2_Share.j1
      repeat' first
      | (with_reducible exact ih0 _ _ _ _)
      | (with_reducible exact ih1 _ _ _ _)
      | (with_reducible exact levyref2_begins.mono _ _)
      | (with_reducible exact LeO.refl _)
      | (with_reducible exact LeO.none _)
      | (with_reducible refine LeO.ite ?_ ?_)
      | (with_reducible refine LeO.bind ?_ (fun _ => ?_))
      | exact ih0 _ _ _ _
      | exact ih1 _ _ _ _
      | exact levyref2_begins.mono _ _
      | exact LeO.none _
      | refine LeO.ite ?_ ?_
      | refine LeO.bind ?_ (fun _ => ?_)
theorem levyref2_Share.mono : ∀ a0 a1 a2 k, LeO (levyref2_Share.f k a0 a1 a2) (levyref2_Share.f (k + 1) a0 a1 a2) := by
  intro a0 a1 a2 k
  obtain ⟨ih0, ih1⟩ := levyref2_Share.mono_l k
  unfold levyref2_Share.f
  repeat' first
      | (with_reducible exact ih0 _ _ _ _)
      | (with_reducible exact ih1 _ _ _ _)
      | (with_reducible exact levyref2_begins.mono _ _)
      | (with_reducible exact LeO.refl _)
      | (with_reducible exact LeO.none _)
      | (with_reducible refine LeO.ite ?_ ?_)
      | (with_reducible refine LeO.bind ?_ (fun _ => ?_))
      | exact ih0 _ _ _ _
      | exact ih1 _ _ _ _
      | exact levyref2_begins.mono _ _
      | exact LeO.none _
      | refine LeO.ite ?_ ?_
      | refine LeO.bind ?_ (fun _ => ?_)
set_option maxHeartbeats 8000000 in
set_option maxRecDepth 100000 in
theorem levyref2_Share.calls (k : Nat) (a0 : Int) (a1 : Int) (a2 : Int) (r1 : Int) (r2 : Int) (r3 : Int) (w : World) (h : levyref2_Share.f k a0 a1 a2 = some (r1, r2, r3)) :
    Calls Tryd.prog 41 #[.int .i64 a0, .int .i64 a1, .int .i64 a2] w fun e w' => e = .returned (.tuple #[.int .i64 r1, .int .i64 r2, .int .i64 r3]) ∧ Drawn0 w w' := by
  have H : ((levyref2_is.f a0).bind fun t337 => ((levyref2_is.f a1).bind fun t338 => (if t337 = true then (if t338 = true then (if a2 < 1900 then (levyref2_Share.j0 k a0 a1 a2 true) else (levyref2_Share.j0 k a0 a1 a2 (decide (a2 > 2199)))) else (levyref2_Share.j0 k a0 a1 a2 true)) else (levyref2_Share.j0 k a0 a1 a2 true)))) = some (r1, r2, r3) := h
  clear h
  replace H := Option.bind_eq_some_iff.mp H
  obtain ⟨t337, A40, H⟩ := H
  replace H : ((levyref2_is.f a1).bind fun t338 => (if t337 = true then (if t338 = true then (if a2 < 1900 then (levyref2_Share.j0 k a0 a1 a2 true) else (levyref2_Share.j0 k a0 a1 a2 (decide (a2 > 2199)))) else (levyref2_Share.j0 k a0 a1 a2 true)) else (levyref2_Share.j0 k a0 a1 a2 true))) = some (r1, r2, r3) := H
  have A4 := Aside0.mk A40
  clear A40
  replace H := Option.bind_eq_some_iff.mp H
  obtain ⟨t338, A50, H⟩ := H
  replace H : (if t337 = true then (if t338 = true then (if a2 < 1900 then (levyref2_Share.j0 k a0 a1 a2 true) else (levyref2_Share.j0 k a0 a1 a2 (decide (a2 > 2199)))) else (levyref2_Share.j0 k a0 a1 a2 true)) else (levyref2_Share.j0 k a0 a1 a2 true)) = some (r1, r2, r3) := H
  have A5 := Aside0.mk A50
  clear A50
  have HC6 := Aside0.mk H
  clear H
  go_enter Tryd.func41, Tryd.ntmps41
  go_upto_region 3 with (first | ((with_reducible refine gate_callee (f := 49) rfl ?_); refine goesL_ (some 16) rfl rfl Tryd.func49 (by kernel_rfl) rfl #[.int .i64 a0] rfl (by (try simp only [List.map_toArray, List.map_cons, List.map_nil]); first | done | rfl | (simp only [List.length_drop, List.length_take]; rfl)) ?_; (with_reducible refine (levyref2_is.calls a0 t337 _ A4.out).mono ?_); rintro e w' ⟨rfl, ⟨nd, rfl⟩⟩; refine ⟨_, rfl, ?_⟩) | ((with_reducible refine gate_callee (f := 49) rfl ?_); refine goesL_ (some 18) rfl rfl Tryd.func49 (by kernel_rfl) rfl #[.int .i64 a1] rfl (by (try simp only [List.map_toArray, List.map_cons, List.map_nil]); first | done | rfl | (simp only [List.length_drop, List.length_take]; rfl)) ?_; (with_reducible refine (levyref2_is.calls a1 t338 _ A5.out).mono ?_); rintro e w' ⟨rfl, ⟨nd, rfl⟩⟩; refine ⟨_, rfl, ?_⟩))
  (try simp only [Act.put, List.setIfInBounds_toArray, List.set_cons_zero, List.set_cons_succ])
  go_cut [32] (fun v32 wc => ∃ (kq : Nat) (x32_5 : Bool), v32 = .bool x32_5 ∧ Aside0 (levyref2_Share.j0 kq a0 a1 a2 x32_5 = some (r1, r2, r3)) ∧ Aside0 (kq ≤ k) ∧ Drawn0 w wc)
  case first =>
    have H := HC6.out
    clear HC6
    by_cases c7 : t337 = true
    · subst c7
      have H1 : (if t338 = true then (if a2 < 1900 then (levyref2_Share.j0 k a0 a1 a2 true) else (levyref2_Share.j0 k a0 a1 a2 (decide (a2 > 2199)))) else (levyref2_Share.j0 k a0 a1 a2 true)) = some (r1, r2, r3) := by rw [if_pos rfl] at H; exact H
      clear H
      have H := H1
      clear H1
      by_cases c8 : t338 = true
      · subst c8
        have H1 : (if a2 < 1900 then (levyref2_Share.j0 k a0 a1 a2 true) else (levyref2_Share.j0 k a0 a1 a2 (decide (a2 > 2199)))) = some (r1, r2, r3) := by rw [if_pos rfl] at H; exact H
        clear H
        have H := H1
        clear H1
        by_cases c9 : a2 < 1900
        · rw [if_pos c9] at H
          have c9b0 : decide (a2 < 1900) = true := decide_eq_true c9
          clear c9
          (first | rw [c9b0] | (simp only [i64_w, i32_w]; rw [c9b0]) | skip)
          have H' := Aside0.mk H
          clear H
          go_wp2
          go_meet
          case rel => exact ⟨_, (true), (by first | rfl | (simp; done) | (simp [*]; done)), H', ⟨by first | omega | exact Nat.le_refl _⟩, by repeat (first | exact Drawn0.refl _ | apply Drawn0.step)⟩
        · rw [if_neg c9] at H
          have c9b0 : decide (a2 < 1900) = false := decide_eq_false c9
          clear c9
          (first | rw [c9b0] | (simp only [i64_w, i32_w]; rw [c9b0]) | skip)
          have H' := Aside0.mk H
          clear H
          go_wp2
          go_meet
          case rel => exact ⟨_, (decide (a2 > 2199)), (by first | rfl | (simp; done) | (simp [*]; done)), H', ⟨by first | omega | exact Nat.le_refl _⟩, by repeat (first | exact Drawn0.refl _ | apply Drawn0.step)⟩
      · replace c8 := Bool.eq_false_iff.mpr c8
        subst c8
        have H1 : (levyref2_Share.j0 k a0 a1 a2 true) = some (r1, r2, r3) := by rw [if_neg (show ¬ (false = true) by decide)] at H; exact H
        clear H
        have H := H1
        clear H1
        have H' := Aside0.mk H
        clear H
        go_wp2
        go_meet
        case rel => exact ⟨_, (true), (by first | rfl | (simp; done) | (simp [*]; done)), H', ⟨by first | omega | exact Nat.le_refl _⟩, by repeat (first | exact Drawn0.refl _ | apply Drawn0.step)⟩
    · replace c7 := Bool.eq_false_iff.mpr c7
      subst c7
      have H1 : (levyref2_Share.j0 k a0 a1 a2 true) = some (r1, r2, r3) := by rw [if_neg (show ¬ (false = true) by decide)] at H; exact H
      clear H
      have H := H1
      clear H1
      have H' := Aside0.mk H
      clear H
      go_wp2
      go_meet
      case rel => exact ⟨_, (true), (by first | rfl | (simp; done) | (simp [*]; done)), H', ⟨by first | omega | exact Nat.le_refl _⟩, by repeat (first | exact Drawn0.refl _ | apply Drawn0.step)⟩
  case rest =>
    clear HC6
    try clear p2
    try clear c4
    try clear c7
    try clear c8
    try clear c9
    try clear c9b0
    obtain ⟨kq, x32_5, rfl, HA, HJ5, ⟨mc5, rfl⟩⟩ := hcut
    cases kq with
    | zero => exact absurd HA.out (by simp [levyref2_Share.j0])
    | succ kj5 =>
      have H := HA.out
      clear HA
      simp only [levyref2_Share.j0] at H
      by_cases c10 : x32_5 = true
      · subst c10
        have H1 : (some (0, 0, 21)) = some (r1, r2, r3) := by rw [if_pos rfl] at H; exact H
        clear H
        have H := H1
        clear H1
        simp only [Option.some.injEq, Prod.mk.injEq] at H
        obtain ⟨rfl, rfl, rfl⟩ := H
        go_wp2
        go_ret3
        exact ⟨by first | rfl | (simp; done) | (simp [*]; done), by repeat (first | exact Drawn0.refl _ | apply Drawn0.step)⟩
      · replace c10 := Bool.eq_false_iff.mpr c10
        subst c10
        have H1 : (if a1 < a0 then (some (0, 0, 23)) else ((levyref2_begins.f kj5 (wrap64 (12 * (wrap64 (a2 - 1900))))).bind fun t339 => ((levyref2_begins.f kj5 (wrap64 (12 * (wrap64 ((wrap64 (a2 - 1900)) + 1))))).bind fun t340 => (if t339 > a0 then (levyref2_Share.j1 kj5 t339 t340 t339 (wrap64 (a1 + 1))) else (levyref2_Share.j1 kj5 t339 t340 a0 (wrap64 (a1 + 1))))))) = some (r1, r2, r3) := by rw [if_neg (show ¬ (false = true) by decide)] at H; exact H
        clear H
        have H := H1
        clear H1
        by_cases c11 : a1 < a0
        · rw [if_pos c11] at H
          have c11b0 : decide (a1 < a0) = true := decide_eq_true c11
          clear c11
          simp only [Option.some.injEq, Prod.mk.injEq] at H
          obtain ⟨rfl, rfl, rfl⟩ := H
          go_wp2
          go_ret3
          exact ⟨by first | rfl | (simp; done) | (simp [*]; done), by repeat (first | exact Drawn0.refl _ | apply Drawn0.step)⟩
        · rw [if_neg c11] at H
          have c11b0 : decide (a1 < a0) = false := decide_eq_false c11
          clear c11
          replace H := Option.bind_eq_some_iff.mp H
          obtain ⟨t339, A120, H⟩ := H
          replace H : ((levyref2_begins.f kj5 (wrap64 (12 * (wrap64 ((wrap64 (a2 - 1900)) + 1))))).bind fun t340 => (if t339 > a0 then (levyref2_Share.j1 kj5 t339 t340 t339 (wrap64 (a1 + 1))) else (levyref2_Share.j1 kj5 t339 t340 a0 (wrap64 (a1 + 1))))) = some (r1, r2, r3) := H
          have A12 := Aside0.mk A120
          clear A120
          replace H := Option.bind_eq_some_iff.mp H
          obtain ⟨t340, A130, H⟩ := H
          replace H : (if t339 > a0 then (levyref2_Share.j1 kj5 t339 t340 t339 (wrap64 (a1 + 1))) else (levyref2_Share.j1 kj5 t339 t340 a0 (wrap64 (a1 + 1)))) = some (r1, r2, r3) := H
          have A13 := Aside0.mk A130
          clear A130
          have HC14 := Aside0.mk H
          clear H
          go_upto_if 50 with (first | ((with_reducible refine gate_callee (f := 43) rfl ?_); refine goesL_ (some 39) rfl rfl Tryd.func43 (by kernel_rfl) rfl #[.int .i64 (wrap64 (12 * (wrap64 (a2 - 1900))))] rfl (by (try simp only [List.map_toArray, List.map_cons, List.map_nil]); first | done | rfl | (simp only [List.length_drop, List.length_take]; rfl)) ?_; (with_reducible refine (levyref2_begins.calls kj5 (wrap64 (12 * (wrap64 (a2 - 1900)))) t339 _ A12.out).mono ?_); rintro e w' ⟨rfl, ⟨nd, rfl⟩⟩; refine ⟨_, rfl, ?_⟩) | ((with_reducible refine gate_callee (f := 43) rfl ?_); refine goesL_ (some 44) rfl rfl Tryd.func43 (by kernel_rfl) rfl #[.int .i64 (wrap64 (12 * (wrap64 ((wrap64 (a2 - 1900)) + 1))))] rfl (by (try simp only [List.map_toArray, List.map_cons, List.map_nil]); first | done | rfl | (simp only [List.length_drop, List.length_take]; rfl)) ?_; (with_reducible refine (levyref2_begins.calls kj5 (wrap64 (12 * (wrap64 ((wrap64 (a2 - 1900)) + 1)))) t340 _ A13.out).mono ?_); rintro e w' ⟨rfl, ⟨nd, rfl⟩⟩; refine ⟨_, rfl, ?_⟩))
          (try simp only [Act.put, List.setIfInBounds_toArray, List.set_cons_zero, List.set_cons_succ])
          go_cut [13] (fun v13 wc => ∃ (kq : Nat) (x13_13 : Int), v13 = .int .i64 x13_13 ∧ Aside0 (levyref2_Share.j1 kq t339 t340 x13_13 (wrap64 (a1 + 1)) = some (r1, r2, r3)) ∧ Aside0 (kq ≤ kj5) ∧ Drawn0 w wc)
          case first =>
            have H := HC14.out
            clear HC14
            by_cases c15 : t339 > a0
            · rw [if_pos c15] at H
              have c15b0 : decide (a0 < t339) = true := decide_eq_true c15
              clear c15
              (first | rw [c15b0] | (simp only [i64_w, i32_w]; rw [c15b0]) | skip)
              have H' := Aside0.mk H
              clear H
              go_wp2
              go_meet
              case rel => exact ⟨_, (t339), (by first | rfl | (simp; done) | (simp [*]; done)), H', ⟨by have := HJ5.out; first | omega | exact Nat.le_refl _⟩, by repeat (first | exact Drawn0.refl _ | apply Drawn0.step)⟩
            · rw [if_neg c15] at H
              have c15b0 : decide (a0 < t339) = false := decide_eq_false c15
              clear c15
              (first | rw [c15b0] | (simp only [i64_w, i32_w]; rw [c15b0]) | skip)
              have H' := Aside0.mk H
              clear H
              go_wp2
              go_meet
              case rel => exact ⟨_, (a0), (by first | rfl | (simp; done) | (simp [*]; done)), H', ⟨by have := HJ5.out; first | omega | exact Nat.le_refl _⟩, by repeat (first | exact Drawn0.refl _ | apply Drawn0.step)⟩
          case rest =>
            clear HC14
            try clear c1
            try clear p2
            try clear c4
            try clear c5
            try clear p6
            try clear c7
            try clear c8
            try clear c9
            try clear c9b0
            try clear c10
            try clear c11
            try clear c11b0
            try clear c15
            try clear c15b0
            try clear p2
            obtain ⟨kq, x13_13, rfl, HA, HJ13, ⟨mc13, rfl⟩⟩ := hcut
            cases kq with
            | zero => exact absurd HA.out (by simp [levyref2_Share.j1])
            | succ kj13 =>
              have H := HA.out
              clear HA
              simp only [levyref2_Share.j1] at H
              by_cases c16 : t340 < (wrap64 (a1 + 1))
              · rw [if_pos c16] at H
                have c16b0 : decide (t340 < (wrap64 (a1 + 1))) = true := decide_eq_true c16
                clear c16
                by_cases c17 : t340 < x13_13
                · rw [if_pos c17] at H
                  have c17b0 : decide (t340 < x13_13) = true := decide_eq_true c17
                  clear c17
                  simp only [Option.some.injEq, Prod.mk.injEq] at H
                  obtain ⟨rfl, rfl, rfl⟩ := H
                  go_wp2
                  go_ret3
                  exact ⟨by first | rfl | (simp; done) | (simp [*]; done), by repeat (first | exact Drawn0.refl _ | apply Drawn0.step)⟩
                · rw [if_neg c17] at H
                  have c17b0 : decide (t340 < x13_13) = false := decide_eq_false c17
                  clear c17
                  simp only [Option.some.injEq, Prod.mk.injEq] at H
                  obtain ⟨rfl, rfl, rfl⟩ := H
                  go_wp2
                  go_ret3
                  exact ⟨by first | rfl | (simp; done) | (simp [*]; done), by repeat (first | exact Drawn0.refl _ | apply Drawn0.step)⟩
              · rw [if_neg c16] at H
                have c16b0 : decide (t340 < (wrap64 (a1 + 1))) = false := decide_eq_false c16
                clear c16
                by_cases c18 : (wrap64 (a1 + 1)) < x13_13
                · rw [if_pos c18] at H
                  have c18b0 : decide ((wrap64 (a1 + 1)) < x13_13) = true := decide_eq_true c18
                  clear c18
                  simp only [Option.some.injEq, Prod.mk.injEq] at H
                  obtain ⟨rfl, rfl, rfl⟩ := H
                  go_wp2
                  go_ret3
                  exact ⟨by first | rfl | (simp; done) | (simp [*]; done), by repeat (first | exact Drawn0.refl _ | apply Drawn0.step)⟩
                · rw [if_neg c18] at H
                  have c18b0 : decide ((wrap64 (a1 + 1)) < x13_13) = false := decide_eq_false c18
                  clear c18
                  simp only [Option.some.injEq, Prod.mk.injEq] at H
                  obtain ⟨rfl, rfl, rfl⟩ := H
                  go_wp2
                  go_ret3
                  exact ⟨by first | rfl | (simp; done) | (simp [*]; done), by repeat (first | exact Drawn0.refl _ | apply Drawn0.step)⟩

end Go.Proofs.YtlipkhhpjelicaaDoor.PA
