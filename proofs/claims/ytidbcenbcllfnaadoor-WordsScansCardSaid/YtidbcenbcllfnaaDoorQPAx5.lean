/- The Go functions of this seat that the laws of part A come to, each as a plain Lean function ('f', its loops 'l0' ..) with a proof that the call comes to its answer. Conditions: where a function comes to a package-level table, the world holds that table ('Tabs'). Written by a program of this session (a changed copy of the print). -/
import Derived.Test.YtidbcenbcllfnaaDoorQPAx0
import Derived.Test.YtidbcenbcllfnaaDoorQPAx4
namespace Go.Proofs.YtidbcenbcllfnaaDoor.PA
open Go.RowKit Go.Proofs.YtidbcenbcllfnaaDoorW.PrintWords Go.Proofs.YtidbcenbcllfnaaDoorW.PrintLast Go.Proofs.YtidbcenbcllfnaaDoorW.PrintMore
attribute [local go_sem] max2_int min2_int max_two min_two max_three min_three max_four min_four   -- for this text's walks alone
set_option linter.unusedVariables false
set_option linter.unusedSimpArgs false

/-! ### levyref2_begins: function 104 -/
mutual
def levyref2_begins.l0 : Nat → Int → Int → Int → Option (Int)
  | 0, _, _, _ => none
  | k + 1, x0, x3, x4 => if x4 < (wrap64 (Int.tdiv x0 12)) then ((levyref2_Leap.f (wrap64 (1900 + x4))).bind fun t108 => (if t108 = true then (levyref2_begins.l0 k x0 (wrap64 ((wrap64 (x3 + 365)) + 1)) (wrap64 (x4 + 1))) else (levyref2_begins.l0 k x0 (wrap64 (x3 + 365)) (wrap64 (x4 + 1))))) else (levyref2_begins.l1 k x0 x3 x4 (wrap64 (12 * x4)))
def levyref2_begins.l1 : Nat → Int → Int → Int → Int → Option (Int)
  | 0, _, _, _, _ => none
  | k + 1, x0, x3, x4, x6 => if x6 < x0 then ((levyref2_Last.f k (wrap64 (1900 + x4)) (wrap64 ((Int.tmod x6 12) + 1))).bind fun t109 => (levyref2_begins.l1 k x0 (wrap64 (x3 + t109)) x4 (wrap64 (x6 + 1)))) else (some x3)
end
def levyref2_begins.f (k : Nat) (a0 : Int) : Option (Int) := levyref2_begins.l0 k a0 0 0
theorem levyref2_begins.mono_l : ∀ k, (∀ y0 y1 y2, LeO (levyref2_begins.l0 k y0 y1 y2) (levyref2_begins.l0 (k + 1) y0 y1 y2)) ∧ (∀ y0 y1 y2 y3, LeO (levyref2_begins.l1 k y0 y1 y2 y3) (levyref2_begins.l1 (k + 1) y0 y1 y2 y3))
  | 0 => ⟨fun _ _ _ r h => by simp [levyref2_begins.l0] at h, fun _ _ _ _ r h => by simp [levyref2_begins.l1] at h⟩
  | k + 1 => by
    obtain ⟨ih0, ih1⟩ := levyref2_begins.mono_l k
    refine ⟨?_, ?_⟩
    · intro y0 y1 y2
      unfold levyref2_begins.l0
      repeat' first
      | (with_reducible exact ih0 _ _ _)
      | (with_reducible exact ih1 _ _ _ _)
      | (with_reducible exact levyref2_Last.mono _ _ _)
      | (with_reducible exact LeO.refl _)
      | (with_reducible exact LeO.none _)
      | (with_reducible refine LeO.ite ?_ ?_)
      | (with_reducible refine LeO.bind ?_ (fun _ => ?_))
      | exact ih0 _ _ _
      | exact ih1 _ _ _ _
      | exact levyref2_Last.mono _ _ _
      | exact LeO.none _
      | refine LeO.ite ?_ ?_
      | refine LeO.bind ?_ (fun _ => ?_)
    · intro y0 y1 y2 y3
      unfold levyref2_begins.l1
      repeat' first
      | (with_reducible exact ih0 _ _ _)
      | (with_reducible exact ih1 _ _ _ _)
      | (with_reducible exact levyref2_Last.mono _ _ _)
      | (with_reducible exact LeO.refl _)
      | (with_reducible exact LeO.none _)
      | (with_reducible refine LeO.ite ?_ ?_)
      | (with_reducible refine LeO.bind ?_ (fun _ => ?_))
      | exact ih0 _ _ _
      | exact ih1 _ _ _ _
      | exact levyref2_Last.mono _ _ _
      | exact LeO.none _
      | refine LeO.ite ?_ ?_
      | refine LeO.bind ?_ (fun _ => ?_)
theorem levyref2_begins.mono : ∀ a0 k, LeO (levyref2_begins.f k a0) (levyref2_begins.f (k + 1) a0) := by
  intro a0 k
  obtain ⟨ih0, ih1⟩ := levyref2_begins.mono_l k
  unfold levyref2_begins.f
  repeat' first
      | (with_reducible exact ih0 _ _ _)
      | (with_reducible exact ih1 _ _ _ _)
      | (with_reducible exact levyref2_Last.mono _ _ _)
      | (with_reducible exact LeO.refl _)
      | (with_reducible exact LeO.none _)
      | (with_reducible refine LeO.ite ?_ ?_)
      | (with_reducible refine LeO.bind ?_ (fun _ => ?_))
      | exact ih0 _ _ _
      | exact ih1 _ _ _ _
      | exact levyref2_Last.mono _ _ _
      | exact LeO.none _
      | refine LeO.ite ?_ ?_
      | refine LeO.bind ?_ (fun _ => ?_)
set_option maxHeartbeats 8000000 in
set_option maxRecDepth 100000 in
theorem levyref2_begins.calls (k : Nat) (a0 : Int) (r : Int) (w : World) (h : levyref2_begins.f k a0 = some r) :
    Calls Tryd.prog 104 #[.int .i64 a0] w fun e w' => e = .returned (.int .i64 r) ∧ Drawn0 w w' := by
  have H : (levyref2_begins.l0 k a0 0 0) = some r := h
  clear h
  have H' := Aside0.mk H
  clear H
  go_enter Tryd.func104, Tryd.ntmps104
  go_wp2
  go_loopg [3, 4] k (fun kq v3 v4 w' => ∃ (x3_1 : Int) (x4_1 : Int), v3 = .int .i64 x3_1 ∧ v4 = .int .i64 x4_1 ∧ Aside0 (levyref2_begins.l0 kq a0 x3_1 x4_1 = some r) ∧ Aside0 (kq ≤ k) ∧ Drawn0 w w')
  case atStart => exact ⟨(0), (0), (by first | rfl | (simp; done) | (simp [*]; done)), (by first | rfl | (simp; done) | (simp [*]; done)), H', ⟨Nat.le_refl _⟩, by repeat (first | exact Drawn0.refl _ | apply Drawn0.step)⟩
  case round =>
    clear H'
    try clear c1
    obtain ⟨x3_1, x4_1, rfl, rfl, HA, HK1, ⟨m1, rfl⟩⟩ := hrel
    cases gk with
    | zero => exact absurd HA.out (by simp [levyref2_begins.l0])
    | succ k1 =>
      have H := HA.out
      clear HA
      simp only [levyref2_begins.l0] at H
      by_cases c2 : x4_1 < (wrap64 (Int.tdiv a0 12))
      · rw [if_pos c2] at H
        have c2b0 : decide (x4_1 < (wrap64 (Int.tdiv a0 12))) = true := decide_eq_true c2
        clear c2
        replace H := Option.bind_eq_some_iff.mp H
        obtain ⟨t108, A30, H⟩ := H
        replace H : (if t108 = true then (levyref2_begins.l0 k1 a0 (wrap64 ((wrap64 (x3_1 + 365)) + 1)) (wrap64 (x4_1 + 1))) else (levyref2_begins.l0 k1 a0 (wrap64 (x3_1 + 365)) (wrap64 (x4_1 + 1)))) = some r := H
        have A3 := Aside0.mk A30
        clear A30
        by_cases c4 : t108 = true
        · subst c4
          have H1 : (levyref2_begins.l0 k1 a0 (wrap64 ((wrap64 (x3_1 + 365)) + 1)) (wrap64 (x4_1 + 1))) = some r := by rw [if_pos rfl] at H; exact H
          clear H
          have H := H1
          clear H1
          have H' := Aside0.mk H
          clear H
          go_wp2_with (first | ((with_reducible refine gate_callee (f := 114) rfl ?_); refine goesL_ (some 14) rfl rfl Tryd.func114 (by kernel_rfl) rfl #[.int .i64 (wrap64 (1900 + x4_1))] rfl (by (try simp only [List.map_toArray, List.map_cons, List.map_nil]); first | done | rfl | (simp only [List.length_drop, List.length_take]; rfl)) ?_; (with_reducible refine (levyref2_Leap.calls (wrap64 (1900 + x4_1)) true _ A3.out).mono ?_); rintro e w' ⟨rfl, ⟨nd, rfl⟩⟩; refine ⟨_, rfl, ?_⟩))
          go_roundg k1
          case measure => have := HK1.out; omega
          case rel => exact ⟨(wrap64 ((wrap64 (x3_1 + 365)) + 1)), (wrap64 (x4_1 + 1)), (by first | rfl | (simp; done) | (simp [*]; done)), (by first | rfl | (simp; done) | (simp [*]; done)), H', ⟨by have := HK1.out; omega⟩, by repeat (first | exact Drawn0.refl _ | apply Drawn0.step)⟩
        · replace c4 := Bool.eq_false_iff.mpr c4
          subst c4
          have H1 : (levyref2_begins.l0 k1 a0 (wrap64 (x3_1 + 365)) (wrap64 (x4_1 + 1))) = some r := by rw [if_neg (show ¬ (false = true) by decide)] at H; exact H
          clear H
          have H := H1
          clear H1
          have H' := Aside0.mk H
          clear H
          go_wp2_with (first | ((with_reducible refine gate_callee (f := 114) rfl ?_); refine goesL_ (some 14) rfl rfl Tryd.func114 (by kernel_rfl) rfl #[.int .i64 (wrap64 (1900 + x4_1))] rfl (by (try simp only [List.map_toArray, List.map_cons, List.map_nil]); first | done | rfl | (simp only [List.length_drop, List.length_take]; rfl)) ?_; (with_reducible refine (levyref2_Leap.calls (wrap64 (1900 + x4_1)) false _ A3.out).mono ?_); rintro e w' ⟨rfl, ⟨nd, rfl⟩⟩; refine ⟨_, rfl, ?_⟩))
          go_roundg k1
          case measure => have := HK1.out; omega
          case rel => exact ⟨(wrap64 (x3_1 + 365)), (wrap64 (x4_1 + 1)), (by first | rfl | (simp; done) | (simp [*]; done)), (by first | rfl | (simp; done) | (simp [*]; done)), H', ⟨by have := HK1.out; omega⟩, by repeat (first | exact Drawn0.refl _ | apply Drawn0.step)⟩
      · rw [if_neg c2] at H
        have c2b0 : decide (x4_1 < (wrap64 (Int.tdiv a0 12))) = false := decide_eq_false c2
        clear c2
        have H' := Aside0.mk H
        clear H
        go_wp2
        go_loopg [3, 6] k1 (fun kq v3 v6 w' => ∃ (x3_2 : Int) (x6_2 : Int), v3 = .int .i64 x3_2 ∧ v6 = .int .i64 x6_2 ∧ Aside0 (levyref2_begins.l1 kq a0 x3_2 x4_1 x6_2 = some r) ∧ Aside0 (kq ≤ k1) ∧ Drawn0 w w')
        case atStart => exact ⟨(x3_1), (wrap64 (12 * x4_1)), (by first | rfl | (simp; done) | (simp [*]; done)), (by first | rfl | (simp; done) | (simp [*]; done)), H', ⟨Nat.le_refl _⟩, by repeat (first | exact Drawn0.refl _ | apply Drawn0.step)⟩
        case round =>
          clear H'
          try clear c1
          try clear c2
          try clear c2b0
          try clear p2
          try clear c4
          obtain ⟨x3_2, x6_2, rfl, rfl, HA, HK2, ⟨m2, rfl⟩⟩ := hrel
          cases gk with
          | zero => exact absurd HA.out (by simp [levyref2_begins.l1])
          | succ k2 =>
            have H := HA.out
            clear HA
            simp only [levyref2_begins.l1] at H
            by_cases c5 : x6_2 < a0
            · rw [if_pos c5] at H
              have c5b0 : decide (x6_2 < a0) = true := decide_eq_true c5
              clear c5
              replace H := Option.bind_eq_some_iff.mp H
              obtain ⟨t109, A60, H⟩ := H
              replace H : (levyref2_begins.l1 k2 a0 (wrap64 (x3_2 + t109)) x4_1 (wrap64 (x6_2 + 1))) = some r := H
              have A6 := Aside0.mk A60
              clear A60
              have H' := Aside0.mk H
              clear H
              go_wp2_with (first | ((with_reducible refine gate_callee (f := 103) rfl ?_); refine goesL_ (some 34) rfl rfl Tryd.func103 (by kernel_rfl) rfl #[.int .i64 (wrap64 (1900 + x4_1)), .int .i64 (wrap64 ((Int.tmod x6_2 12) + 1))] rfl (by (try simp only [List.map_toArray, List.map_cons, List.map_nil]); first | done | rfl | (simp only [List.length_drop, List.length_take]; rfl)) ?_; (with_reducible refine (levyref2_Last.calls k2 (wrap64 (1900 + x4_1)) (wrap64 ((Int.tmod x6_2 12) + 1)) t109 _ A6.out).mono ?_); rintro e w' ⟨rfl, ⟨nd, rfl⟩⟩; refine ⟨_, rfl, ?_⟩))
              go_roundg k2
              case measure => have := HK1.out; have := HK2.out; omega
              case rel => exact ⟨(wrap64 (x3_2 + t109)), (wrap64 (x6_2 + 1)), (by first | rfl | (simp; done) | (simp [*]; done)), (by first | rfl | (simp; done) | (simp [*]; done)), H', ⟨by have := HK1.out; have := HK2.out; omega⟩, by repeat (first | exact Drawn0.refl _ | apply Drawn0.step)⟩
            · rw [if_neg c5] at H
              have c5b0 : decide (x6_2 < a0) = false := decide_eq_false c5
              clear c5
              obtain rfl := Option.some.inj H
              go_wp2
              go_ret
              exact ⟨by first | rfl | (simp; done) | (simp [*]; done), by repeat (first | exact Drawn0.refl _ | apply Drawn0.step)⟩

/-! ### levyref2_Number: function 88 -/
def levyref2_Number.j0 : Nat → Int → Int → Int → Bool → Option (Int × Int)
  | 0, _, _, _, _ => none
  | k + 1, x0, x1, x2, x19 => if x19 = true then (some (0, 20)) else (if x0 < 1900 then (some (0, 21)) else (if x0 > 2199 then (some (0, 21)) else ((levyref2_begins.f k (wrap64 ((wrap64 ((wrap64 (12 * (wrap64 (x0 - 1900)))) + x1)) - 1))).bind fun t111 => (some (wrap64 ((wrap64 (t111 + x2)) - 1), 0)))))
def levyref2_Number.f (k : Nat) (a0 : Int) (a1 : Int) (a2 : Int) : Option (Int × Int) := (levyref2_Last.f k a0 a1).bind fun t110 => (if a2 < 1 then (levyref2_Number.j0 k a0 a1 a2 true) else (levyref2_Number.j0 k a0 a1 a2 (decide (a2 > t110))))
theorem levyref2_Number.mono_l : ∀ k, (∀ y0 y1 y2 y3, LeO (levyref2_Number.j0 k y0 y1 y2 y3) (levyref2_Number.j0 (k + 1) y0 y1 y2 y3))
  | 0 => fun _ _ _ _ r h => by simp [levyref2_Number.j0] at h
  | k + 1 => by
    have ih0 := levyref2_Number.mono_l k
    · intro y0 y1 y2 y3
      unfold levyref2_Number.j0
      repeat' first
      | (with_reducible exact ih0 _ _ _ _)
      | (with_reducible exact levyref2_Last.mono _ _ _)
      | (with_reducible exact levyref2_begins.mono _ _)
      | (with_reducible exact LeO.refl _)
      | (with_reducible exact LeO.none _)
      | (with_reducible refine LeO.ite ?_ ?_)
      | (with_reducible refine LeO.bind ?_ (fun _ => ?_))
      | exact ih0 _ _ _ _
      | exact levyref2_Last.mono _ _ _
      | exact levyref2_begins.mono _ _
      | exact LeO.none _
      | refine LeO.ite ?_ ?_
      | refine LeO.bind ?_ (fun _ => ?_)
theorem levyref2_Number.mono : ∀ a0 a1 a2 k, LeO (levyref2_Number.f k a0 a1 a2) (levyref2_Number.f (k + 1) a0 a1 a2) := by
  intro a0 a1 a2 k
  have ih0 := levyref2_Number.mono_l k
  unfold levyref2_Number.f
  repeat' first
      | (with_reducible exact ih0 _ _ _ _)
      | (with_reducible exact levyref2_Last.mono _ _ _)
      | (with_reducible exact levyref2_begins.mono _ _)
      | (with_reducible exact LeO.refl _)
      | (with_reducible exact LeO.none _)
      | (with_reducible refine LeO.ite ?_ ?_)
      | (with_reducible refine LeO.bind ?_ (fun _ => ?_))
      | exact ih0 _ _ _ _
      | exact levyref2_Last.mono _ _ _
      | exact levyref2_begins.mono _ _
      | exact LeO.none _
      | refine LeO.ite ?_ ?_
      | refine LeO.bind ?_ (fun _ => ?_)
set_option maxHeartbeats 8000000 in
set_option maxRecDepth 100000 in
theorem levyref2_Number.calls (k : Nat) (a0 : Int) (a1 : Int) (a2 : Int) (r1 : Int) (r2 : Int) (w : World) (h : levyref2_Number.f k a0 a1 a2 = some (r1, r2)) :
    Calls Tryd.prog 88 #[.int .i64 a0, .int .i64 a1, .int .i64 a2] w fun e w' => e = .returned (.tuple #[.int .i64 r1, .int .i64 r2]) ∧ Drawn0 w w' := by
  have H : ((levyref2_Last.f k a0 a1).bind fun t110 => (if a2 < 1 then (levyref2_Number.j0 k a0 a1 a2 true) else (levyref2_Number.j0 k a0 a1 a2 (decide (a2 > t110))))) = some (r1, r2) := h
  clear h
  replace H := Option.bind_eq_some_iff.mp H
  obtain ⟨t110, A40, H⟩ := H
  replace H : (if a2 < 1 then (levyref2_Number.j0 k a0 a1 a2 true) else (levyref2_Number.j0 k a0 a1 a2 (decide (a2 > t110)))) = some (r1, r2) := H
  have A4 := Aside0.mk A40
  clear A40
  have HC5 := Aside0.mk H
  clear H
  go_enter Tryd.func88, Tryd.ntmps88
  go_upto_region 2 with (first | ((with_reducible refine gate_callee (f := 103) rfl ?_); refine goesL_ (some 12) rfl rfl Tryd.func103 (by kernel_rfl) rfl #[.int .i64 a0, .int .i64 a1] rfl (by (try simp only [List.map_toArray, List.map_cons, List.map_nil]); first | done | rfl | (simp only [List.length_drop, List.length_take]; rfl)) ?_; (with_reducible refine (levyref2_Last.calls k a0 a1 t110 _ A4.out).mono ?_); rintro e w' ⟨rfl, ⟨nd, rfl⟩⟩; refine ⟨_, rfl, ?_⟩))
  (try simp only [Act.put, List.setIfInBounds_toArray, List.set_cons_zero, List.set_cons_succ])
  go_cut [19] (fun v19 wc => ∃ (kq : Nat) (x19_4 : Bool), v19 = .bool x19_4 ∧ Aside0 (levyref2_Number.j0 kq a0 a1 a2 x19_4 = some (r1, r2)) ∧ Aside0 (kq ≤ k) ∧ Drawn0 w wc)
  case first =>
    have H := HC5.out
    clear HC5
    by_cases c6 : a2 < 1
    · rw [if_pos c6] at H
      have c6b0 : decide (a2 < 1) = true := decide_eq_true c6
      clear c6
      (first | rw [c6b0] | (simp only [i64_w, i32_w]; rw [c6b0]) | skip)
      have H' := Aside0.mk H
      clear H
      go_wp2
      go_meet
      case rel => exact ⟨_, (true), (by first | rfl | (simp; done) | (simp [*]; done)), H', ⟨by first | omega | exact Nat.le_refl _⟩, by repeat (first | exact Drawn0.refl _ | apply Drawn0.step)⟩
    · rw [if_neg c6] at H
      have c6b0 : decide (a2 < 1) = false := decide_eq_false c6
      clear c6
      (first | rw [c6b0] | (simp only [i64_w, i32_w]; rw [c6b0]) | skip)
      have H' := Aside0.mk H
      clear H
      go_wp2
      go_meet
      case rel => exact ⟨_, (decide (a2 > t110)), (by first | rfl | (simp; done) | (simp [*]; done)), H', ⟨by first | omega | exact Nat.le_refl _⟩, by repeat (first | exact Drawn0.refl _ | apply Drawn0.step)⟩
  case rest =>
    clear HC5
    try clear c1
    try clear p2
    try clear c6
    try clear c6b0
    obtain ⟨kq, x19_4, rfl, HA, HJ4, ⟨mc4, rfl⟩⟩ := hcut
    cases kq with
    | zero => exact absurd HA.out (by simp [levyref2_Number.j0])
    | succ kj4 =>
      have H := HA.out
      clear HA
      simp only [levyref2_Number.j0] at H
      by_cases c7 : x19_4 = true
      · subst c7
        have H1 : (some (0, 20)) = some (r1, r2) := by rw [if_pos rfl] at H; exact H
        clear H
        have H := H1
        clear H1
        simp only [Option.some.injEq, Prod.mk.injEq] at H
        obtain ⟨rfl, rfl⟩ := H
        go_wp2
        go_ret2
        exact ⟨by first | rfl | (simp; done) | (simp [*]; done), by repeat (first | exact Drawn0.refl _ | apply Drawn0.step)⟩
      · replace c7 := Bool.eq_false_iff.mpr c7
        subst c7
        have H1 : (if a0 < 1900 then (some (0, 21)) else (if a0 > 2199 then (some (0, 21)) else ((levyref2_begins.f kj4 (wrap64 ((wrap64 ((wrap64 (12 * (wrap64 (a0 - 1900)))) + a1)) - 1))).bind fun t111 => (some (wrap64 ((wrap64 (t111 + a2)) - 1), 0))))) = some (r1, r2) := by rw [if_neg (show ¬ (false = true) by decide)] at H; exact H
        clear H
        have H := H1
        clear H1
        by_cases c8 : a0 < 1900
        · rw [if_pos c8] at H
          have c8b0 : decide (a0 < 1900) = true := decide_eq_true c8
          clear c8
          simp only [Option.some.injEq, Prod.mk.injEq] at H
          obtain ⟨rfl, rfl⟩ := H
          go_wp2
          go_ret2
          exact ⟨by first | rfl | (simp; done) | (simp [*]; done), by repeat (first | exact Drawn0.refl _ | apply Drawn0.step)⟩
        · rw [if_neg c8] at H
          have c8b0 : decide (a0 < 1900) = false := decide_eq_false c8
          clear c8
          by_cases c9 : a0 > 2199
          · rw [if_pos c9] at H
            have c9b0 : decide (2199 < a0) = true := decide_eq_true c9
            clear c9
            simp only [Option.some.injEq, Prod.mk.injEq] at H
            obtain ⟨rfl, rfl⟩ := H
            go_wp2
            go_ret2
            exact ⟨by first | rfl | (simp; done) | (simp [*]; done), by repeat (first | exact Drawn0.refl _ | apply Drawn0.step)⟩
          · rw [if_neg c9] at H
            have c9b0 : decide (2199 < a0) = false := decide_eq_false c9
            clear c9
            replace H := Option.bind_eq_some_iff.mp H
            obtain ⟨t111, A100, H⟩ := H
            replace H : (some (wrap64 ((wrap64 (t111 + a2)) - 1), 0)) = some (r1, r2) := H
            have A10 := Aside0.mk A100
            clear A100
            simp only [Option.some.injEq, Prod.mk.injEq] at H
            obtain ⟨rfl, rfl⟩ := H
            go_wp2_with (first | ((with_reducible refine gate_callee (f := 104) rfl ?_); refine goesL_ (some 32) rfl rfl Tryd.func104 (by kernel_rfl) rfl #[.int .i64 (wrap64 ((wrap64 ((wrap64 (12 * (wrap64 (a0 - 1900)))) + a1)) - 1))] rfl (by (try simp only [List.map_toArray, List.map_cons, List.map_nil]); first | done | rfl | (simp only [List.length_drop, List.length_take]; rfl)) ?_; (with_reducible refine (levyref2_begins.calls kj4 (wrap64 ((wrap64 ((wrap64 (12 * (wrap64 (a0 - 1900)))) + a1)) - 1)) t111 _ A10.out).mono ?_); rintro e w' ⟨rfl, ⟨nd, rfl⟩⟩; refine ⟨_, rfl, ?_⟩))
            go_ret2
            exact ⟨by first | rfl | (simp; done) | (simp [*]; done), by repeat (first | exact Drawn0.refl _ | apply Drawn0.step)⟩

end Go.Proofs.YtidbcenbcllfnaaDoor.PA
