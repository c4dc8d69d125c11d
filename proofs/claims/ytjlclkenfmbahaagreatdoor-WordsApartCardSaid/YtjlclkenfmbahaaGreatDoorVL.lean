/- Several texts of this claim in one, each in a section of its own; what nothing reaches is left out. Conditions: each law's own. -/
import Derived.Test.YtjlclkenfmbahaaGreatDoorVPAx0
set_option linter.unusedVariables false
set_option linter.unusedSimpArgs false
set_option linter.unusedSectionVars false
section
namespace Go.Proofs.YtjlclkenfmbahaaGreatDoor.PA
open Go.RowKit Go.Proofs.YtjlclkenfmbahaaGreatDoorW.PrintWords Go.Proofs.YtjlclkenfmbahaaGreatDoorW.PrintLast Go.Proofs.YtjlclkenfmbahaaGreatDoorW.PrintMore
attribute [local go_sem] max2_int min2_int max_two min_two max_three min_three max_four min_four
def levyref2_Leap.f (a0 : Int) : Option (Bool) := if (Int.tmod a0 4) = 0 then (if (Int.tmod a0 100) = 0 then (some ((Int.tmod a0 400) == 0)) else (some true)) else (some false)
set_option maxHeartbeats 8000000 in
set_option maxRecDepth 100000 in
theorem levyref2_Leap.calls (a0 : Int) (r : Bool) (w : World) (h : levyref2_Leap.f a0 = some r) :
  Calls Tryz.prog 224 #[.int .i64 a0] w fun e w' => e = .returned (.bool r) ∧ Drawn0 w w' := by
 have H : (if (Int.tmod a0 4) = 0 then (if (Int.tmod a0 100) = 0 then (some ((Int.tmod a0 400) == 0)) else (some true)) else (some false)) = some r := h
 clear h
 by_cases c2 : (Int.tmod a0 4) = 0
 ·rw [if_pos c2] at H
  have c2b0 : ((Int.tmod a0 4) == 0) = true := beq_iff_eq.mpr c2
  have c2b1 : ((Int.tmod a0 4) != 0) = false := bne_eq_false_iff_eq.mpr c2
  clear c2
  by_cases c3 : (Int.tmod a0 100) = 0
  ·rw [if_pos c3] at H
   have c3b0 : ((Int.tmod a0 100) == 0) = true := beq_iff_eq.mpr c3
   have c3b1 : ((Int.tmod a0 100) != 0) = false := bne_eq_false_iff_eq.mpr c3
   clear c3
   obtain rfl := Option.some.inj H
   go_enter Tryz.func224, Tryz.ntmps224
   go_wp2
   go_ret
   exact ⟨by first | rfl | (simp [*]; done), by repeat (first | exact Drawn0.refl _ | apply Drawn0.step)⟩
  ·rw [if_neg c3] at H
   have c3b0 : ((Int.tmod a0 100) == 0) = false := beq_eq_false_iff_ne.mpr c3
   have c3b1 : ((Int.tmod a0 100) != 0) = true := bne_iff_ne.mpr c3
   obtain rfl := Option.some.inj H
   go_enter Tryz.func224, Tryz.ntmps224
   go_wp2
   go_ret
   exact ⟨by first | rfl | (simp [*]; done), by repeat (first | exact Drawn0.refl _ | apply Drawn0.step)⟩
 ·rw [if_neg c2] at H
  have c2b0 : ((Int.tmod a0 4) == 0) = false := beq_eq_false_iff_ne.mpr c2
  have c2b1 : ((Int.tmod a0 4) != 0) = true := bne_iff_ne.mpr c2
  obtain rfl := Option.some.inj H
  go_enter Tryz.func224, Tryz.ntmps224
  go_wp2
  go_ret
  exact ⟨by first | rfl | (simp [*]; done), by repeat (first | exact Drawn0.refl _ | apply Drawn0.step)⟩
def levyref2_Last.j0 : Nat → Int → Int → Bool → Option (Int)
 | 0, _, _, _ => none
 | k + 1, x0, x6, x7 => if x7 = true then (some 30) else (if x6 = 2 then ((levyref2_Leap.f x0).bind fun t107 => (if t107 = true then (some 29) else (some 28))) else (if x6 = 1 then (some 31) else (if x6 = 3 then (some 31) else (if x6 = 5 then (some 31) else (if x6 = 7 then (some 31) else (if x6 = 8 then (some 31) else (if x6 = 10 then (some 31) else (if x6 = 12 then (some 31) else (some 0)))))))))
def levyref2_Last.f (k : Nat) (a0 : Int) (a1 : Int) : Option (Int) := if a1 = 4 then (levyref2_Last.j0 k a0 a1 (a1 == 4)) else (if a1 = 6 then (levyref2_Last.j0 k a0 a1 (a1 == 6)) else (if a1 = 9 then (levyref2_Last.j0 k a0 a1 (a1 == 9)) else (levyref2_Last.j0 k a0 a1 (a1 == 11))))
set_option maxHeartbeats 8000000 in
set_option maxRecDepth 100000 in
theorem levyref2_Last.calls (k : Nat) (a0 : Int) (a1 : Int) (r : Int) (w : World) (h : levyref2_Last.f k a0 a1 = some r) :
  Calls Tryz.prog 225 #[.int .i64 a0, .int .i64 a1] w fun e w' => e = .returned (.int .i64 r) ∧ Drawn0 w w' := by
 have H : (if a1 = 4 then (levyref2_Last.j0 k a0 a1 (a1 == 4)) else (if a1 = 6 then (levyref2_Last.j0 k a0 a1 (a1 == 6)) else (if a1 = 9 then (levyref2_Last.j0 k a0 a1 (a1 == 9)) else (levyref2_Last.j0 k a0 a1 (a1 == 11))))) = some r := h
 clear h
 have HC3 := Aside0.mk H
 clear H
 go_enter Tryz.func225, Tryz.ntmps225
 go_upto_if 7 with (fail)
 go_cut [7] (fun v7 wc => ∃ (kq : Nat) (x7_2 : Bool), v7 = .bool x7_2 ∧ Aside0 (levyref2_Last.j0 kq a0 a1 x7_2 = some r) ∧ Aside0 (kq ≤ k) ∧ Drawn0 w wc)
 case first =>
  have H := HC3.out
  clear HC3
  by_cases c4 : a1 = 4
  ·rw [if_pos c4] at H
   have c4b0 : (a1 == 4) = true := beq_iff_eq.mpr c4
   have c4b1 : (a1 != 4) = false := bne_eq_false_iff_eq.mpr c4
   clear c4
   (first | rw [c4b0] | (simp only [i64_w, i32_w]; rw [c4b0]) | skip)
   have H' := Aside0.mk H
   clear H
   go_wp2
   go_meet
   case rel => exact ⟨_, ((a1 == 4)), (by first | rfl | (simp [*]; done)), H', ⟨by first | omega | exact Nat.le_refl _⟩, by repeat (first | exact Drawn0.refl _ | apply Drawn0.step)⟩
  ·rw [if_neg c4] at H
   have c4b0 : (a1 == 4) = false := beq_eq_false_iff_ne.mpr c4
   have c4b1 : (a1 != 4) = true := bne_iff_ne.mpr c4
   (first | rw [c4b0] | (simp only [i64_w, i32_w]; rw [c4b0]) | skip)
   by_cases c5 : a1 = 6
   ·rw [if_pos c5] at H
    have c5b0 : (a1 == 6) = true := beq_iff_eq.mpr c5
    have c5b1 : (a1 != 6) = false := bne_eq_false_iff_eq.mpr c5
    clear c5
    have H' := Aside0.mk H
    clear H
    go_wp2
    go_meet
    case rel => exact ⟨_, ((a1 == 6)), (by first | rfl | (simp [*]; done)), H', ⟨by first | omega | exact Nat.le_refl _⟩, by repeat (first | exact Drawn0.refl _ | apply Drawn0.step)⟩
   ·rw [if_neg c5] at H
    have c5b0 : (a1 == 6) = false := beq_eq_false_iff_ne.mpr c5
    have c5b1 : (a1 != 6) = true := bne_iff_ne.mpr c5
    by_cases c6 : a1 = 9
    ·rw [if_pos c6] at H
     have c6b0 : (a1 == 9) = true := beq_iff_eq.mpr c6
     have c6b1 : (a1 != 9) = false := bne_eq_false_iff_eq.mpr c6
     clear c6
     have H' := Aside0.mk H
     clear H
     go_wp2
     go_meet
     case rel => exact ⟨_, ((a1 == 9)), (by first | rfl | (simp [*]; done)), H', ⟨by first | omega | exact Nat.le_refl _⟩, by repeat (first | exact Drawn0.refl _ | apply Drawn0.step)⟩
    ·rw [if_neg c6] at H
     have c6b0 : (a1 == 9) = false := beq_eq_false_iff_ne.mpr c6
     have c6b1 : (a1 != 9) = true := bne_iff_ne.mpr c6
     have H' := Aside0.mk H
     clear H
     go_wp2
     go_meet
     case rel => exact ⟨_, ((a1 == 11)), (by first | rfl | (simp [*]; done)), H', ⟨by first | omega | exact Nat.le_refl _⟩, by repeat (first | exact Drawn0.refl _ | apply Drawn0.step)⟩
 case rest =>
  clear HC3
  try clear c2
  try clear p2
  try clear c4
  try clear c4b0
  try clear c4b1
  try clear c5
  try clear c5b0
  try clear c5b1
  try clear c6
  try clear c6b0
  try clear c6b1
  obtain ⟨kq, x7_2, rfl, HA, HJ2, ⟨mc2, rfl⟩⟩ := hcut
  cases kq with
  | zero => exact absurd HA.out (by simp [levyref2_Last.j0])
  | succ kj2 =>
   have H := HA.out
   clear HA
   simp only [levyref2_Last.j0] at H
   by_cases c7 : x7_2 = true
   ·subst c7
    have H1 : (some 30) = some r := by rw [if_pos rfl] at H; exact H
    clear H
    have H := H1
    clear H1
    obtain rfl := Option.some.inj H
    go_wp2
    go_ret
    exact ⟨by first | rfl | (simp [*]; done), by repeat (first | exact Drawn0.refl _ | apply Drawn0.step)⟩
   ·replace c7 := Bool.eq_false_iff.mpr c7
    subst c7
    have H1 : (if a1 = 2 then ((levyref2_Leap.f a0).bind fun t107 => (if t107 = true then (some 29) else (some 28))) else (if a1 = 1 then (some 31) else (if a1 = 3 then (some 31) else (if a1 = 5 then (some 31) else (if a1 = 7 then (some 31) else (if a1 = 8 then (some 31) else (if a1 = 10 then (some 31) else (if a1 = 12 then (some 31) else (some 0))))))))) = some r := by rw [if_neg (show ¬ (false = true) by decide)] at H; exact H
    clear H
    have H := H1
    clear H1
    by_cases c8 : a1 = 2
    ·rw [if_pos c8] at H
     have c8b0 : (a1 == 2) = true := beq_iff_eq.mpr c8
     have c8b1 : (a1 != 2) = false := bne_eq_false_iff_eq.mpr c8
     clear c8
     replace H := Option.bind_eq_some_iff.mp H
     obtain ⟨t107, A90, H⟩ := H
     replace H : (if t107 = true then (some 29) else (some 28)) = some r := H
     have A9 := Aside0.mk A90
     clear A90
     by_cases c10 : t107 = true
     ·subst c10
      have H1 : (some 29) = some r := by rw [if_pos rfl] at H; exact H
      clear H
      have H := H1
      clear H1
      obtain rfl := Option.some.inj H
      go_wp2_with (first | ((with_reducible refine gate_callee (f := 224) rfl ?_); refine goesL_ (some 15) rfl rfl Tryz.func224 (by kernel_rfl) rfl #[.int .i64 a0] rfl (by (try simp only [List.map_toArray, List.map_cons, List.map_nil]); first | done | rfl | (simp only [List.length_drop, List.length_take]; rfl)) ?_; (with_reducible refine (levyref2_Leap.calls a0 true _ A9.out).mono ?_); rintro e w' ⟨rfl, ⟨nd, rfl⟩⟩; refine ⟨_, rfl, ?_⟩))
      go_ret
      exact ⟨by first | rfl | (simp [*]; done), by repeat (first | exact Drawn0.refl _ | apply Drawn0.step)⟩
     ·replace c10 := Bool.eq_false_iff.mpr c10
      subst c10
      have H1 : (some 28) = some r := by rw [if_neg (show ¬ (false = true) by decide)] at H; exact H
      clear H
      have H := H1
      clear H1
      obtain rfl := Option.some.inj H
      go_wp2_with (first | ((with_reducible refine gate_callee (f := 224) rfl ?_); refine goesL_ (some 15) rfl rfl Tryz.func224 (by kernel_rfl) rfl #[.int .i64 a0] rfl (by (try simp only [List.map_toArray, List.map_cons, List.map_nil]); first | done | rfl | (simp only [List.length_drop, List.length_take]; rfl)) ?_; (with_reducible refine (levyref2_Leap.calls a0 false _ A9.out).mono ?_); rintro e w' ⟨rfl, ⟨nd, rfl⟩⟩; refine ⟨_, rfl, ?_⟩))
      go_ret
      exact ⟨by first | rfl | (simp [*]; done), by repeat (first | exact Drawn0.refl _ | apply Drawn0.step)⟩
    ·rw [if_neg c8] at H
     have c8b0 : (a1 == 2) = false := beq_eq_false_iff_ne.mpr c8
     have c8b1 : (a1 != 2) = true := bne_iff_ne.mpr c8
     by_cases c11 : a1 = 1
     ·rw [if_pos c11] at H
      have c11b0 : (a1 == 1) = true := beq_iff_eq.mpr c11
      have c11b1 : (a1 != 1) = false := bne_eq_false_iff_eq.mpr c11
      clear c11
      obtain rfl := Option.some.inj H
      go_wp2
      go_ret
      exact ⟨by first | rfl | (simp [*]; done), by repeat (first | exact Drawn0.refl _ | apply Drawn0.step)⟩
     ·rw [if_neg c11] at H
      have c11b0 : (a1 == 1) = false := beq_eq_false_iff_ne.mpr c11
      have c11b1 : (a1 != 1) = true := bne_iff_ne.mpr c11
      by_cases c12 : a1 = 3
      ·rw [if_pos c12] at H
       have c12b0 : (a1 == 3) = true := beq_iff_eq.mpr c12
       have c12b1 : (a1 != 3) = false := bne_eq_false_iff_eq.mpr c12
       clear c12
       obtain rfl := Option.some.inj H
       go_wp2
       go_ret
       exact ⟨by first | rfl | (simp [*]; done), by repeat (first | exact Drawn0.refl _ | apply Drawn0.step)⟩
      ·rw [if_neg c12] at H
       have c12b0 : (a1 == 3) = false := beq_eq_false_iff_ne.mpr c12
       have c12b1 : (a1 != 3) = true := bne_iff_ne.mpr c12
       by_cases c13 : a1 = 5
       ·rw [if_pos c13] at H
        have c13b0 : (a1 == 5) = true := beq_iff_eq.mpr c13
        have c13b1 : (a1 != 5) = false := bne_eq_false_iff_eq.mpr c13
        clear c13
        obtain rfl := Option.some.inj H
        go_wp2
        go_ret
        exact ⟨by first | rfl | (simp [*]; done), by repeat (first | exact Drawn0.refl _ | apply Drawn0.step)⟩
       ·rw [if_neg c13] at H
        have c13b0 : (a1 == 5) = false := beq_eq_false_iff_ne.mpr c13
        have c13b1 : (a1 != 5) = true := bne_iff_ne.mpr c13
        by_cases c14 : a1 = 7
        ·rw [if_pos c14] at H
         have c14b0 : (a1 == 7) = true := beq_iff_eq.mpr c14
         have c14b1 : (a1 != 7) = false := bne_eq_false_iff_eq.mpr c14
         clear c14
         obtain rfl := Option.some.inj H
         go_wp2
         go_ret
         exact ⟨by first | rfl | (simp [*]; done), by repeat (first | exact Drawn0.refl _ | apply Drawn0.step)⟩
        ·rw [if_neg c14] at H
         have c14b0 : (a1 == 7) = false := beq_eq_false_iff_ne.mpr c14
         have c14b1 : (a1 != 7) = true := bne_iff_ne.mpr c14
         by_cases c15 : a1 = 8
         ·rw [if_pos c15] at H
          have c15b0 : (a1 == 8) = true := beq_iff_eq.mpr c15
          have c15b1 : (a1 != 8) = false := bne_eq_false_iff_eq.mpr c15
          clear c15
          obtain rfl := Option.some.inj H
          go_wp2
          go_ret
          exact ⟨by first | rfl | (simp [*]; done), by repeat (first | exact Drawn0.refl _ | apply Drawn0.step)⟩
         ·rw [if_neg c15] at H
          have c15b0 : (a1 == 8) = false := beq_eq_false_iff_ne.mpr c15
          have c15b1 : (a1 != 8) = true := bne_iff_ne.mpr c15
          by_cases c16 : a1 = 10
          ·rw [if_pos c16] at H
           have c16b0 : (a1 == 10) = true := beq_iff_eq.mpr c16
           have c16b1 : (a1 != 10) = false := bne_eq_false_iff_eq.mpr c16
           clear c16
           obtain rfl := Option.some.inj H
           go_wp2
           go_ret
           exact ⟨by first | rfl | (simp [*]; done), by repeat (first | exact Drawn0.refl _ | apply Drawn0.step)⟩
          ·rw [if_neg c16] at H
           have c16b0 : (a1 == 10) = false := beq_eq_false_iff_ne.mpr c16
           have c16b1 : (a1 != 10) = true := bne_iff_ne.mpr c16
           by_cases c17 : a1 = 12
           ·rw [if_pos c17] at H
            have c17b0 : (a1 == 12) = true := beq_iff_eq.mpr c17
            have c17b1 : (a1 != 12) = false := bne_eq_false_iff_eq.mpr c17
            clear c17
            obtain rfl := Option.some.inj H
            go_wp2
            go_ret
            exact ⟨by first | rfl | (simp [*]; done), by repeat (first | exact Drawn0.refl _ | apply Drawn0.step)⟩
           ·rw [if_neg c17] at H
            have c17b0 : (a1 == 12) = false := beq_eq_false_iff_ne.mpr c17
            have c17b1 : (a1 != 12) = true := bne_iff_ne.mpr c17
            obtain rfl := Option.some.inj H
            go_wp2
            go_ret
            exact ⟨by first | rfl | (simp [*]; done), by repeat (first | exact Drawn0.refl _ | apply Drawn0.step)⟩
mutual
def levyref2_begins.l0 : Nat → Int → Int → Int → Option (Int)
 | 0, _, _, _ => none
 | k + 1, x0, x3, x4 => if x4 < (wrap64 (Int.tdiv x0 12)) then ((levyref2_Leap.f (wrap64 (1900 + x4))).bind fun t108 => (if t108 = true then (levyref2_begins.l0 k x0 (wrap64 ((wrap64 (x3 + 365)) + 1)) (wrap64 (x4 + 1))) else (levyref2_begins.l0 k x0 (wrap64 (x3 + 365)) (wrap64 (x4 + 1))))) else (levyref2_begins.l1 k x0 x3 x4 (wrap64 (12 * x4)))
def levyref2_begins.l1 : Nat → Int → Int → Int → Int → Option (Int)
 | 0, _, _, _, _ => none
 | k + 1, x0, x3, x4, x6 => if x6 < x0 then ((levyref2_Last.f k (wrap64 (1900 + x4)) (wrap64 ((Int.tmod x6 12) + 1))).bind fun t109 => (levyref2_begins.l1 k x0 (wrap64 (x3 + t109)) x4 (wrap64 (x6 + 1)))) else (some x3)
end
def levyref2_begins.f (k : Nat) (a0 : Int) : Option (Int) := levyref2_begins.l0 k a0 0 0
set_option maxHeartbeats 8000000 in
set_option maxRecDepth 100000 in
theorem levyref2_begins.calls (k : Nat) (a0 : Int) (r : Int) (w : World) (h : levyref2_begins.f k a0 = some r) :
  Calls Tryz.prog 208 #[.int .i64 a0] w fun e w' => e = .returned (.int .i64 r) ∧ Drawn0 w w' := by
 have H : (levyref2_begins.l0 k a0 0 0) = some r := h
 clear h
 have H' := Aside0.mk H
 clear H
 go_enter Tryz.func208, Tryz.ntmps208
 go_wp2
 go_loopg [3, 4] k (fun kq v3 v4 w' => ∃ (x3_1 : Int) (x4_1 : Int), v3 = .int .i64 x3_1 ∧ v4 = .int .i64 x4_1 ∧ Aside0 (levyref2_begins.l0 kq a0 x3_1 x4_1 = some r) ∧ Aside0 (kq ≤ k) ∧ Drawn0 w w')
 case atStart => exact ⟨(0), (0), (by first | rfl | (simp [*]; done)), (by first | rfl | (simp [*]; done)), H', ⟨Nat.le_refl _⟩, by repeat (first | exact Drawn0.refl _ | apply Drawn0.step)⟩
 case round =>
  clear H'
  obtain ⟨x3_1, x4_1, rfl, rfl, HA, HK1, ⟨m1, rfl⟩⟩ := hrel
  cases gk with
  | zero => exact absurd HA.out (by simp [levyref2_begins.l0])
  | succ k1 =>
   have H := HA.out
   clear HA
   simp only [levyref2_begins.l0] at H
   by_cases c2 : x4_1 < (wrap64 (Int.tdiv a0 12))
   ·rw [if_pos c2] at H
    have c2b0 : decide (x4_1 < (wrap64 (Int.tdiv a0 12))) = true := decide_eq_true c2
    clear c2
    replace H := Option.bind_eq_some_iff.mp H
    obtain ⟨t108, A30, H⟩ := H
    replace H : (if t108 = true then (levyref2_begins.l0 k1 a0 (wrap64 ((wrap64 (x3_1 + 365)) + 1)) (wrap64 (x4_1 + 1))) else (levyref2_begins.l0 k1 a0 (wrap64 (x3_1 + 365)) (wrap64 (x4_1 + 1)))) = some r := H
    have A3 := Aside0.mk A30
    clear A30
    by_cases c4 : t108 = true
    ·subst c4
     have H1 : (levyref2_begins.l0 k1 a0 (wrap64 ((wrap64 (x3_1 + 365)) + 1)) (wrap64 (x4_1 + 1))) = some r := by rw [if_pos rfl] at H; exact H
     clear H
     have H := H1
     clear H1
     have H' := Aside0.mk H
     clear H
     go_wp2_with (first | ((with_reducible refine gate_callee (f := 224) rfl ?_); refine goesL_ (some 14) rfl rfl Tryz.func224 (by kernel_rfl) rfl #[.int .i64 (wrap64 (1900 + x4_1))] rfl (by (try simp only [List.map_toArray, List.map_cons, List.map_nil]); first | done | rfl | (simp only [List.length_drop, List.length_take]; rfl)) ?_; (with_reducible refine (levyref2_Leap.calls (wrap64 (1900 + x4_1)) true _ A3.out).mono ?_); rintro e w' ⟨rfl, ⟨nd, rfl⟩⟩; refine ⟨_, rfl, ?_⟩))
     go_roundg k1
     case measure => have := HK1.out; omega
     case rel => exact ⟨(wrap64 ((wrap64 (x3_1 + 365)) + 1)), (wrap64 (x4_1 + 1)), (by first | rfl | (simp [*]; done)), (by first | rfl | (simp [*]; done)), H', ⟨by have := HK1.out; omega⟩, by repeat (first | exact Drawn0.refl _ | apply Drawn0.step)⟩
    ·replace c4 := Bool.eq_false_iff.mpr c4
     subst c4
     have H1 : (levyref2_begins.l0 k1 a0 (wrap64 (x3_1 + 365)) (wrap64 (x4_1 + 1))) = some r := by rw [if_neg (show ¬ (false = true) by decide)] at H; exact H
     clear H
     have H := H1
     clear H1
     have H' := Aside0.mk H
     clear H
     go_wp2_with (first | ((with_reducible refine gate_callee (f := 224) rfl ?_); refine goesL_ (some 14) rfl rfl Tryz.func224 (by kernel_rfl) rfl #[.int .i64 (wrap64 (1900 + x4_1))] rfl (by (try simp only [List.map_toArray, List.map_cons, List.map_nil]); first | done | rfl | (simp only [List.length_drop, List.length_take]; rfl)) ?_; (with_reducible refine (levyref2_Leap.calls (wrap64 (1900 + x4_1)) false _ A3.out).mono ?_); rintro e w' ⟨rfl, ⟨nd, rfl⟩⟩; refine ⟨_, rfl, ?_⟩))
     go_roundg k1
     case measure => have := HK1.out; omega
     case rel => exact ⟨(wrap64 (x3_1 + 365)), (wrap64 (x4_1 + 1)), (by first | rfl | (simp [*]; done)), (by first | rfl | (simp [*]; done)), H', ⟨by have := HK1.out; omega⟩, by repeat (first | exact Drawn0.refl _ | apply Drawn0.step)⟩
   ·rw [if_neg c2] at H
    have c2b0 : decide (x4_1 < (wrap64 (Int.tdiv a0 12))) = false := decide_eq_false c2
    clear c2
    have H' := Aside0.mk H
    clear H
    go_wp2
    go_loopg [3, 6] k1 (fun kq v3 v6 w' => ∃ (x3_2 : Int) (x6_2 : Int), v3 = .int .i64 x3_2 ∧ v6 = .int .i64 x6_2 ∧ Aside0 (levyref2_begins.l1 kq a0 x3_2 x4_1 x6_2 = some r) ∧ Aside0 (kq ≤ k1) ∧ Drawn0 w w')
    case atStart => exact ⟨(x3_1), (wrap64 (12 * x4_1)), (by first | rfl | (simp [*]; done)), (by first | rfl | (simp [*]; done)), H', ⟨Nat.le_refl _⟩, by repeat (first | exact Drawn0.refl _ | apply Drawn0.step)⟩
    case round =>
     clear H'
     try clear c2
     try clear c2b0
     try clear p2
     try clear c4
     obtain ⟨x3_2, x6_2, rfl, rfl, HA, HK2, ⟨m2, rfl⟩⟩ := hrel
     cases gk with
     | zero => exact absurd HA.out (by simp [levyref2_begins.l1])
     | succ k2 =>
      have H := HA.out
      clear HA
      simp only [levyref2_begins.l1] at H
      by_cases c5 : x6_2 < a0
      ·rw [if_pos c5] at H
       have c5b0 : decide (x6_2 < a0) = true := decide_eq_true c5
       clear c5
       replace H := Option.bind_eq_some_iff.mp H
       obtain ⟨t109, A60, H⟩ := H
       replace H : (levyref2_begins.l1 k2 a0 (wrap64 (x3_2 + t109)) x4_1 (wrap64 (x6_2 + 1))) = some r := H
       have A6 := Aside0.mk A60
       clear A60
       have H' := Aside0.mk H
       clear H
       go_wp2_with (first | ((with_reducible refine gate_callee (f := 225) rfl ?_); refine goesL_ (some 34) rfl rfl Tryz.func225 (by kernel_rfl) rfl #[.int .i64 (wrap64 (1900 + x4_1)), .int .i64 (wrap64 ((Int.tmod x6_2 12) + 1))] rfl (by (try simp only [List.map_toArray, List.map_cons, List.map_nil]); first | done | rfl | (simp only [List.length_drop, List.length_take]; rfl)) ?_; (with_reducible refine (levyref2_Last.calls k2 (wrap64 (1900 + x4_1)) (wrap64 ((Int.tmod x6_2 12) + 1)) t109 _ A6.out).mono ?_); rintro e w' ⟨rfl, ⟨nd, rfl⟩⟩; refine ⟨_, rfl, ?_⟩))
       go_roundg k2
       case measure => have := HK1.out; have := HK2.out; omega
       case rel => exact ⟨(wrap64 (x3_2 + t109)), (wrap64 (x6_2 + 1)), (by first | rfl | (simp [*]; done)), (by first | rfl | (simp [*]; done)), H', ⟨by have := HK1.out; have := HK2.out; omega⟩, by repeat (first | exact Drawn0.refl _ | apply Drawn0.step)⟩
      ·rw [if_neg c5] at H
       have c5b0 : decide (x6_2 < a0) = false := decide_eq_false c5
       clear c5
       obtain rfl := Option.some.inj H
       go_wp2
       go_ret
       exact ⟨by first | rfl | (simp [*]; done), by repeat (first | exact Drawn0.refl _ | apply Drawn0.step)⟩
def levyref2_Number.j0 : Nat → Int → Int → Int → Bool → Option (Int × Int)
 | 0, _, _, _, _ => none
 | k + 1, x0, x1, x2, x19 => if x19 = true then (some (0, 20)) else (if x0 < 1900 then (some (0, 21)) else (if x0 > 2199 then (some (0, 21)) else ((levyref2_begins.f k (wrap64 ((wrap64 ((wrap64 (12 * (wrap64 (x0 - 1900)))) + x1)) - 1))).bind fun t111 => (some (wrap64 ((wrap64 (t111 + x2)) - 1), 0)))))
def levyref2_Number.f (k : Nat) (a0 : Int) (a1 : Int) (a2 : Int) : Option (Int × Int) := (levyref2_Last.f k a0 a1).bind fun t110 => (if a2 < 1 then (levyref2_Number.j0 k a0 a1 a2 true) else (levyref2_Number.j0 k a0 a1 a2 (decide (a2 > t110))))
set_option maxHeartbeats 8000000 in
set_option maxRecDepth 100000 in
theorem levyref2_Number.calls (k : Nat) (a0 : Int) (a1 : Int) (a2 : Int) (r1 : Int) (r2 : Int) (w : World) (h : levyref2_Number.f k a0 a1 a2 = some (r1, r2)) :
  Calls Tryz.prog 218 #[.int .i64 a0, .int .i64 a1, .int .i64 a2] w fun e w' => e = .returned (.tuple #[.int .i64 r1, .int .i64 r2]) ∧ Drawn0 w w' := by
 have H : ((levyref2_Last.f k a0 a1).bind fun t110 => (if a2 < 1 then (levyref2_Number.j0 k a0 a1 a2 true) else (levyref2_Number.j0 k a0 a1 a2 (decide (a2 > t110))))) = some (r1, r2) := h
 clear h
 replace H := Option.bind_eq_some_iff.mp H
 obtain ⟨t110, A40, H⟩ := H
 replace H : (if a2 < 1 then (levyref2_Number.j0 k a0 a1 a2 true) else (levyref2_Number.j0 k a0 a1 a2 (decide (a2 > t110)))) = some (r1, r2) := H
 have A4 := Aside0.mk A40
 clear A40
 have HC5 := Aside0.mk H
 clear H
 go_enter Tryz.func218, Tryz.ntmps218
 go_upto_region 2 with (first | ((with_reducible refine gate_callee (f := 225) rfl ?_); refine goesL_ (some 12) rfl rfl Tryz.func225 (by kernel_rfl) rfl #[.int .i64 a0, .int .i64 a1] rfl (by (try simp only [List.map_toArray, List.map_cons, List.map_nil]); first | done | rfl | (simp only [List.length_drop, List.length_take]; rfl)) ?_; (with_reducible refine (levyref2_Last.calls k a0 a1 t110 _ A4.out).mono ?_); rintro e w' ⟨rfl, ⟨nd, rfl⟩⟩; refine ⟨_, rfl, ?_⟩))
 (try simp only [Act.put, List.setIfInBounds_toArray, List.set_cons_zero, List.set_cons_succ])
 go_cut [19] (fun v19 wc => ∃ (kq : Nat) (x19_4 : Bool), v19 = .bool x19_4 ∧ Aside0 (levyref2_Number.j0 kq a0 a1 a2 x19_4 = some (r1, r2)) ∧ Aside0 (kq ≤ k) ∧ Drawn0 w wc)
 case first =>
  have H := HC5.out
  clear HC5
  by_cases c6 : a2 < 1
  ·rw [if_pos c6] at H
   have c6b0 : decide (a2 < 1) = true := decide_eq_true c6
   clear c6
   (first | rw [c6b0] | (simp only [i64_w, i32_w]; rw [c6b0]) | skip)
   have H' := Aside0.mk H
   clear H
   go_wp2
   go_meet
   case rel => exact ⟨_, (true), (by first | rfl | (simp [*]; done)), H', ⟨by first | omega | exact Nat.le_refl _⟩, by repeat (first | exact Drawn0.refl _ | apply Drawn0.step)⟩
  ·rw [if_neg c6] at H
   have c6b0 : decide (a2 < 1) = false := decide_eq_false c6
   clear c6
   (first | rw [c6b0] | (simp only [i64_w, i32_w]; rw [c6b0]) | skip)
   have H' := Aside0.mk H
   clear H
   go_wp2
   go_meet
   case rel => exact ⟨_, (decide (a2 > t110)), (by first | rfl | (simp [*]; done)), H', ⟨by first | omega | exact Nat.le_refl _⟩, by repeat (first | exact Drawn0.refl _ | apply Drawn0.step)⟩
 case rest =>
  clear HC5
  try clear c2
  try clear p2
  try clear c6
  try clear c6b0
  obtain ⟨kq, x19_4, rfl, HA, HJ4, ⟨mc4, rfl⟩⟩ := hcut
  cases kq with
  | zero => exact absurd HA.out (by simp [levyref2_Number.j0])
  | succ kj4 =>
   have H := HA.out
   clear HA
   simp only [levyref2_Number.j0] at H
   by_cases c7 : x19_4 = true
   ·subst c7
    have H1 : (some (0, 20)) = some (r1, r2) := by rw [if_pos rfl] at H; exact H
    clear H
    have H := H1
    clear H1
    simp only [Option.some.injEq, Prod.mk.injEq] at H
    obtain ⟨rfl, rfl⟩ := H
    go_wp2
    go_ret2
    exact ⟨by first | rfl | (simp [*]; done), by repeat (first | exact Drawn0.refl _ | apply Drawn0.step)⟩
   ·replace c7 := Bool.eq_false_iff.mpr c7
    subst c7
    have H1 : (if a0 < 1900 then (some (0, 21)) else (if a0 > 2199 then (some (0, 21)) else ((levyref2_begins.f kj4 (wrap64 ((wrap64 ((wrap64 (12 * (wrap64 (a0 - 1900)))) + a1)) - 1))).bind fun t111 => (some (wrap64 ((wrap64 (t111 + a2)) - 1), 0))))) = some (r1, r2) := by rw [if_neg (show ¬ (false = true) by decide)] at H; exact H
    clear H
    have H := H1
    clear H1
    by_cases c8 : a0 < 1900
    ·rw [if_pos c8] at H
     have c8b0 : decide (a0 < 1900) = true := decide_eq_true c8
     clear c8
     simp only [Option.some.injEq, Prod.mk.injEq] at H
     obtain ⟨rfl, rfl⟩ := H
     go_wp2
     go_ret2
     exact ⟨by first | rfl | (simp [*]; done), by repeat (first | exact Drawn0.refl _ | apply Drawn0.step)⟩
    ·rw [if_neg c8] at H
     have c8b0 : decide (a0 < 1900) = false := decide_eq_false c8
     clear c8
     by_cases c9 : a0 > 2199
     ·rw [if_pos c9] at H
      have c9b0 : decide (2199 < a0) = true := decide_eq_true c9
      clear c9
      simp only [Option.some.injEq, Prod.mk.injEq] at H
      obtain ⟨rfl, rfl⟩ := H
      go_wp2
      go_ret2
      exact ⟨by first | rfl | (simp [*]; done), by repeat (first | exact Drawn0.refl _ | apply Drawn0.step)⟩
     ·rw [if_neg c9] at H
      have c9b0 : decide (2199 < a0) = false := decide_eq_false c9
      clear c9
      replace H := Option.bind_eq_some_iff.mp H
      obtain ⟨t111, A100, H⟩ := H
      replace H : (some (wrap64 ((wrap64 (t111 + a2)) - 1), 0)) = some (r1, r2) := H
      have A10 := Aside0.mk A100
      clear A100
      simp only [Option.some.injEq, Prod.mk.injEq] at H
      obtain ⟨rfl, rfl⟩ := H
      go_wp2_with (first | ((with_reducible refine gate_callee (f := 208) rfl ?_); refine goesL_ (some 32) rfl rfl Tryz.func208 (by kernel_rfl) rfl #[.int .i64 (wrap64 ((wrap64 ((wrap64 (12 * (wrap64 (a0 - 1900)))) + a1)) - 1))] rfl (by (try simp only [List.map_toArray, List.map_cons, List.map_nil]); first | done | rfl | (simp only [List.length_drop, List.length_take]; rfl)) ?_; (with_reducible refine (levyref2_begins.calls kj4 (wrap64 ((wrap64 ((wrap64 (12 * (wrap64 (a0 - 1900)))) + a1)) - 1)) t111 _ A10.out).mono ?_); rintro e w' ⟨rfl, ⟨nd, rfl⟩⟩; refine ⟨_, rfl, ?_⟩))
      go_ret2
      exact ⟨by first | rfl | (simp [*]; done), by repeat (first | exact Drawn0.refl _ | apply Drawn0.step)⟩
def days_daysAhead.f (a0 : Int) : Option (Int) := some (wrap64 ((wrap64 (365 * (wrap64 (a0 - 1900)))) + (wrap64 ((wrap64 ((wrap64 ((wrap64 (Int.tdiv (wrap64 (a0 - 1)) 4)) - (wrap64 (Int.tdiv (wrap64 (a0 - 1)) 100)))) + (wrap64 (Int.tdiv (wrap64 (a0 - 1)) 400)))) - 460))))
set_option maxHeartbeats 8000000 in
set_option maxRecDepth 100000 in
theorem days_daysAhead.calls (a0 : Int) (r : Int) (w : World) (h : days_daysAhead.f a0 = some r) :
  Calls Tryz.prog 196 #[.int .i64 a0] w fun e w' => e = .returned (.int .i64 r) ∧ Drawn0 w w' := by
 have H : (some (wrap64 ((wrap64 (365 * (wrap64 (a0 - 1900)))) + (wrap64 ((wrap64 ((wrap64 ((wrap64 (Int.tdiv (wrap64 (a0 - 1)) 4)) - (wrap64 (Int.tdiv (wrap64 (a0 - 1)) 100)))) + (wrap64 (Int.tdiv (wrap64 (a0 - 1)) 400)))) - 460))))) = some r := h
 clear h
 obtain rfl := Option.some.inj H
 go_enter Tryz.func196, Tryz.ntmps196
 go_wp2
 go_ret
 exact ⟨by first | rfl | (simp [*]; done), by repeat (first | exact Drawn0.refl _ | apply Drawn0.step)⟩
def days_Leap.f (a0 : Int) : Option (Bool) := if (Int.tmod a0 4) = 0 then (if (Int.tmod a0 100) = 0 then (some ((Int.tmod a0 400) == 0)) else (some true)) else (some false)
set_option maxHeartbeats 8000000 in
set_option maxRecDepth 100000 in
theorem days_Leap.calls (a0 : Int) (r : Bool) (w : World) (h : days_Leap.f a0 = some r) :
  Calls Tryz.prog 217 #[.int .i64 a0] w fun e w' => e = .returned (.bool r) ∧ Drawn0 w w' := by
 have H : (if (Int.tmod a0 4) = 0 then (if (Int.tmod a0 100) = 0 then (some ((Int.tmod a0 400) == 0)) else (some true)) else (some false)) = some r := h
 clear h
 by_cases c2 : (Int.tmod a0 4) = 0
 ·rw [if_pos c2] at H
  have c2b0 : ((Int.tmod a0 4) == 0) = true := beq_iff_eq.mpr c2
  have c2b1 : ((Int.tmod a0 4) != 0) = false := bne_eq_false_iff_eq.mpr c2
  clear c2
  by_cases c3 : (Int.tmod a0 100) = 0
  ·rw [if_pos c3] at H
   have c3b0 : ((Int.tmod a0 100) == 0) = true := beq_iff_eq.mpr c3
   have c3b1 : ((Int.tmod a0 100) != 0) = false := bne_eq_false_iff_eq.mpr c3
   clear c3
   obtain rfl := Option.some.inj H
   go_enter Tryz.func217, Tryz.ntmps217
   go_wp2
   go_ret
   exact ⟨by first | rfl | (simp [*]; done), by repeat (first | exact Drawn0.refl _ | apply Drawn0.step)⟩
  ·rw [if_neg c3] at H
   have c3b0 : ((Int.tmod a0 100) == 0) = false := beq_eq_false_iff_ne.mpr c3
   have c3b1 : ((Int.tmod a0 100) != 0) = true := bne_iff_ne.mpr c3
   obtain rfl := Option.some.inj H
   go_enter Tryz.func217, Tryz.ntmps217
   go_wp2
   go_ret
   exact ⟨by first | rfl | (simp [*]; done), by repeat (first | exact Drawn0.refl _ | apply Drawn0.step)⟩
 ·rw [if_neg c2] at H
  have c2b0 : ((Int.tmod a0 4) == 0) = false := beq_eq_false_iff_ne.mpr c2
  have c2b1 : ((Int.tmod a0 4) != 0) = true := bne_iff_ne.mpr c2
  obtain rfl := Option.some.inj H
  go_enter Tryz.func217, Tryz.ntmps217
  go_wp2
  go_ret
  exact ⟨by first | rfl | (simp [*]; done), by repeat (first | exact Drawn0.refl _ | apply Drawn0.step)⟩
def days_Last.j0 : Nat → Int → Int → Bool → Option (Int)
 | 0, _, _, _ => none
 | k + 1, x0, x1, x10 => if x10 = true then (some 0) else (if x1 = 2 then ((days_Leap.f x0).bind fun t277 => (if t277 = true then (some 29) else (if 0 ≤ (wrap64 (x1 - 1)) then (if (wrap64 (x1 - 1)) < 12 then (some (rd tab3 (wrap64 (x1 - 1)))) else (none)) else (none)))) else (if 0 ≤ (wrap64 (x1 - 1)) then (if (wrap64 (x1 - 1)) < 12 then (some (rd tab3 (wrap64 (x1 - 1)))) else (none)) else (none)))
def days_Last.f (k : Nat) (a0 : Int) (a1 : Int) : Option (Int) := if a1 < 1 then (days_Last.j0 k a0 a1 true) else (days_Last.j0 k a0 a1 (decide (a1 > 12)))
set_option maxHeartbeats 8000000 in
set_option maxRecDepth 100000 in
theorem days_Last.calls (k : Nat) (a0 : Int) (a1 : Int) (r : Int) (w : World) (hT : Tabs w) (h : days_Last.f k a0 a1 = some r) :
  Calls Tryz.prog 197 #[.int .i64 a0, .int .i64 a1] w fun e w' => e = .returned (.int .i64 r) ∧ Drawn0 w w' := by
 have HT := Aside0.mk hT
 clear hT
 have H : (if a1 < 1 then (days_Last.j0 k a0 a1 true) else (days_Last.j0 k a0 a1 (decide (a1 > 12)))) = some r := h
 clear h
 have HC3 := Aside0.mk H
 clear H
 go_enter Tryz.func197, Tryz.ntmps197
 go_upto_region 1 with (fail)
 go_cut [10] (fun v10 wc => ∃ (kq : Nat) (x10_2 : Bool), v10 = .bool x10_2 ∧ Aside0 (days_Last.j0 kq a0 a1 x10_2 = some r) ∧ Aside0 (kq ≤ k) ∧ Drawn0 w wc)
 case first =>
  have H := HC3.out
  clear HC3
  by_cases c4 : a1 < 1
  ·rw [if_pos c4] at H
   have c4b0 : decide (a1 < 1) = true := decide_eq_true c4
   clear c4
   (first | rw [c4b0] | (simp only [i64_w, i32_w]; rw [c4b0]) | skip)
   have H' := Aside0.mk H
   clear H
   go_wp2
   go_meet
   case rel => exact ⟨_, (true), (by first | rfl | (simp [*]; done)), H', ⟨by first | omega | exact Nat.le_refl _⟩, by repeat (first | exact Drawn0.refl _ | apply Drawn0.step)⟩
  ·rw [if_neg c4] at H
   have c4b0 : decide (a1 < 1) = false := decide_eq_false c4
   clear c4
   (first | rw [c4b0] | (simp only [i64_w, i32_w]; rw [c4b0]) | skip)
   have H' := Aside0.mk H
   clear H
   go_wp2
   go_meet
   case rel => exact ⟨_, (decide (a1 > 12)), (by first | rfl | (simp [*]; done)), H', ⟨by first | omega | exact Nat.le_refl _⟩, by repeat (first | exact Drawn0.refl _ | apply Drawn0.step)⟩
 case rest =>
  clear HC3
  try clear c1
  try clear p2
  try clear c4
  try clear c4b0
  obtain ⟨kq, x10_2, rfl, HA, HJ2, ⟨mc2, rfl⟩⟩ := hcut
  cases kq with
  | zero => exact absurd HA.out (by simp [days_Last.j0])
  | succ kj2 =>
   have H := HA.out
   clear HA
   simp only [days_Last.j0] at H
   by_cases c5 : x10_2 = true
   ·subst c5
    have H1 : (some 0) = some r := by rw [if_pos rfl] at H; exact H
    clear H
    have H := H1
    clear H1
    obtain rfl := Option.some.inj H
    go_wp2
    go_ret
    exact ⟨by first | rfl | (simp [*]; done), by repeat (first | exact Drawn0.refl _ | apply Drawn0.step)⟩
   ·replace c5 := Bool.eq_false_iff.mpr c5
    subst c5
    have H1 : (if a1 = 2 then ((days_Leap.f a0).bind fun t277 => (if t277 = true then (some 29) else (if 0 ≤ (wrap64 (a1 - 1)) then (if (wrap64 (a1 - 1)) < 12 then (some (rd tab3 (wrap64 (a1 - 1)))) else (none)) else (none)))) else (if 0 ≤ (wrap64 (a1 - 1)) then (if (wrap64 (a1 - 1)) < 12 then (some (rd tab3 (wrap64 (a1 - 1)))) else (none)) else (none))) = some r := by rw [if_neg (show ¬ (false = true) by decide)] at H; exact H
    clear H
    have H := H1
    clear H1
    by_cases c6 : a1 = 2
    ·rw [if_pos c6] at H
     have c6b0 : (a1 == 2) = true := beq_iff_eq.mpr c6
     have c6b1 : (a1 != 2) = false := bne_eq_false_iff_eq.mpr c6
     clear c6
     replace H := Option.bind_eq_some_iff.mp H
     obtain ⟨t277, A70, H⟩ := H
     replace H : (if t277 = true then (some 29) else (if 0 ≤ (wrap64 (a1 - 1)) then (if (wrap64 (a1 - 1)) < 12 then (some (rd tab3 (wrap64 (a1 - 1)))) else (none)) else (none))) = some r := H
     have A7 := Aside0.mk A70
     clear A70
     by_cases c8 : t277 = true
     ·subst c8
      have H1 : (some 29) = some r := by rw [if_pos rfl] at H; exact H
      clear H
      have H := H1
      clear H1
      obtain rfl := Option.some.inj H
      go_wp2_with (first | (go_at_call 217; (with_reducible refine (days_Leap.calls a0 true _ A7.out).mono ?_); rintro e w' ⟨rfl, ⟨nd, rfl⟩⟩))
      go_ret
      exact ⟨by first | rfl | (simp [*]; done), by repeat (first | exact Drawn0.refl _ | apply Drawn0.step)⟩
     ·replace c8 := Bool.eq_false_iff.mpr c8
      subst c8
      have H1 : (if 0 ≤ (wrap64 (a1 - 1)) then (if (wrap64 (a1 - 1)) < 12 then (some (rd tab3 (wrap64 (a1 - 1)))) else (none)) else (none)) = some r := by rw [if_neg (show ¬ (false = true) by decide)] at H; exact H
      clear H
      have H := H1
      clear H1
      obtain ⟨ji9, hji9⟩ : ∃ j_ : Int, (wrap64 (a1 - 1)) = j_ := ⟨_, rfl⟩
      replace H : (if 0 ≤ (ji9) then (if (ji9) < 12 then (some (rd tab3 (ji9))) else (none)) else (none)) = some r := by first | (rw [hji9] at H; exact H) | (simp only [hji9] at H ⊢; exact H)
      (try rw [hji9] at A7)
      have hji9w : (IntKind.i64.wrap (a1 - 1)) = ji9 := (i64_w _).trans hji9
      by_cases c10 : 0 ≤ (ji9)
      ·rw [if_pos c10] at H
       have c10b0 : decide (0 ≤ (ji9)) = true := decide_eq_true c10
       clear c10
       by_cases c11 : (ji9) < 12
       ·rw [if_pos c11] at H
        have c11b0 : decide ((ji9) < 12) = true := decide_eq_true c11
        clear c11
        obtain rfl := Option.some.inj H
        go_wp2_with (first | (go_at_call 217; (with_reducible refine (days_Leap.calls a0 false _ A7.out).mono ?_); rintro e w' ⟨rfl, ⟨nd, rfl⟩⟩; have p12 : 0 ≤ ((ji9) : Int) := of_decide_eq_true (by assumption); have q12 : (ji9) < 12 := of_decide_eq_true (by assumption); have hx12_0 := (HT.out).c3 (ji9) p12 q12; replace p12 := eq_true p12; replace q12 := eq_true q12))
        go_ret
        exact ⟨by first | rfl | (simp; done) | (simp only [← hji9] <;> (first | rfl | simp)) | (simp [*]; done), by repeat (first | exact Drawn0.refl _ | apply Drawn0.step)⟩
       ·rw [if_neg c11] at H
        exact absurd H (by simp)
      ·rw [if_neg c10] at H
       exact absurd H (by simp)
    ·rw [if_neg c6] at H
     have c6b0 : (a1 == 2) = false := beq_eq_false_iff_ne.mpr c6
     have c6b1 : (a1 != 2) = true := bne_iff_ne.mpr c6
     obtain ⟨ji13, hji13⟩ : ∃ j_ : Int, (wrap64 (a1 - 1)) = j_ := ⟨_, rfl⟩
     replace H : (if 0 ≤ (ji13) then (if (ji13) < 12 then (some (rd tab3 (ji13))) else (none)) else (none)) = some r := by first | (rw [hji13] at H; exact H) | (simp only [hji13] at H ⊢; exact H)
     have hji13w : (IntKind.i64.wrap (a1 - 1)) = ji13 := (i64_w _).trans hji13
     by_cases c14 : 0 ≤ (ji13)
     ·rw [if_pos c14] at H
      have c14b0 : decide (0 ≤ (ji13)) = true := decide_eq_true c14
      clear c14
      by_cases c15 : (ji13) < 12
      ·rw [if_pos c15] at H
       have c15b0 : decide ((ji13) < 12) = true := decide_eq_true c15
       clear c15
       obtain rfl := Option.some.inj H
       have p16 : 0 ≤ ((ji13) : Int) := of_decide_eq_true (by assumption)
       have q16 : (ji13) < 12 := of_decide_eq_true (by assumption)
       have hx16_0 := (HT.out).c3 (ji13) p16 q16
       replace p16 := eq_true p16
       replace q16 := eq_true q16
       go_wp2
       go_ret
       exact ⟨by first | rfl | (simp; done) | (simp only [← hji13] <;> (first | rfl | simp)) | (simp [*]; done), by repeat (first | exact Drawn0.refl _ | apply Drawn0.step)⟩
      ·rw [if_neg c15] at H
       exact absurd H (by simp)
     ·rw [if_neg c14] at H
      exact absurd H (by simp)
mutual
def days_Number.j0 : Nat → Int → Int → Int → Bool → Option (Int × Int)
 | 0, _, _, _, _ => none
 | k + 1, x0, x1, x2, x18 => if x18 = true then (some (0, 20)) else (if x0 < 1900 then (days_Number.j1 k x0 x1 x2 true) else (days_Number.j1 k x0 x1 x2 (decide (x0 > 2199))))
def days_Number.j1 : Nat → Int → Int → Int → Bool → Option (Int × Int)
 | 0, _, _, _, _ => none
 | k + 1, x0, x1, x2, x24 => if x24 = true then (some (0, 21)) else ((days_daysAhead.f x0).bind fun t361 => (days_Number.l0 k x0 x1 (wrap64 ((wrap64 (t361 + x2)) - 1)) 1))
def days_Number.l0 : Nat → Int → Int → Int → Int → Option (Int × Int)
 | 0, _, _, _, _ => none
 | k + 1, x0, x1, x8, x9 => if x9 < x1 then ((days_Last.f k x0 x9).bind fun t362 => (days_Number.l0 k x0 x1 (wrap64 (x8 + t362)) (wrap64 (x9 + 1)))) else (some (x8, 0))
end
def days_Number.f (k : Nat) (a0 : Int) (a1 : Int) (a2 : Int) : Option (Int × Int) := if a2 < 1 then (days_Number.j0 k a0 a1 a2 true) else ((days_Last.f k a0 a1).bind fun t360 => (days_Number.j0 k a0 a1 a2 (decide (a2 > t360))))
set_option maxHeartbeats 8000000 in
set_option maxRecDepth 100000 in
theorem days_Number.calls (k : Nat) (a0 : Int) (a1 : Int) (a2 : Int) (r1 : Int) (r2 : Int) (w : World) (hT : Tabs w) (h : days_Number.f k a0 a1 a2 = some (r1, r2)) :
  Calls Tryz.prog 221 #[.int .i64 a0, .int .i64 a1, .int .i64 a2] w fun e w' => e = .returned (.tuple #[.int .i64 r1, .int .i64 r2]) ∧ Drawn0 w w' := by
 have HT := Aside0.mk hT
 clear hT
 have H : (if a2 < 1 then (days_Number.j0 k a0 a1 a2 true) else ((days_Last.f k a0 a1).bind fun t360 => (days_Number.j0 k a0 a1 a2 (decide (a2 > t360))))) = some (r1, r2) := h
 clear h
 have HC4 := Aside0.mk H
 clear H
 go_enter Tryz.func221, Tryz.ntmps221
 go_upto_region 1 with (fail)
 go_cut [18] (fun v18 wc => ∃ (kq : Nat) (x18_3 : Bool), v18 = .bool x18_3 ∧ Aside0 (days_Number.j0 kq a0 a1 a2 x18_3 = some (r1, r2)) ∧ Aside0 (kq ≤ k) ∧ Drawn0 w wc)
 case first =>
  have H := HC4.out
  clear HC4
  by_cases c5 : a2 < 1
  ·rw [if_pos c5] at H
   have c5b0 : decide (a2 < 1) = true := decide_eq_true c5
   clear c5
   (first | rw [c5b0] | (simp only [i64_w, i32_w]; rw [c5b0]) | skip)
   have H' := Aside0.mk H
   clear H
   go_wp2
   go_meet
   case rel => exact ⟨_, (true), (by first | rfl | (simp [*]; done)), H', ⟨by first | omega | exact Nat.le_refl _⟩, by repeat (first | exact Drawn0.refl _ | apply Drawn0.step)⟩
  ·rw [if_neg c5] at H
   have c5b0 : decide (a2 < 1) = false := decide_eq_false c5
   clear c5
   (first | rw [c5b0] | (simp only [i64_w, i32_w]; rw [c5b0]) | skip)
   replace H := Option.bind_eq_some_iff.mp H
   obtain ⟨t360, A60, H⟩ := H
   replace H : (days_Number.j0 k a0 a1 a2 (decide (a2 > t360))) = some (r1, r2) := H
   have A6 := Aside0.mk A60
   clear A60
   have H' := Aside0.mk H
   clear H
   go_wp2_with (first | (go_at_call 197; (with_reducible refine (days_Last.calls k a0 a1 t360 _ ?side1 A6.out).mono ?_); (case side1 => first | (with_reducible exact HT.out) | (with_reducible exact HT.out.drewN _) | (with_reducible exact HT.out.drew) | (with_reducible exact (HT.out.drewN _).drewN _)); rintro e w' ⟨rfl, ⟨nd, rfl⟩⟩))
   go_meet
   case rel => exact ⟨_, (decide (a2 > t360)), (by first | rfl | (simp [*]; done)), H', ⟨by first | omega | exact Nat.le_refl _⟩, by repeat (first | exact Drawn0.refl _ | apply Drawn0.step)⟩
 case rest =>
  clear HC4
  try clear c2
  try clear p2
  try clear c5
  try clear c5b0
  obtain ⟨kq, x18_3, rfl, HA, HJ3, ⟨mc3, rfl⟩⟩ := hcut
  cases kq with
  | zero => exact absurd HA.out (by simp [days_Number.j0])
  | succ kj3 =>
   have H := HA.out
   clear HA
   simp only [days_Number.j0] at H
   by_cases c7 : x18_3 = true
   ·subst c7
    have H1 : (some (0, 20)) = some (r1, r2) := by rw [if_pos rfl] at H; exact H
    clear H
    have H := H1
    clear H1
    simp only [Option.some.injEq, Prod.mk.injEq] at H
    obtain ⟨rfl, rfl⟩ := H
    go_wp2
    go_ret2
    exact ⟨by first | rfl | (simp [*]; done), by repeat (first | exact Drawn0.refl _ | apply Drawn0.step)⟩
   ·replace c7 := Bool.eq_false_iff.mpr c7
    subst c7
    have H1 : (if a0 < 1900 then (days_Number.j1 kj3 a0 a1 a2 true) else (days_Number.j1 kj3 a0 a1 a2 (decide (a0 > 2199)))) = some (r1, r2) := by rw [if_neg (show ¬ (false = true) by decide)] at H; exact H
    clear H
    have H := H1
    clear H1
    have HC8 := Aside0.mk H
    clear H
    go_upto_region 3 with (fail)
    go_cut [24] (fun v24 wc => ∃ (kq : Nat) (x24_7 : Bool), v24 = .bool x24_7 ∧ Aside0 (days_Number.j1 kq a0 a1 a2 x24_7 = some (r1, r2)) ∧ Aside0 (kq ≤ kj3) ∧ Drawn0 w wc)
    case first =>
     have H := HC8.out
     clear HC8
     by_cases c9 : a0 < 1900
     ·rw [if_pos c9] at H
      have c9b0 : decide (a0 < 1900) = true := decide_eq_true c9
      clear c9
      (first | rw [c9b0] | (simp only [i64_w, i32_w]; rw [c9b0]) | skip)
      have H' := Aside0.mk H
      clear H
      go_wp2
      go_meet
      case rel => exact ⟨_, (true), (by first | rfl | (simp [*]; done)), H', ⟨by have := HJ3.out; first | omega | exact Nat.le_refl _⟩, by repeat (first | exact Drawn0.refl _ | apply Drawn0.step)⟩
     ·rw [if_neg c9] at H
      have c9b0 : decide (a0 < 1900) = false := decide_eq_false c9
      clear c9
      (first | rw [c9b0] | (simp only [i64_w, i32_w]; rw [c9b0]) | skip)
      have H' := Aside0.mk H
      clear H
      go_wp2
      go_meet
      case rel => exact ⟨_, (decide (a0 > 2199)), (by first | rfl | (simp [*]; done)), H', ⟨by have := HJ3.out; first | omega | exact Nat.le_refl _⟩, by repeat (first | exact Drawn0.refl _ | apply Drawn0.step)⟩
    case rest =>
     clear HC8
     try clear c2
     try clear p2
     try clear c3
     try clear c5
     try clear c5b0
     try clear c7
     try clear c9
     try clear c9b0
     try clear p2
     obtain ⟨kq, x24_7, rfl, HA, HJ7, ⟨mc7, rfl⟩⟩ := hcut
     cases kq with
     | zero => exact absurd HA.out (by simp [days_Number.j1])
     | succ kj7 =>
      have H := HA.out
      clear HA
      simp only [days_Number.j1] at H
      by_cases c10 : x24_7 = true
      ·subst c10
       have H1 : (some (0, 21)) = some (r1, r2) := by rw [if_pos rfl] at H; exact H
       clear H
       have H := H1
       clear H1
       simp only [Option.some.injEq, Prod.mk.injEq] at H
       obtain ⟨rfl, rfl⟩ := H
       go_wp2
       go_ret2
       exact ⟨by first | rfl | (simp [*]; done), by repeat (first | exact Drawn0.refl _ | apply Drawn0.step)⟩
      ·replace c10 := Bool.eq_false_iff.mpr c10
       subst c10
       have H1 : ((days_daysAhead.f a0).bind fun t361 => (days_Number.l0 kj7 a0 a1 (wrap64 ((wrap64 (t361 + a2)) - 1)) 1)) = some (r1, r2) := by rw [if_neg (show ¬ (false = true) by decide)] at H; exact H
       clear H
       have H := H1
       clear H1
       replace H := Option.bind_eq_some_iff.mp H
       obtain ⟨t361, A110, H⟩ := H
       replace H : (days_Number.l0 kj7 a0 a1 (wrap64 ((wrap64 (t361 + a2)) - 1)) 1) = some (r1, r2) := H
       have A11 := Aside0.mk A110
       clear A110
       have H' := Aside0.mk H
       clear H
       go_wp2_with (first | ((with_reducible refine gate_callee (f := 196) rfl ?_); refine goesL_ (some 26) rfl rfl Tryz.func196 (by kernel_rfl) rfl #[.int .i64 a0] rfl (by (try simp only [List.map_toArray, List.map_cons, List.map_nil]); first | done | rfl | (simp only [List.length_drop, List.length_take]; rfl)) ?_; (with_reducible refine (days_daysAhead.calls a0 t361 _ A11.out).mono ?_); rintro e w' ⟨rfl, ⟨nd, rfl⟩⟩; refine ⟨_, rfl, ?_⟩))
       go_loopg [8, 9] kj7 (fun kq v8 v9 w' => ∃ (x8_3 : Int) (x9_3 : Int), v8 = .int .i64 x8_3 ∧ v9 = .int .i64 x9_3 ∧ Aside0 (days_Number.l0 kq a0 a1 x8_3 x9_3 = some (r1, r2)) ∧ Aside0 (kq ≤ kj7) ∧ Drawn0 w w')
       case atStart => exact ⟨(wrap64 ((wrap64 (t361 + a2)) - 1)), (1), (by first | rfl | (simp [*]; done)), (by first | rfl | (simp [*]; done)), H', ⟨Nat.le_refl _⟩, by repeat (first | exact Drawn0.refl _ | apply Drawn0.step)⟩
       case round =>
        clear H'
        try clear c1
        try clear c2
        try clear p2
        try clear c3
        try clear c5
        try clear c5b0
        try clear p6
        try clear c7
        try clear c9
        try clear c9b0
        try clear c10
        try clear p2
        obtain ⟨x8_3, x9_3, rfl, rfl, HA, HK3, ⟨m3, rfl⟩⟩ := hrel
        cases gk with
        | zero => exact absurd HA.out (by simp [days_Number.l0])
        | succ k3 =>
         have H := HA.out
         clear HA
         simp only [days_Number.l0] at H
         by_cases c12 : x9_3 < a1
         ·rw [if_pos c12] at H
          have c12b0 : decide (x9_3 < a1) = true := decide_eq_true c12
          clear c12
          replace H := Option.bind_eq_some_iff.mp H
          obtain ⟨t362, A130, H⟩ := H
          replace H : (days_Number.l0 k3 a0 a1 (wrap64 (x8_3 + t362)) (wrap64 (x9_3 + 1))) = some (r1, r2) := H
          have A13 := Aside0.mk A130
          clear A130
          have H' := Aside0.mk H
          clear H
          go_wp2_with (first | ((with_reducible refine gate_callee (f := 197) rfl ?_); refine goesL_ (some 38) rfl rfl Tryz.func197 (by kernel_rfl) rfl #[.int .i64 a0, .int .i64 x9_3] rfl (by (try simp only [List.map_toArray, List.map_cons, List.map_nil]); first | done | rfl | (simp only [List.length_drop, List.length_take]; rfl)) ?_; (with_reducible refine (days_Last.calls k3 a0 x9_3 t362 _ ?side1 A13.out).mono ?_); (case side1 => first | (with_reducible exact HT.out) | (with_reducible exact HT.out.drewN _) | (with_reducible exact HT.out.drew) | (with_reducible exact (HT.out.drewN _).drewN _)); rintro e w' ⟨rfl, ⟨nd, rfl⟩⟩; refine ⟨_, rfl, ?_⟩))
          go_roundg k3
          case measure => have := HJ3.out; have := HJ7.out; have := HK3.out; omega
          case rel => exact ⟨(wrap64 (x8_3 + t362)), (wrap64 (x9_3 + 1)), (by first | rfl | (simp [*]; done)), (by first | rfl | (simp [*]; done)), H', ⟨by have := HJ3.out; have := HJ7.out; have := HK3.out; omega⟩, by repeat (first | exact Drawn0.refl _ | apply Drawn0.step)⟩
         ·rw [if_neg c12] at H
          have c12b0 : decide (x9_3 < a1) = false := decide_eq_false c12
          clear c12
          simp only [Option.some.injEq, Prod.mk.injEq] at H
          obtain ⟨rfl, rfl⟩ := H
          go_wp2
          go_ret2
          exact ⟨by first | rfl | (simp [*]; done), by repeat (first | exact Drawn0.refl _ | apply Drawn0.step)⟩
theorem eqA57 (d : Nat) (w : World) (x0 y0 : Int) (x1 y1 : Int) (x2 y2 : ByteArray) (x3 y3 : Int) (x4 y4 : Int) :
  (Op.equalIn (d + 2) 57 (.agg #[.int .i64 x0, .int .i64 x1, .string x2, .int .i64 x3, .int .i64 x4]) (.agg #[.int .i64 y0, .int .i64 y1, .string y2, .int .i64 y3, .int .i64 y4])).run Tryz.prog w = .ok (x0 == y0 && (x1 == y1 && (x2.toList == y2.toList && (x3 == y3 && (x4 == y4))))) w := by
 refine eqA_of Tryz.underlying57 (by kernel_rfl) ?_
 refine eqf_cons (by rfl) (by go_simp; rfl) (by go_simp; rfl) (by go_simp) ?_
 refine eqf_cons (by rfl) (by go_simp; rfl) (by go_simp; rfl) (by go_simp) ?_
 refine eqf_cons (by rfl) (by go_simp; rfl) (by go_simp; rfl) (by go_simp) ?_
 refine eqf_cons (by rfl) (by go_simp; rfl) (by go_simp; rfl) (by go_simp) ?_
 exact eqf_last (by rfl) (by go_simp; rfl) (by go_simp; rfl) (by go_simp)
end Go.Proofs.YtjlclkenfmbahaaGreatDoor.PA
end
section
namespace Go.Proofs.YtjlclkenfmbahaaGreatDoor.PA
open Go.RowKit Go.Proofs.YtjlclkenfmbahaaGreatDoorW.PrintWords Go.Proofs.YtjlclkenfmbahaaGreatDoorW.PrintLast Go.Proofs.YtjlclkenfmbahaaGreatDoorW.PrintMore
attribute [local go_sem] max2_int min2_int max_two min_two max_three min_three max_four min_four
attribute [local go_sem high] eqA57
def levykept_sameTokens.l0 : Nat → List (S57) → List (S57) → Int → Option (Bool)
 | 0, _, _, _ => none
 | k + 1, x0, x1, x5 => if x5 < (x0.length : Int) then (if 0 ≤ x5 then (if x5 < (x1.length : Int) then (if (!(((rd_T57 x0 x5).f0) == ((rd_T57 x1 x5).f0)) || (!(((rd_T57 x0 x5).f1) == ((rd_T57 x1 x5).f1)) || (!((((rd_T57 x0 x5).f2).toList) == (((rd_T57 x1 x5).f2).toList)) || (!(((rd_T57 x0 x5).f3) == ((rd_T57 x1 x5).f3)) || (!(((rd_T57 x0 x5).f4) == ((rd_T57 x1 x5).f4))))))) = true then (some false) else (levykept_sameTokens.l0 k x0 x1 (wrap64 (x5 + 1)))) else (none)) else (none)) else (some true)
def levykept_sameTokens.f (k : Nat) (l0 : List (S57)) (l1 : List (S57)) : Option (Bool) := if (l0.length : Int) = (l1.length : Int) then (levykept_sameTokens.l0 k l0 l1 0) else (some false)
set_option maxHeartbeats 8000000 in
set_option maxRecDepth 100000 in
theorem levykept_sameTokens.calls (k : Nat) (A0 : Option Addr) (c0 : Nat) (l0 : List (S57)) (A1 : Option Addr) (c1 : Nat) (l1 : List (S57)) (r : Bool) (w : World) (hr0 : Kd.C k57 w A0 l0.length l0) (hc0 : l0.length ≤ c0) (hr1 : Kd.C k57 w A1 l1.length l1) (hc1 : l1.length ≤ c1) (h : levykept_sameTokens.f k l0 l1 = some r) :
  Calls Tryz.prog 95 #[.slice A0 l0.length c0, .slice A1 l1.length c1] w fun e w' => e = .returned (.bool r) ∧ Below w.heap.size w w' := by
 have hu57 := Tryz.underlying57
 have HR0 := Aside0.mk hr0
 have HC0 := Aside0.mk hc0
 clear hr0 hc0
 have HR1 := Aside0.mk hr1
 have HC1 := Aside0.mk hc1
 clear hr1 hc1
 have HB := Aside0.mk (Below.refl w.heap.size w)
 have H : (if (l0.length : Int) = (l1.length : Int) then (levykept_sameTokens.l0 k l0 l1 0) else (some false)) = some r := h
 clear h
 by_cases c3 : (l0.length : Int) = (l1.length : Int)
 ·rw [if_pos c3] at H
  have c3b0 : ((l0.length : Int) == (l1.length : Int)) = true := beq_iff_eq.mpr c3
  have c3b1 : ((l0.length : Int) != (l1.length : Int)) = false := bne_eq_false_iff_eq.mpr c3
  have c3b2 : (l0.length == l1.length) = true := by first | simpa using c3 | (simp at c3 ⊢; omega)
  clear c3
  have H' := Aside0.mk H
  clear H
  go_enter Tryz.func95, Tryz.ntmps95
  go_wp2
  go_loopg [5] k (fun kq v5 w' => ∃ (x5_1 : Int), v5 = .int .i64 x5_1 ∧ Aside0 (levykept_sameTokens.l0 kq l0 l1 x5_1 = some r) ∧ Aside0 (kq ≤ k) ∧ Aside0 (Below w.heap.size w w'))
  case atStart => exact ⟨(0), (by first | rfl | (simp [*]; done)), H', ⟨Nat.le_refl _⟩, ⟨by repeat (first | (with_reducible first | exact HB.out | apply below_alloc | apply pw_below_drewN | apply below_drew1) | exact HB.out)⟩⟩
  case round =>
   clear H'
   try clear c1
   try clear p2
   try clear c3
   try clear c3b0
   try clear c3b1
   try clear c3b2
   obtain ⟨x5_1, rfl, HA, HK1, HB⟩ := hrel
   cases gk with
   | zero => exact absurd HA.out (by simp [levykept_sameTokens.l0])
   | succ k1 =>
    have H := HA.out
    clear HA
    simp only [levykept_sameTokens.l0] at H
    by_cases c4 : x5_1 < (l0.length : Int)
    ·rw [if_pos c4] at H
     have c4b0 : decide (x5_1 < (l0.length : Int)) = true := decide_eq_true c4
     clear c4
     by_cases c5 : 0 ≤ x5_1
     ·rw [if_pos c5] at H
      have c5b0 : decide (0 ≤ x5_1) = true := decide_eq_true c5
      clear c5
      by_cases c6 : x5_1 < (l1.length : Int)
      ·rw [if_pos c6] at H
       have c6b0 : decide (x5_1 < (l1.length : Int)) = true := decide_eq_true c6
       clear c6
       by_cases c7 : (!(((rd_T57 l0 x5_1).f0) == ((rd_T57 l1 x5_1).f0)) || (!(((rd_T57 l0 x5_1).f1) == ((rd_T57 l1 x5_1).f1)) || (!((((rd_T57 l0 x5_1).f2).toList) == (((rd_T57 l1 x5_1).f2).toList)) || (!(((rd_T57 l0 x5_1).f3) == ((rd_T57 l1 x5_1).f3)) || (!(((rd_T57 l0 x5_1).f4) == ((rd_T57 l1 x5_1).f4))))))) = true
       ·rw [if_pos c7] at H
        have c7b0 : (!(((rd_T57 l0 x5_1).f0) == ((rd_T57 l1 x5_1).f0)) || (!(((rd_T57 l0 x5_1).f1) == ((rd_T57 l1 x5_1).f1)) || (!((((rd_T57 l0 x5_1).f2).toList) == (((rd_T57 l1 x5_1).f2).toList)) || (!(((rd_T57 l0 x5_1).f3) == ((rd_T57 l1 x5_1).f3)) || (!(((rd_T57 l0 x5_1).f4) == ((rd_T57 l1 x5_1).f4))))))) = true := c7
        clear c7
        obtain rfl := Option.some.inj H
        have p509 : 0 ≤ (x5_1 : Int) := of_decide_eq_true (by assumption)
        have q509 : x5_1 < (l0.length : Int) := of_decide_eq_true (by assumption)
        obtain ⟨ad509, e509, hx509_0, hx509_1, hx509_2, hx509_3, hx509_4⟩ := at_T57 HR0.out x5_1 p509 q509
        cases e509
        replace hx509_0 := (HB.out.cell (World.block_lt_of_cell? w _ hx509_0)).trans hx509_0
        replace hx509_1 := (HB.out.cell (World.block_lt_of_cell? w _ hx509_1)).trans hx509_1
        replace hx509_2 := (HB.out.cell (World.block_lt_of_cell? w _ hx509_2)).trans hx509_2
        replace hx509_3 := (HB.out.cell (World.block_lt_of_cell? w _ hx509_3)).trans hx509_3
        replace hx509_4 := (HB.out.cell (World.block_lt_of_cell? w _ hx509_4)).trans hx509_4
        replace p509 := eq_true p509
        replace q509 := eq_true q509
        go_wp2_with (first | ((with_reducible refine gate_dst (N := 6) rfl ?_); refine box_event ?hg (N := 6) ?hd (cs := #[.int .i64 0, .int .i64 0, .string ⟨#[]⟩, .int .i64 0, .int .i64 0]) (t := 57) ?hr ?_; (case hd => rfl); (case hg => rfl); (case hr => first | (go_simp; done) | (go_simp; rfl)); intro gb510 hg w8 hbox hb; have n0_ := Aside0.mk (below_step (by repeat (first | (with_reducible first | exact HB.out | apply below_alloc | apply pw_below_drewN | apply below_drew1) | exact HB.out)) hb); have n1_ := Aside0.mk (hbox); have n2_ := Aside0.mk ((by rw [hg]; exact (below_size (by repeat (first | (with_reducible first | exact HB.out | apply below_alloc | apply pw_below_drewN | apply below_drew1) | exact HB.out))) : w.heap.size ≤ gb510)); have n3_ := Aside0.mk ((by rw [hg]; exact (below_size (by repeat (first | (with_reducible first | exact HB.out | apply below_alloc | apply pw_below_drewN | apply below_drew1) | exact HB.out))) : w.heap.size ≤ gb510)); clear HB; have HB := n0_; have BK510 := n1_; have GW510 := n2_; have GE510 := n3_; clear n0_ n1_ n2_ n3_; clear hb hbox hg; have hcz9_0 : w8.cell? ⟨gb510, 0, none⟩ = some (.int .i64 0) := (blk_cell BK510.out 0).trans rfl; have hcz9_1 : w8.cell? ⟨gb510, 1, none⟩ = some (.int .i64 0) := (blk_cell BK510.out 1).trans rfl; have hcz9_2 : w8.cell? ⟨gb510, 2, none⟩ = some (.string ⟨#[]⟩) := (blk_cell BK510.out 2).trans rfl; have hcz9_3 : w8.cell? ⟨gb510, 3, none⟩ = some (.int .i64 0) := (blk_cell BK510.out 3).trans rfl; have hcz9_4 : w8.cell? ⟨gb510, 4, none⟩ = some (.int .i64 0) := (blk_cell BK510.out 4).trans rfl; have hfz9_0 := blk_frozen BK510.out 0; have hfz9_1 := blk_frozen BK510.out 1; have hfz9_2 := blk_frozen BK510.out 2; have hfz9_3 := blk_frozen BK510.out 3; have hfz9_4 := blk_frozen BK510.out 4; have p511 : 0 ≤ (x5_1 : Int) := of_decide_eq_true (by assumption); have q511 : x5_1 < (l1.length : Int) := of_decide_eq_true (by assumption); obtain ⟨ad511, e511, hx511_0, hx511_1, hx511_2, hx511_3, hx511_4⟩ := at_T57 HR1.out x5_1 p511 q511; cases e511; have hn511_0 : ad511.block ≠ gb510 := Nat.ne_of_lt (Nat.lt_of_lt_of_le (by have := World.block_lt_of_cell? _ _ hx511_0; first | rwa [add_block] at this | exact this) GW510.out); have hn511_1 : ad511.block ≠ gb510 := Nat.ne_of_lt (Nat.lt_of_lt_of_le (by have := World.block_lt_of_cell? _ _ hx511_0; first | rwa [add_block] at this | exact this) GW510.out); have hn511_2 : ad511.block ≠ gb510 := Nat.ne_of_lt (Nat.lt_of_lt_of_le (by have := World.block_lt_of_cell? _ _ hx511_0; first | rwa [add_block] at this | exact this) GW510.out); have hn511_3 : ad511.block ≠ gb510 := Nat.ne_of_lt (Nat.lt_of_lt_of_le (by have := World.block_lt_of_cell? _ _ hx511_0; first | rwa [add_block] at this | exact this) GW510.out); have hn511_4 : ad511.block ≠ gb510 := Nat.ne_of_lt (Nat.lt_of_lt_of_le (by have := World.block_lt_of_cell? _ _ hx511_0; first | rwa [add_block] at this | exact this) GW510.out); replace hx511_0 := (HB.out.cell (World.block_lt_of_cell? w _ hx511_0)).trans hx511_0; replace hx511_1 := (HB.out.cell (World.block_lt_of_cell? w _ hx511_1)).trans hx511_1; replace hx511_2 := (HB.out.cell (World.block_lt_of_cell? w _ hx511_2)).trans hx511_2; replace hx511_3 := (HB.out.cell (World.block_lt_of_cell? w _ hx511_3)).trans hx511_3; replace hx511_4 := (HB.out.cell (World.block_lt_of_cell? w _ hx511_4)).trans hx511_4; replace hx511_0 := (cell_far (p := ⟨gb510, 0, none⟩) (by first | (rw [add_block]; exact hn511_0) | (show (Addr.add _ _).block ≠ _; rw [add_block]; exact hn511_0) | exact hn511_0) (.int .i64 ((rd_T57 l0 x5_1).f0))).trans hx511_0; replace hx511_1 := (cell_far (p := ⟨gb510, 0, none⟩) (by first | (rw [add_block]; exact hn511_0) | (show (Addr.add _ _).block ≠ _; rw [add_block]; exact hn511_0) | exact hn511_0) (.int .i64 ((rd_T57 l0 x5_1).f0))).trans hx511_1; replace hx511_2 := (cell_far (p := ⟨gb510, 0, none⟩) (by first | (rw [add_block]; exact hn511_0) | (show (Addr.add _ _).block ≠ _; rw [add_block]; exact hn511_0) | exact hn511_0) (.int .i64 ((rd_T57 l0 x5_1).f0))).trans hx511_2; replace hx511_3 := (cell_far (p := ⟨gb510, 0, none⟩) (by first | (rw [add_block]; exact hn511_0) | (show (Addr.add _ _).block ≠ _; rw [add_block]; exact hn511_0) | exact hn511_0) (.int .i64 ((rd_T57 l0 x5_1).f0))).trans hx511_3; replace hx511_4 := (cell_far (p := ⟨gb510, 0, none⟩) (by first | (rw [add_block]; exact hn511_0) | (show (Addr.add _ _).block ≠ _; rw [add_block]; exact hn511_0) | exact hn511_0) (.int .i64 ((rd_T57 l0 x5_1).f0))).trans hx511_4; replace hx511_0 := (cell_far (p := ⟨gb510, 1, none⟩) (by first | (rw [add_block]; exact hn511_1) | (show (Addr.add _ _).block ≠ _; rw [add_block]; exact hn511_1) | exact hn511_1) (.int .i64 ((rd_T57 l0 x5_1).f1))).trans hx511_0; replace hx511_1 := (cell_far (p := ⟨gb510, 1, none⟩) (by first | (rw [add_block]; exact hn511_1) | (show (Addr.add _ _).block ≠ _; rw [add_block]; exact hn511_1) | exact hn511_1) (.int .i64 ((rd_T57 l0 x5_1).f1))).trans hx511_1; replace hx511_2 := (cell_far (p := ⟨gb510, 1, none⟩) (by first | (rw [add_block]; exact hn511_1) | (show (Addr.add _ _).block ≠ _; rw [add_block]; exact hn511_1) | exact hn511_1) (.int .i64 ((rd_T57 l0 x5_1).f1))).trans hx511_2; replace hx511_3 := (cell_far (p := ⟨gb510, 1, none⟩) (by first | (rw [add_block]; exact hn511_1) | (show (Addr.add _ _).block ≠ _; rw [add_block]; exact hn511_1) | exact hn511_1) (.int .i64 ((rd_T57 l0 x5_1).f1))).trans hx511_3; replace hx511_4 := (cell_far (p := ⟨gb510, 1, none⟩) (by first | (rw [add_block]; exact hn511_1) | (show (Addr.add _ _).block ≠ _; rw [add_block]; exact hn511_1) | exact hn511_1) (.int .i64 ((rd_T57 l0 x5_1).f1))).trans hx511_4; replace hx511_0 := (cell_far (p := ⟨gb510, 2, none⟩) (by first | (rw [add_block]; exact hn511_2) | (show (Addr.add _ _).block ≠ _; rw [add_block]; exact hn511_2) | exact hn511_2) (.string ((rd_T57 l0 x5_1).f2))).trans hx511_0; replace hx511_1 := (cell_far (p := ⟨gb510, 2, none⟩) (by first | (rw [add_block]; exact hn511_2) | (show (Addr.add _ _).block ≠ _; rw [add_block]; exact hn511_2) | exact hn511_2) (.string ((rd_T57 l0 x5_1).f2))).trans hx511_1; replace hx511_2 := (cell_far (p := ⟨gb510, 2, none⟩) (by first | (rw [add_block]; exact hn511_2) | (show (Addr.add _ _).block ≠ _; rw [add_block]; exact hn511_2) | exact hn511_2) (.string ((rd_T57 l0 x5_1).f2))).trans hx511_2; replace hx511_3 := (cell_far (p := ⟨gb510, 2, none⟩) (by first | (rw [add_block]; exact hn511_2) | (show (Addr.add _ _).block ≠ _; rw [add_block]; exact hn511_2) | exact hn511_2) (.string ((rd_T57 l0 x5_1).f2))).trans hx511_3; replace hx511_4 := (cell_far (p := ⟨gb510, 2, none⟩) (by first | (rw [add_block]; exact hn511_2) | (show (Addr.add _ _).block ≠ _; rw [add_block]; exact hn511_2) | exact hn511_2) (.string ((rd_T57 l0 x5_1).f2))).trans hx511_4; replace hx511_0 := (cell_far (p := ⟨gb510, 3, none⟩) (by first | (rw [add_block]; exact hn511_3) | (show (Addr.add _ _).block ≠ _; rw [add_block]; exact hn511_3) | exact hn511_3) (.int .i64 ((rd_T57 l0 x5_1).f3))).trans hx511_0; replace hx511_1 := (cell_far (p := ⟨gb510, 3, none⟩) (by first | (rw [add_block]; exact hn511_3) | (show (Addr.add _ _).block ≠ _; rw [add_block]; exact hn511_3) | exact hn511_3) (.int .i64 ((rd_T57 l0 x5_1).f3))).trans hx511_1; replace hx511_2 := (cell_far (p := ⟨gb510, 3, none⟩) (by first | (rw [add_block]; exact hn511_3) | (show (Addr.add _ _).block ≠ _; rw [add_block]; exact hn511_3) | exact hn511_3) (.int .i64 ((rd_T57 l0 x5_1).f3))).trans hx511_2; replace hx511_3 := (cell_far (p := ⟨gb510, 3, none⟩) (by first | (rw [add_block]; exact hn511_3) | (show (Addr.add _ _).block ≠ _; rw [add_block]; exact hn511_3) | exact hn511_3) (.int .i64 ((rd_T57 l0 x5_1).f3))).trans hx511_3; replace hx511_4 := (cell_far (p := ⟨gb510, 3, none⟩) (by first | (rw [add_block]; exact hn511_3) | (show (Addr.add _ _).block ≠ _; rw [add_block]; exact hn511_3) | exact hn511_3) (.int .i64 ((rd_T57 l0 x5_1).f3))).trans hx511_4; replace hx511_0 := (cell_far (p := ⟨gb510, 4, none⟩) (by first | (rw [add_block]; exact hn511_4) | (show (Addr.add _ _).block ≠ _; rw [add_block]; exact hn511_4) | exact hn511_4) (.int .i64 ((rd_T57 l0 x5_1).f4))).trans hx511_0; replace hx511_1 := (cell_far (p := ⟨gb510, 4, none⟩) (by first | (rw [add_block]; exact hn511_4) | (show (Addr.add _ _).block ≠ _; rw [add_block]; exact hn511_4) | exact hn511_4) (.int .i64 ((rd_T57 l0 x5_1).f4))).trans hx511_1; replace hx511_2 := (cell_far (p := ⟨gb510, 4, none⟩) (by first | (rw [add_block]; exact hn511_4) | (show (Addr.add _ _).block ≠ _; rw [add_block]; exact hn511_4) | exact hn511_4) (.int .i64 ((rd_T57 l0 x5_1).f4))).trans hx511_2; replace hx511_3 := (cell_far (p := ⟨gb510, 4, none⟩) (by first | (rw [add_block]; exact hn511_4) | (show (Addr.add _ _).block ≠ _; rw [add_block]; exact hn511_4) | exact hn511_4) (.int .i64 ((rd_T57 l0 x5_1).f4))).trans hx511_3; replace hx511_4 := (cell_far (p := ⟨gb510, 4, none⟩) (by first | (rw [add_block]; exact hn511_4) | (show (Addr.add _ _).block ≠ _; rw [add_block]; exact hn511_4) | exact hn511_4) (.int .i64 ((rd_T57 l0 x5_1).f4))).trans hx511_4; clear hn511_0; clear hn511_1; clear hn511_2; clear hn511_3; clear hn511_4; replace p511 := eq_true p511; replace q511 := eq_true q511) | ((with_reducible refine gate_dst (N := 7) rfl ?_); refine box_event ?hg (N := 7) ?hd (cs := #[.int .i64 0, .int .i64 0, .string ⟨#[]⟩, .int .i64 0, .int .i64 0]) (t := 57) ?hr ?_; (case hd => rfl); (case hg => rfl); (case hr => first | (go_simp; done) | (go_simp; rfl)); intro gb512 hg w10 hbox hb; have n0_ := Aside0.mk (blk_below (g := gb510) (o := .cells #[.int .i64 ((rd_T57 l0 x5_1).f0), .int .i64 ((rd_T57 l0 x5_1).f1), .string ((rd_T57 l0 x5_1).f2), .int .i64 ((rd_T57 l0 x5_1).f3), .int .i64 ((rd_T57 l0 x5_1).f4)] 57 (0, 0)) (by (with_reducible repeat (first | refine blk_drewN ?_ _ | refine blk_drew ?_ | refine blk_alloc ?_ _)); refine blk_put (cs := #[.int .i64 ((rd_T57 l0 x5_1).f0), .int .i64 ((rd_T57 l0 x5_1).f1), .string ((rd_T57 l0 x5_1).f2), .int .i64 ((rd_T57 l0 x5_1).f3), .int .i64 0]) ?_ 4 _ rfl; (with_reducible repeat (first | refine blk_drewN ?_ _ | refine blk_drew ?_ | refine blk_alloc ?_ _)); refine blk_put (cs := #[.int .i64 ((rd_T57 l0 x5_1).f0), .int .i64 ((rd_T57 l0 x5_1).f1), .string ((rd_T57 l0 x5_1).f2), .int .i64 0, .int .i64 0]) ?_ 3 _ rfl; (with_reducible repeat (first | refine blk_drewN ?_ _ | refine blk_drew ?_ | refine blk_alloc ?_ _)); refine blk_put (cs := #[.int .i64 ((rd_T57 l0 x5_1).f0), .int .i64 ((rd_T57 l0 x5_1).f1), .string ⟨#[]⟩, .int .i64 0, .int .i64 0]) ?_ 2 _ rfl; (with_reducible repeat (first | refine blk_drewN ?_ _ | refine blk_drew ?_ | refine blk_alloc ?_ _)); refine blk_put (cs := #[.int .i64 ((rd_T57 l0 x5_1).f0), .int .i64 0, .string ⟨#[]⟩, .int .i64 0, .int .i64 0]) ?_ 1 _ rfl; (with_reducible repeat (first | refine blk_drewN ?_ _ | refine blk_drew ?_ | refine blk_alloc ?_ _)); refine blk_put (cs := #[.int .i64 0, .int .i64 0, .string ⟨#[]⟩, .int .i64 0, .int .i64 0]) ?_ 0 _ rfl; (with_reducible repeat (first | refine blk_drewN ?_ _ | refine blk_drew ?_ | refine blk_alloc ?_ _)); exact BK510.out) hb); have n1_ := Aside0.mk (below_step (by repeat (first | (with_reducible first | exact HB.out | apply below_alloc | apply pw_below_drewN | apply below_drew1 | refine below_set ?_ GE510.out) | exact HB.out)) hb); have n2_ := Aside0.mk (hbox); have n3_ := Aside0.mk ((by rw [hg]; exact (below_size (by repeat (first | (with_reducible first | exact HB.out | apply below_alloc | apply pw_below_drewN | apply below_drew1 | refine below_set ?_ GE510.out) | exact HB.out))) : w.heap.size ≤ gb512)); have n4_ := Aside0.mk ((by rw [hg]; exact (below_size (by repeat (first | (with_reducible first | exact HB.out | apply below_alloc | apply pw_below_drewN | apply below_drew1 | refine below_set ?_ GE510.out) | exact HB.out))) : w.heap.size ≤ gb512)); have n5_ := Aside0.mk ((by rw [hg]; exact Nat.ne_of_lt (blk_lt (g := gb510) (o := .cells #[.int .i64 ((rd_T57 l0 x5_1).f0), .int .i64 ((rd_T57 l0 x5_1).f1), .string ((rd_T57 l0 x5_1).f2), .int .i64 ((rd_T57 l0 x5_1).f3), .int .i64 ((rd_T57 l0 x5_1).f4)] 57 (0, 0)) (by (with_reducible repeat (first | refine blk_drewN ?_ _ | refine blk_drew ?_ | refine blk_alloc ?_ _)); refine blk_put (cs := #[.int .i64 ((rd_T57 l0 x5_1).f0), .int .i64 ((rd_T57 l0 x5_1).f1), .string ((rd_T57 l0 x5_1).f2), .int .i64 ((rd_T57 l0 x5_1).f3), .int .i64 0]) ?_ 4 _ rfl; (with_reducible repeat (first | refine blk_drewN ?_ _ | refine blk_drew ?_ | refine blk_alloc ?_ _)); refine blk_put (cs := #[.int .i64 ((rd_T57 l0 x5_1).f0), .int .i64 ((rd_T57 l0 x5_1).f1), .string ((rd_T57 l0 x5_1).f2), .int .i64 0, .int .i64 0]) ?_ 3 _ rfl; (with_reducible repeat (first | refine blk_drewN ?_ _ | refine blk_drew ?_ | refine blk_alloc ?_ _)); refine blk_put (cs := #[.int .i64 ((rd_T57 l0 x5_1).f0), .int .i64 ((rd_T57 l0 x5_1).f1), .string ⟨#[]⟩, .int .i64 0, .int .i64 0]) ?_ 2 _ rfl; (with_reducible repeat (first | refine blk_drewN ?_ _ | refine blk_drew ?_ | refine blk_alloc ?_ _)); refine blk_put (cs := #[.int .i64 ((rd_T57 l0 x5_1).f0), .int .i64 0, .string ⟨#[]⟩, .int .i64 0, .int .i64 0]) ?_ 1 _ rfl; (with_reducible repeat (first | refine blk_drewN ?_ _ | refine blk_drew ?_ | refine blk_alloc ?_ _)); refine blk_put (cs := #[.int .i64 0, .int .i64 0, .string ⟨#[]⟩, .int .i64 0, .int .i64 0]) ?_ 0 _ rfl; (with_reducible repeat (first | refine blk_drewN ?_ _ | refine blk_drew ?_ | refine blk_alloc ?_ _)); exact BK510.out)) : gb510 ≠ gb512)); have n6_ := Aside0.mk ((by rw [hg]; exact Nat.ne_of_gt (blk_lt (g := gb510) (o := .cells #[.int .i64 ((rd_T57 l0 x5_1).f0), .int .i64 ((rd_T57 l0 x5_1).f1), .string ((rd_T57 l0 x5_1).f2), .int .i64 ((rd_T57 l0 x5_1).f3), .int .i64 ((rd_T57 l0 x5_1).f4)] 57 (0, 0)) (by (with_reducible repeat (first | refine blk_drewN ?_ _ | refine blk_drew ?_ | refine blk_alloc ?_ _)); refine blk_put (cs := #[.int .i64 ((rd_T57 l0 x5_1).f0), .int .i64 ((rd_T57 l0 x5_1).f1), .string ((rd_T57 l0 x5_1).f2), .int .i64 ((rd_T57 l0 x5_1).f3), .int .i64 0]) ?_ 4 _ rfl; (with_reducible repeat (first | refine blk_drewN ?_ _ | refine blk_drew ?_ | refine blk_alloc ?_ _)); refine blk_put (cs := #[.int .i64 ((rd_T57 l0 x5_1).f0), .int .i64 ((rd_T57 l0 x5_1).f1), .string ((rd_T57 l0 x5_1).f2), .int .i64 0, .int .i64 0]) ?_ 3 _ rfl; (with_reducible repeat (first | refine blk_drewN ?_ _ | refine blk_drew ?_ | refine blk_alloc ?_ _)); refine blk_put (cs := #[.int .i64 ((rd_T57 l0 x5_1).f0), .int .i64 ((rd_T57 l0 x5_1).f1), .string ⟨#[]⟩, .int .i64 0, .int .i64 0]) ?_ 2 _ rfl; (with_reducible repeat (first | refine blk_drewN ?_ _ | refine blk_drew ?_ | refine blk_alloc ?_ _)); refine blk_put (cs := #[.int .i64 ((rd_T57 l0 x5_1).f0), .int .i64 0, .string ⟨#[]⟩, .int .i64 0, .int .i64 0]) ?_ 1 _ rfl; (with_reducible repeat (first | refine blk_drewN ?_ _ | refine blk_drew ?_ | refine blk_alloc ?_ _)); refine blk_put (cs := #[.int .i64 0, .int .i64 0, .string ⟨#[]⟩, .int .i64 0, .int .i64 0]) ?_ 0 _ rfl; (with_reducible repeat (first | refine blk_drewN ?_ _ | refine blk_drew ?_ | refine blk_alloc ?_ _)); exact BK510.out)) : gb512 ≠ gb510)); clear BK510; clear HB; have BK510 := n0_; have HB := n1_; have BK512 := n2_; have GW512 := n3_; have GE512 := n4_; have NB510_512 := n5_; have NB512_510 := n6_; clear n0_ n1_ n2_ n3_ n4_ n5_ n6_; clear hb hbox hg; have hnb11 := NB512_510.out; have hnc11 := NB510_512.out; have hcz12_0 : w10.cell? ⟨gb512, 0, none⟩ = some (.int .i64 0) := (blk_cell BK512.out 0).trans rfl; have hcz12_1 : w10.cell? ⟨gb512, 1, none⟩ = some (.int .i64 0) := (blk_cell BK512.out 1).trans rfl; have hcz12_2 : w10.cell? ⟨gb512, 2, none⟩ = some (.string ⟨#[]⟩) := (blk_cell BK512.out 2).trans rfl; have hcz12_3 : w10.cell? ⟨gb512, 3, none⟩ = some (.int .i64 0) := (blk_cell BK512.out 3).trans rfl; have hcz12_4 : w10.cell? ⟨gb512, 4, none⟩ = some (.int .i64 0) := (blk_cell BK512.out 4).trans rfl; have hfz12_0 := blk_frozen BK512.out 0; have hfz12_1 := blk_frozen BK512.out 1; have hfz12_2 := blk_frozen BK512.out 2; have hfz12_3 := blk_frozen BK512.out 3; have hfz12_4 := blk_frozen BK512.out 4; have hcz13_0 : w10.cell? ⟨gb510, 0, none⟩ = some (.int .i64 ((rd_T57 l0 x5_1).f0)) := (blk_cell BK510.out 0).trans rfl; have hcz13_1 : w10.cell? ⟨gb510, 1, none⟩ = some (.int .i64 ((rd_T57 l0 x5_1).f1)) := (blk_cell BK510.out 1).trans rfl; have hcz13_2 : w10.cell? ⟨gb510, 2, none⟩ = some (.string ((rd_T57 l0 x5_1).f2)) := (blk_cell BK510.out 2).trans rfl; have hcz13_3 : w10.cell? ⟨gb510, 3, none⟩ = some (.int .i64 ((rd_T57 l0 x5_1).f3)) := (blk_cell BK510.out 3).trans rfl; have hcz13_4 : w10.cell? ⟨gb510, 4, none⟩ = some (.int .i64 ((rd_T57 l0 x5_1).f4)) := (blk_cell BK510.out 4).trans rfl; have hfz13_0 := blk_frozen BK510.out 0; have hfz13_1 := blk_frozen BK510.out 1; have hfz13_2 := blk_frozen BK510.out 2; have hfz13_3 := blk_frozen BK510.out 3; have hfz13_4 := blk_frozen BK510.out 4))
        go_ret
        exact ⟨by first | rfl | (simp [errW_none, errW_some] <;> rfl) | (simp [*, errW_none, errW_some] <;> rfl), by repeat (first | (with_reducible first | exact HB.out | apply below_alloc | apply pw_below_drewN | apply below_drew1 | refine below_set ?_ GE510.out | refine below_set ?_ GE512.out) | exact HB.out)⟩
       ·rw [if_neg c7] at H
        have c7b0 : (!(((rd_T57 l0 x5_1).f0) == ((rd_T57 l1 x5_1).f0)) || (!(((rd_T57 l0 x5_1).f1) == ((rd_T57 l1 x5_1).f1)) || (!((((rd_T57 l0 x5_1).f2).toList) == (((rd_T57 l1 x5_1).f2).toList)) || (!(((rd_T57 l0 x5_1).f3) == ((rd_T57 l1 x5_1).f3)) || (!(((rd_T57 l0 x5_1).f4) == ((rd_T57 l1 x5_1).f4))))))) = false := by simpa using c7
        clear c7
        have H' := Aside0.mk H
        clear H
        have p509 : 0 ≤ (x5_1 : Int) := of_decide_eq_true (by assumption)
        have q509 : x5_1 < (l0.length : Int) := of_decide_eq_true (by assumption)
        obtain ⟨ad509, e509, hx509_0, hx509_1, hx509_2, hx509_3, hx509_4⟩ := at_T57 HR0.out x5_1 p509 q509
        cases e509
        replace hx509_0 := (HB.out.cell (World.block_lt_of_cell? w _ hx509_0)).trans hx509_0
        replace hx509_1 := (HB.out.cell (World.block_lt_of_cell? w _ hx509_1)).trans hx509_1
        replace hx509_2 := (HB.out.cell (World.block_lt_of_cell? w _ hx509_2)).trans hx509_2
        replace hx509_3 := (HB.out.cell (World.block_lt_of_cell? w _ hx509_3)).trans hx509_3
        replace hx509_4 := (HB.out.cell (World.block_lt_of_cell? w _ hx509_4)).trans hx509_4
        replace p509 := eq_true p509
        replace q509 := eq_true q509
        go_wp2_with (first | ((with_reducible refine gate_dst (N := 6) rfl ?_); refine box_event ?hg (N := 6) ?hd (cs := #[.int .i64 0, .int .i64 0, .string ⟨#[]⟩, .int .i64 0, .int .i64 0]) (t := 57) ?hr ?_; (case hd => rfl); (case hg => rfl); (case hr => first | (go_simp; done) | (go_simp; rfl)); intro gb510 hg w14 hbox hb; have n0_ := Aside0.mk (below_step (by repeat (first | (with_reducible first | exact HB.out | apply below_alloc | apply pw_below_drewN | apply below_drew1) | exact HB.out)) hb); have n1_ := Aside0.mk (hbox); have n2_ := Aside0.mk ((by rw [hg]; exact (below_size (by repeat (first | (with_reducible first | exact HB.out | apply below_alloc | apply pw_below_drewN | apply below_drew1) | exact HB.out))) : w.heap.size ≤ gb510)); have n3_ := Aside0.mk ((by rw [hg]; exact (below_size (by repeat (first | (with_reducible first | exact HB.out | apply below_alloc | apply pw_below_drewN | apply below_drew1) | exact HB.out))) : w.heap.size ≤ gb510)); clear HB; have HB := n0_; have BK510 := n1_; have GW510 := n2_; have GE510 := n3_; clear n0_ n1_ n2_ n3_; clear hb hbox hg; have hcz15_0 : w14.cell? ⟨gb510, 0, none⟩ = some (.int .i64 0) := (blk_cell BK510.out 0).trans rfl; have hcz15_1 : w14.cell? ⟨gb510, 1, none⟩ = some (.int .i64 0) := (blk_cell BK510.out 1).trans rfl; have hcz15_2 : w14.cell? ⟨gb510, 2, none⟩ = some (.string ⟨#[]⟩) := (blk_cell BK510.out 2).trans rfl; have hcz15_3 : w14.cell? ⟨gb510, 3, none⟩ = some (.int .i64 0) := (blk_cell BK510.out 3).trans rfl; have hcz15_4 : w14.cell? ⟨gb510, 4, none⟩ = some (.int .i64 0) := (blk_cell BK510.out 4).trans rfl; have hfz15_0 := blk_frozen BK510.out 0; have hfz15_1 := blk_frozen BK510.out 1; have hfz15_2 := blk_frozen BK510.out 2; have hfz15_3 := blk_frozen BK510.out 3; have hfz15_4 := blk_frozen BK510.out 4; have p511 : 0 ≤ (x5_1 : Int) := of_decide_eq_true (by assumption); have q511 : x5_1 < (l1.length : Int) := of_decide_eq_true (by assumption); obtain ⟨ad511, e511, hx511_0, hx511_1, hx511_2, hx511_3, hx511_4⟩ := at_T57 HR1.out x5_1 p511 q511; cases e511; have hn511_0 : ad511.block ≠ gb510 := Nat.ne_of_lt (Nat.lt_of_lt_of_le (by have := World.block_lt_of_cell? _ _ hx511_0; first | rwa [add_block] at this | exact this) GW510.out); have hn511_1 : ad511.block ≠ gb510 := Nat.ne_of_lt (Nat.lt_of_lt_of_le (by have := World.block_lt_of_cell? _ _ hx511_0; first | rwa [add_block] at this | exact this) GW510.out); have hn511_2 : ad511.block ≠ gb510 := Nat.ne_of_lt (Nat.lt_of_lt_of_le (by have := World.block_lt_of_cell? _ _ hx511_0; first | rwa [add_block] at this | exact this) GW510.out); have hn511_3 : ad511.block ≠ gb510 := Nat.ne_of_lt (Nat.lt_of_lt_of_le (by have := World.block_lt_of_cell? _ _ hx511_0; first | rwa [add_block] at this | exact this) GW510.out); have hn511_4 : ad511.block ≠ gb510 := Nat.ne_of_lt (Nat.lt_of_lt_of_le (by have := World.block_lt_of_cell? _ _ hx511_0; first | rwa [add_block] at this | exact this) GW510.out); replace hx511_0 := (HB.out.cell (World.block_lt_of_cell? w _ hx511_0)).trans hx511_0; replace hx511_1 := (HB.out.cell (World.block_lt_of_cell? w _ hx511_1)).trans hx511_1; replace hx511_2 := (HB.out.cell (World.block_lt_of_cell? w _ hx511_2)).trans hx511_2; replace hx511_3 := (HB.out.cell (World.block_lt_of_cell? w _ hx511_3)).trans hx511_3; replace hx511_4 := (HB.out.cell (World.block_lt_of_cell? w _ hx511_4)).trans hx511_4; replace hx511_0 := (cell_far (p := ⟨gb510, 0, none⟩) (by first | (rw [add_block]; exact hn511_0) | (show (Addr.add _ _).block ≠ _; rw [add_block]; exact hn511_0) | exact hn511_0) (.int .i64 ((rd_T57 l0 x5_1).f0))).trans hx511_0; replace hx511_1 := (cell_far (p := ⟨gb510, 0, none⟩) (by first | (rw [add_block]; exact hn511_0) | (show (Addr.add _ _).block ≠ _; rw [add_block]; exact hn511_0) | exact hn511_0) (.int .i64 ((rd_T57 l0 x5_1).f0))).trans hx511_1; replace hx511_2 := (cell_far (p := ⟨gb510, 0, none⟩) (by first | (rw [add_block]; exact hn511_0) | (show (Addr.add _ _).block ≠ _; rw [add_block]; exact hn511_0) | exact hn511_0) (.int .i64 ((rd_T57 l0 x5_1).f0))).trans hx511_2; replace hx511_3 := (cell_far (p := ⟨gb510, 0, none⟩) (by first | (rw [add_block]; exact hn511_0) | (show (Addr.add _ _).block ≠ _; rw [add_block]; exact hn511_0) | exact hn511_0) (.int .i64 ((rd_T57 l0 x5_1).f0))).trans hx511_3; replace hx511_4 := (cell_far (p := ⟨gb510, 0, none⟩) (by first | (rw [add_block]; exact hn511_0) | (show (Addr.add _ _).block ≠ _; rw [add_block]; exact hn511_0) | exact hn511_0) (.int .i64 ((rd_T57 l0 x5_1).f0))).trans hx511_4; replace hx511_0 := (cell_far (p := ⟨gb510, 1, none⟩) (by first | (rw [add_block]; exact hn511_1) | (show (Addr.add _ _).block ≠ _; rw [add_block]; exact hn511_1) | exact hn511_1) (.int .i64 ((rd_T57 l0 x5_1).f1))).trans hx511_0; replace hx511_1 := (cell_far (p := ⟨gb510, 1, none⟩) (by first | (rw [add_block]; exact hn511_1) | (show (Addr.add _ _).block ≠ _; rw [add_block]; exact hn511_1) | exact hn511_1) (.int .i64 ((rd_T57 l0 x5_1).f1))).trans hx511_1; replace hx511_2 := (cell_far (p := ⟨gb510, 1, none⟩) (by first | (rw [add_block]; exact hn511_1) | (show (Addr.add _ _).block ≠ _; rw [add_block]; exact hn511_1) | exact hn511_1) (.int .i64 ((rd_T57 l0 x5_1).f1))).trans hx511_2; replace hx511_3 := (cell_far (p := ⟨gb510, 1, none⟩) (by first | (rw [add_block]; exact hn511_1) | (show (Addr.add _ _).block ≠ _; rw [add_block]; exact hn511_1) | exact hn511_1) (.int .i64 ((rd_T57 l0 x5_1).f1))).trans hx511_3; replace hx511_4 := (cell_far (p := ⟨gb510, 1, none⟩) (by first | (rw [add_block]; exact hn511_1) | (show (Addr.add _ _).block ≠ _; rw [add_block]; exact hn511_1) | exact hn511_1) (.int .i64 ((rd_T57 l0 x5_1).f1))).trans hx511_4; replace hx511_0 := (cell_far (p := ⟨gb510, 2, none⟩) (by first | (rw [add_block]; exact hn511_2) | (show (Addr.add _ _).block ≠ _; rw [add_block]; exact hn511_2) | exact hn511_2) (.string ((rd_T57 l0 x5_1).f2))).trans hx511_0; replace hx511_1 := (cell_far (p := ⟨gb510, 2, none⟩) (by first | (rw [add_block]; exact hn511_2) | (show (Addr.add _ _).block ≠ _; rw [add_block]; exact hn511_2) | exact hn511_2) (.string ((rd_T57 l0 x5_1).f2))).trans hx511_1; replace hx511_2 := (cell_far (p := ⟨gb510, 2, none⟩) (by first | (rw [add_block]; exact hn511_2) | (show (Addr.add _ _).block ≠ _; rw [add_block]; exact hn511_2) | exact hn511_2) (.string ((rd_T57 l0 x5_1).f2))).trans hx511_2; replace hx511_3 := (cell_far (p := ⟨gb510, 2, none⟩) (by first | (rw [add_block]; exact hn511_2) | (show (Addr.add _ _).block ≠ _; rw [add_block]; exact hn511_2) | exact hn511_2) (.string ((rd_T57 l0 x5_1).f2))).trans hx511_3; replace hx511_4 := (cell_far (p := ⟨gb510, 2, none⟩) (by first | (rw [add_block]; exact hn511_2) | (show (Addr.add _ _).block ≠ _; rw [add_block]; exact hn511_2) | exact hn511_2) (.string ((rd_T57 l0 x5_1).f2))).trans hx511_4; replace hx511_0 := (cell_far (p := ⟨gb510, 3, none⟩) (by first | (rw [add_block]; exact hn511_3) | (show (Addr.add _ _).block ≠ _; rw [add_block]; exact hn511_3) | exact hn511_3) (.int .i64 ((rd_T57 l0 x5_1).f3))).trans hx511_0; replace hx511_1 := (cell_far (p := ⟨gb510, 3, none⟩) (by first | (rw [add_block]; exact hn511_3) | (show (Addr.add _ _).block ≠ _; rw [add_block]; exact hn511_3) | exact hn511_3) (.int .i64 ((rd_T57 l0 x5_1).f3))).trans hx511_1; replace hx511_2 := (cell_far (p := ⟨gb510, 3, none⟩) (by first | (rw [add_block]; exact hn511_3) | (show (Addr.add _ _).block ≠ _; rw [add_block]; exact hn511_3) | exact hn511_3) (.int .i64 ((rd_T57 l0 x5_1).f3))).trans hx511_2; replace hx511_3 := (cell_far (p := ⟨gb510, 3, none⟩) (by first | (rw [add_block]; exact hn511_3) | (show (Addr.add _ _).block ≠ _; rw [add_block]; exact hn511_3) | exact hn511_3) (.int .i64 ((rd_T57 l0 x5_1).f3))).trans hx511_3; replace hx511_4 := (cell_far (p := ⟨gb510, 3, none⟩) (by first | (rw [add_block]; exact hn511_3) | (show (Addr.add _ _).block ≠ _; rw [add_block]; exact hn511_3) | exact hn511_3) (.int .i64 ((rd_T57 l0 x5_1).f3))).trans hx511_4; replace hx511_0 := (cell_far (p := ⟨gb510, 4, none⟩) (by first | (rw [add_block]; exact hn511_4) | (show (Addr.add _ _).block ≠ _; rw [add_block]; exact hn511_4) | exact hn511_4) (.int .i64 ((rd_T57 l0 x5_1).f4))).trans hx511_0; replace hx511_1 := (cell_far (p := ⟨gb510, 4, none⟩) (by first | (rw [add_block]; exact hn511_4) | (show (Addr.add _ _).block ≠ _; rw [add_block]; exact hn511_4) | exact hn511_4) (.int .i64 ((rd_T57 l0 x5_1).f4))).trans hx511_1; replace hx511_2 := (cell_far (p := ⟨gb510, 4, none⟩) (by first | (rw [add_block]; exact hn511_4) | (show (Addr.add _ _).block ≠ _; rw [add_block]; exact hn511_4) | exact hn511_4) (.int .i64 ((rd_T57 l0 x5_1).f4))).trans hx511_2; replace hx511_3 := (cell_far (p := ⟨gb510, 4, none⟩) (by first | (rw [add_block]; exact hn511_4) | (show (Addr.add _ _).block ≠ _; rw [add_block]; exact hn511_4) | exact hn511_4) (.int .i64 ((rd_T57 l0 x5_1).f4))).trans hx511_3; replace hx511_4 := (cell_far (p := ⟨gb510, 4, none⟩) (by first | (rw [add_block]; exact hn511_4) | (show (Addr.add _ _).block ≠ _; rw [add_block]; exact hn511_4) | exact hn511_4) (.int .i64 ((rd_T57 l0 x5_1).f4))).trans hx511_4; clear hn511_0; clear hn511_1; clear hn511_2; clear hn511_3; clear hn511_4; replace p511 := eq_true p511; replace q511 := eq_true q511) | ((with_reducible refine gate_dst (N := 7) rfl ?_); refine box_event ?hg (N := 7) ?hd (cs := #[.int .i64 0, .int .i64 0, .string ⟨#[]⟩, .int .i64 0, .int .i64 0]) (t := 57) ?hr ?_; (case hd => rfl); (case hg => rfl); (case hr => first | (go_simp; done) | (go_simp; rfl)); intro gb512 hg w16 hbox hb; have n0_ := Aside0.mk (blk_below (g := gb510) (o := .cells #[.int .i64 ((rd_T57 l0 x5_1).f0), .int .i64 ((rd_T57 l0 x5_1).f1), .string ((rd_T57 l0 x5_1).f2), .int .i64 ((rd_T57 l0 x5_1).f3), .int .i64 ((rd_T57 l0 x5_1).f4)] 57 (0, 0)) (by (with_reducible repeat (first | refine blk_drewN ?_ _ | refine blk_drew ?_ | refine blk_alloc ?_ _)); refine blk_put (cs := #[.int .i64 ((rd_T57 l0 x5_1).f0), .int .i64 ((rd_T57 l0 x5_1).f1), .string ((rd_T57 l0 x5_1).f2), .int .i64 ((rd_T57 l0 x5_1).f3), .int .i64 0]) ?_ 4 _ rfl; (with_reducible repeat (first | refine blk_drewN ?_ _ | refine blk_drew ?_ | refine blk_alloc ?_ _)); refine blk_put (cs := #[.int .i64 ((rd_T57 l0 x5_1).f0), .int .i64 ((rd_T57 l0 x5_1).f1), .string ((rd_T57 l0 x5_1).f2), .int .i64 0, .int .i64 0]) ?_ 3 _ rfl; (with_reducible repeat (first | refine blk_drewN ?_ _ | refine blk_drew ?_ | refine blk_alloc ?_ _)); refine blk_put (cs := #[.int .i64 ((rd_T57 l0 x5_1).f0), .int .i64 ((rd_T57 l0 x5_1).f1), .string ⟨#[]⟩, .int .i64 0, .int .i64 0]) ?_ 2 _ rfl; (with_reducible repeat (first | refine blk_drewN ?_ _ | refine blk_drew ?_ | refine blk_alloc ?_ _)); refine blk_put (cs := #[.int .i64 ((rd_T57 l0 x5_1).f0), .int .i64 0, .string ⟨#[]⟩, .int .i64 0, .int .i64 0]) ?_ 1 _ rfl; (with_reducible repeat (first | refine blk_drewN ?_ _ | refine blk_drew ?_ | refine blk_alloc ?_ _)); refine blk_put (cs := #[.int .i64 0, .int .i64 0, .string ⟨#[]⟩, .int .i64 0, .int .i64 0]) ?_ 0 _ rfl; (with_reducible repeat (first | refine blk_drewN ?_ _ | refine blk_drew ?_ | refine blk_alloc ?_ _)); exact BK510.out) hb); have n1_ := Aside0.mk (below_step (by repeat (first | (with_reducible first | exact HB.out | apply below_alloc | apply pw_below_drewN | apply below_drew1 | refine below_set ?_ GE510.out) | exact HB.out)) hb); have n2_ := Aside0.mk (hbox); have n3_ := Aside0.mk ((by rw [hg]; exact (below_size (by repeat (first | (with_reducible first | exact HB.out | apply below_alloc | apply pw_below_drewN | apply below_drew1 | refine below_set ?_ GE510.out) | exact HB.out))) : w.heap.size ≤ gb512)); have n4_ := Aside0.mk ((by rw [hg]; exact (below_size (by repeat (first | (with_reducible first | exact HB.out | apply below_alloc | apply pw_below_drewN | apply below_drew1 | refine below_set ?_ GE510.out) | exact HB.out))) : w.heap.size ≤ gb512)); have n5_ := Aside0.mk ((by rw [hg]; exact Nat.ne_of_lt (blk_lt (g := gb510) (o := .cells #[.int .i64 ((rd_T57 l0 x5_1).f0), .int .i64 ((rd_T57 l0 x5_1).f1), .string ((rd_T57 l0 x5_1).f2), .int .i64 ((rd_T57 l0 x5_1).f3), .int .i64 ((rd_T57 l0 x5_1).f4)] 57 (0, 0)) (by (with_reducible repeat (first | refine blk_drewN ?_ _ | refine blk_drew ?_ | refine blk_alloc ?_ _)); refine blk_put (cs := #[.int .i64 ((rd_T57 l0 x5_1).f0), .int .i64 ((rd_T57 l0 x5_1).f1), .string ((rd_T57 l0 x5_1).f2), .int .i64 ((rd_T57 l0 x5_1).f3), .int .i64 0]) ?_ 4 _ rfl; (with_reducible repeat (first | refine blk_drewN ?_ _ | refine blk_drew ?_ | refine blk_alloc ?_ _)); refine blk_put (cs := #[.int .i64 ((rd_T57 l0 x5_1).f0), .int .i64 ((rd_T57 l0 x5_1).f1), .string ((rd_T57 l0 x5_1).f2), .int .i64 0, .int .i64 0]) ?_ 3 _ rfl; (with_reducible repeat (first | refine blk_drewN ?_ _ | refine blk_drew ?_ | refine blk_alloc ?_ _)); refine blk_put (cs := #[.int .i64 ((rd_T57 l0 x5_1).f0), .int .i64 ((rd_T57 l0 x5_1).f1), .string ⟨#[]⟩, .int .i64 0, .int .i64 0]) ?_ 2 _ rfl; (with_reducible repeat (first | refine blk_drewN ?_ _ | refine blk_drew ?_ | refine blk_alloc ?_ _)); refine blk_put (cs := #[.int .i64 ((rd_T57 l0 x5_1).f0), .int .i64 0, .string ⟨#[]⟩, .int .i64 0, .int .i64 0]) ?_ 1 _ rfl; (with_reducible repeat (first | refine blk_drewN ?_ _ | refine blk_drew ?_ | refine blk_alloc ?_ _)); refine blk_put (cs := #[.int .i64 0, .int .i64 0, .string ⟨#[]⟩, .int .i64 0, .int .i64 0]) ?_ 0 _ rfl; (with_reducible repeat (first | refine blk_drewN ?_ _ | refine blk_drew ?_ | refine blk_alloc ?_ _)); exact BK510.out)) : gb510 ≠ gb512)); have n6_ := Aside0.mk ((by rw [hg]; exact Nat.ne_of_gt (blk_lt (g := gb510) (o := .cells #[.int .i64 ((rd_T57 l0 x5_1).f0), .int .i64 ((rd_T57 l0 x5_1).f1), .string ((rd_T57 l0 x5_1).f2), .int .i64 ((rd_T57 l0 x5_1).f3), .int .i64 ((rd_T57 l0 x5_1).f4)] 57 (0, 0)) (by (with_reducible repeat (first | refine blk_drewN ?_ _ | refine blk_drew ?_ | refine blk_alloc ?_ _)); refine blk_put (cs := #[.int .i64 ((rd_T57 l0 x5_1).f0), .int .i64 ((rd_T57 l0 x5_1).f1), .string ((rd_T57 l0 x5_1).f2), .int .i64 ((rd_T57 l0 x5_1).f3), .int .i64 0]) ?_ 4 _ rfl; (with_reducible repeat (first | refine blk_drewN ?_ _ | refine blk_drew ?_ | refine blk_alloc ?_ _)); refine blk_put (cs := #[.int .i64 ((rd_T57 l0 x5_1).f0), .int .i64 ((rd_T57 l0 x5_1).f1), .string ((rd_T57 l0 x5_1).f2), .int .i64 0, .int .i64 0]) ?_ 3 _ rfl; (with_reducible repeat (first | refine blk_drewN ?_ _ | refine blk_drew ?_ | refine blk_alloc ?_ _)); refine blk_put (cs := #[.int .i64 ((rd_T57 l0 x5_1).f0), .int .i64 ((rd_T57 l0 x5_1).f1), .string ⟨#[]⟩, .int .i64 0, .int .i64 0]) ?_ 2 _ rfl; (with_reducible repeat (first | refine blk_drewN ?_ _ | refine blk_drew ?_ | refine blk_alloc ?_ _)); refine blk_put (cs := #[.int .i64 ((rd_T57 l0 x5_1).f0), .int .i64 0, .string ⟨#[]⟩, .int .i64 0, .int .i64 0]) ?_ 1 _ rfl; (with_reducible repeat (first | refine blk_drewN ?_ _ | refine blk_drew ?_ | refine blk_alloc ?_ _)); refine blk_put (cs := #[.int .i64 0, .int .i64 0, .string ⟨#[]⟩, .int .i64 0, .int .i64 0]) ?_ 0 _ rfl; (with_reducible repeat (first | refine blk_drewN ?_ _ | refine blk_drew ?_ | refine blk_alloc ?_ _)); exact BK510.out)) : gb512 ≠ gb510)); clear BK510; clear HB; have BK510 := n0_; have HB := n1_; have BK512 := n2_; have GW512 := n3_; have GE512 := n4_; have NB510_512 := n5_; have NB512_510 := n6_; clear n0_ n1_ n2_ n3_ n4_ n5_ n6_; clear hb hbox hg; have hnb17 := NB512_510.out; have hnc17 := NB510_512.out; have hcz18_0 : w16.cell? ⟨gb512, 0, none⟩ = some (.int .i64 0) := (blk_cell BK512.out 0).trans rfl; have hcz18_1 : w16.cell? ⟨gb512, 1, none⟩ = some (.int .i64 0) := (blk_cell BK512.out 1).trans rfl; have hcz18_2 : w16.cell? ⟨gb512, 2, none⟩ = some (.string ⟨#[]⟩) := (blk_cell BK512.out 2).trans rfl; have hcz18_3 : w16.cell? ⟨gb512, 3, none⟩ = some (.int .i64 0) := (blk_cell BK512.out 3).trans rfl; have hcz18_4 : w16.cell? ⟨gb512, 4, none⟩ = some (.int .i64 0) := (blk_cell BK512.out 4).trans rfl; have hfz18_0 := blk_frozen BK512.out 0; have hfz18_1 := blk_frozen BK512.out 1; have hfz18_2 := blk_frozen BK512.out 2; have hfz18_3 := blk_frozen BK512.out 3; have hfz18_4 := blk_frozen BK512.out 4; have hcz19_0 : w16.cell? ⟨gb510, 0, none⟩ = some (.int .i64 ((rd_T57 l0 x5_1).f0)) := (blk_cell BK510.out 0).trans rfl; have hcz19_1 : w16.cell? ⟨gb510, 1, none⟩ = some (.int .i64 ((rd_T57 l0 x5_1).f1)) := (blk_cell BK510.out 1).trans rfl; have hcz19_2 : w16.cell? ⟨gb510, 2, none⟩ = some (.string ((rd_T57 l0 x5_1).f2)) := (blk_cell BK510.out 2).trans rfl; have hcz19_3 : w16.cell? ⟨gb510, 3, none⟩ = some (.int .i64 ((rd_T57 l0 x5_1).f3)) := (blk_cell BK510.out 3).trans rfl; have hcz19_4 : w16.cell? ⟨gb510, 4, none⟩ = some (.int .i64 ((rd_T57 l0 x5_1).f4)) := (blk_cell BK510.out 4).trans rfl; have hfz19_0 := blk_frozen BK510.out 0; have hfz19_1 := blk_frozen BK510.out 1; have hfz19_2 := blk_frozen BK510.out 2; have hfz19_3 := blk_frozen BK510.out 3; have hfz19_4 := blk_frozen BK510.out 4))
        go_roundg k1
        case measure => have := HK1.out; omega
        case rel => exact ⟨(wrap64 (x5_1 + 1)), (by first | rfl | (simp [*]; done)), H', ⟨by have := HK1.out; omega⟩, ⟨by repeat (first | (with_reducible first | exact HB.out | apply below_alloc | apply pw_below_drewN | apply below_drew1 | refine below_set ?_ GE510.out | refine below_set ?_ GE512.out) | exact HB.out)⟩⟩
      ·rw [if_neg c6] at H
       exact absurd H (by simp)
     ·rw [if_neg c5] at H
      exact absurd H (by simp)
    ·rw [if_neg c4] at H
     have c4b0 : decide (x5_1 < (l0.length : Int)) = false := decide_eq_false c4
     clear c4
     obtain rfl := Option.some.inj H
     go_wp2
     go_ret
     exact ⟨by first | rfl | (simp [errW_none, errW_some] <;> rfl) | (simp [*, errW_none, errW_some] <;> rfl), by repeat (first | (with_reducible first | exact HB.out | apply below_alloc | apply pw_below_drewN | apply below_drew1) | exact HB.out)⟩
 ·rw [if_neg c3] at H
  have c3b0 : ((l0.length : Int) == (l1.length : Int)) = false := beq_eq_false_iff_ne.mpr c3
  have c3b1 : ((l0.length : Int) != (l1.length : Int)) = true := bne_iff_ne.mpr c3
  have c3b2 : (l0.length == l1.length) = false := by first | simpa using c3 | (simp at c3 ⊢; omega)
  obtain rfl := Option.some.inj H
  go_enter Tryz.func95, Tryz.ntmps95
  go_wp2
  go_ret
  exact ⟨by first | rfl | (simp [errW_none, errW_some] <;> rfl) | (simp [*, errW_none, errW_some] <;> rfl), by repeat (first | (with_reducible first | exact HB.out | apply below_alloc | apply pw_below_drewN | apply below_drew1) | exact HB.out)⟩
end Go.Proofs.YtjlclkenfmbahaaGreatDoor.PA
end
section
namespace Go.Proofs.YtjlclkenfmbahaaGreatDoor.PA
open Go.RowKit Go.Proofs.YtjlclkenfmbahaaGreatDoorW.PrintWords Go.Proofs.YtjlclkenfmbahaaGreatDoorW.PrintLast Go.Proofs.YtjlclkenfmbahaaGreatDoorW.PrintMore
attribute [local go_sem] max2_int min2_int max_two min_two max_three min_three max_four min_four
def words_of.f (a0 : Int) : Option (Int) := if (wrap64 (a0)) < 128 then (if 0 ≤ a0 then (if a0 < 128 then (some (rd tab1 a0)) else (none)) else (none)) else (some 0)
set_option maxHeartbeats 8000000 in
set_option maxRecDepth 100000 in
theorem words_of.calls (a0 : Int) (r : Int) (w : World) (hT : Tabs w) (h : words_of.f a0 = some r) :
  Calls Tryz.prog 115 #[.int .u8 a0] w fun e w' => e = .returned (.int .u8 r) ∧ Drawn0 w w' := by
 have HT := Aside0.mk hT
 clear hT
 have H : (if (wrap64 (a0)) < 128 then (if 0 ≤ a0 then (if a0 < 128 then (some (rd tab1 a0)) else (none)) else (none)) else (some 0)) = some r := h
 clear h
 by_cases c2 : (wrap64 (a0)) < 128
 ·rw [if_pos c2] at H
  have c2b0 : decide ((wrap64 (a0)) < 128) = true := decide_eq_true c2
  clear c2
  by_cases c3 : 0 ≤ a0
  ·rw [if_pos c3] at H
   have c3b0 : decide (0 ≤ a0) = true := decide_eq_true c3
   clear c3
   by_cases c4 : a0 < 128
   ·rw [if_pos c4] at H
    have c4b0 : decide (a0 < 128) = true := decide_eq_true c4
    clear c4
    obtain rfl := Option.some.inj H
    have p5 : 0 ≤ (a0 : Int) := of_decide_eq_true (by assumption)
    have q5 : a0 < 128 := of_decide_eq_true (by assumption)
    have hx5_0 := (HT.out).c1 a0 p5 q5
    replace p5 := eq_true p5
    replace q5 := eq_true q5
    go_enter Tryz.func115, Tryz.ntmps115
    go_wp2
    go_ret
    exact ⟨by first | rfl | (simp [*]; done), by repeat (first | exact Drawn0.refl _ | apply Drawn0.step)⟩
   ·rw [if_neg c4] at H
    exact absurd H (by simp)
  ·rw [if_neg c3] at H
   exact absurd H (by simp)
 ·rw [if_neg c2] at H
  have c2b0 : decide ((wrap64 (a0)) < 128) = false := decide_eq_false c2
  clear c2
  obtain rfl := Option.some.inj H
  go_enter Tryz.func115, Tryz.ntmps115
  go_wp2
  go_ret
  exact ⟨by first | rfl | (simp [*]; done), by repeat (first | exact Drawn0.refl _ | apply Drawn0.step)⟩
def IsS88 (w0 W : World) (g : Nat) (f0 : ByteArray) (f1 : Int) (f2 : Bool) (f3 : Int) (f4 : Int) : Prop := W.heap[g]? = some (.cells #[.string f0, .int .i64 f1, .bool f2, .int .i64 f3, .int .i64 f4] 88 (0, 0)) ∧ w0.heap.size ≤ g
theorem IsS88.grown {w0 W : World} {g : Nat} {f0 : ByteArray} {f1 : Int} {f2 : Bool} {f3 : Int} {f4 : Int} {W1 : World} {row : Option Nat} (h : IsS88 w0 W g f0 f1 f2 f3 f4) (hw : W.grownBy W1 row) (hne : some g ≠ row) : IsS88 w0 W1 g f0 f1 f2 f3 f4 := by
 obtain ⟨hb, hg⟩ := h
 exact ⟨blk_grown hb hw hne, hg⟩
theorem IsS88.below {w0 W : World} {g : Nat} {f0 : ByteArray} {f1 : Int} {f2 : Bool} {f3 : Int} {f4 : Int} {W1 : World} (h : IsS88 w0 W g f0 f1 f2 f3 f4) (hw : Below W.heap.size W W1) : IsS88 w0 W1 g f0 f1 f2 f3 f4 := h.grown (grown_of_below hw none) (by simp)
theorem IsS88.alloc {w0 W : World} {g : Nat} {f0 : ByteArray} {f1 : Int} {f2 : Bool} {f3 : Int} {f4 : Int} (h : IsS88 w0 W g f0 f1 f2 f3 f4) (o : Obj) : IsS88 w0 (W.alloc o) g f0 f1 f2 f3 f4 := h.below (below_alloc (Below.refl _ _) o)
theorem IsS88.drewN {w0 W : World} {g : Nat} {f0 : ByteArray} {f1 : Int} {f2 : Bool} {f3 : Int} {f4 : Int} (h : IsS88 w0 W g f0 f1 f2 f3 f4) (m : Nat) : IsS88 w0 (W.drewN m) g f0 f1 f2 f3 f4 := h
theorem IsS88.drew {w0 W : World} {g : Nat} {f0 : ByteArray} {f1 : Int} {f2 : Bool} {f3 : Int} {f4 : Int} (h : IsS88 w0 W g f0 f1 f2 f3 f4) : IsS88 w0 W.drew g f0 f1 f2 f3 f4 := h
theorem IsS88.at_ {w0 W : World} {g : Nat} {f0 : ByteArray} {f1 : Int} {f2 : Bool} {f3 : Int} {f4 : Int} {w' : World} {m : Nat} (hq : W.drewN m = w') (h : IsS88 w0 W g f0 f1 f2 f3 f4) : IsS88 w0 w' g f0 f1 f2 f3 f4 := by subst hq; exact IsS88.drewN h m
theorem IsS88.apart {w0 W : World} {g : Nat} {f0 : ByteArray} {f1 : Int} {f2 : Bool} {f3 : Int} {f4 : Int} {α : Type} {d : Kd α} {e : Nat} {base : Nat} {ok : Nat → Prop} {v : Value} {xs : List α} (h : IsS88 w0 W g f0 f1 f2 f3 f4) (ho : d.R e W base ok v xs) (ht : ∀ q, q ∈ e :: d.E → q ≠ 88) : d.R e W base (fun k => ok k ∧ k ≠ g) v xs := by
 obtain ⟨hb, hg⟩ := h
 exact Kd.R_types ho hb ht
theorem IsS88.own_ne {w0 W : World} {g : Nat} {f0 : ByteArray} {f1 : Int} {f2 : Bool} {f3 : Int} {f4 : Int} {α : Type} {d : Kd α} {e : Nat} {base : Nat} {ok : Nat → Prop} {v : Value} {xs : List α} (h : IsS88 w0 W g f0 f1 f2 f3 f4) (ho : d.R e W base ok v xs) (ht : e ≠ 88) : some g ≠ v.ownBlock := by
 obtain ⟨hb, hg⟩ := h
 exact Kd.R_ne ho hb ht
theorem IsS88.lt {w0 W : World} {g : Nat} {f0 : ByteArray} {f1 : Int} {f2 : Bool} {f3 : Int} {f4 : Int} (h : IsS88 w0 W g f0 f1 f2 f3 f4) : g < W.heap.size := by
 obtain ⟨hb, hg⟩ := h
 exact blk_lt hb
theorem IsS88.ge {w0 W : World} {g : Nat} {f0 : ByteArray} {f1 : Int} {f2 : Bool} {f3 : Int} {f4 : Int} (h : IsS88 w0 W g f0 f1 f2 f3 f4) : w0.heap.size ≤ g := by
 obtain ⟨hb, hg⟩ := h
 exact hg
theorem IsS88.far {w0 W : World} {g : Nat} {f0 : ByteArray} {f1 : Int} {f2 : Bool} {f3 : Int} {f4 : Int} {p : Addr} (h : IsS88 w0 W g f0 f1 f2 f3 f4) (hne : g ≠ p.block) (u : Value) : IsS88 w0 (W.setCell p u) g f0 f1 f2 f3 f4 := by
 obtain ⟨hb, hg⟩ := h
 exact ⟨blk_far hb hne u, hg⟩
theorem cellS88_0 {W : World} {g : Nat} {f0 : ByteArray} {f1 : Int} {f2 : Bool} {f3 : Int} {f4 : Int} (h : W.heap[g]? = some (.cells #[.string f0, .int .i64 f1, .bool f2, .int .i64 f3, .int .i64 f4] 88 (0, 0))) : W.cell? ⟨g, 0, none⟩ = some (.string f0) := (blk_cell h 0).trans rfl
theorem cellS88_1 {W : World} {g : Nat} {f0 : ByteArray} {f1 : Int} {f2 : Bool} {f3 : Int} {f4 : Int} (h : W.heap[g]? = some (.cells #[.string f0, .int .i64 f1, .bool f2, .int .i64 f3, .int .i64 f4] 88 (0, 0))) : W.cell? ⟨g, 1, none⟩ = some (.int .i64 f1) := (blk_cell h 1).trans rfl
theorem IsS88.set_1 {w0 W : World} {g : Nat} {f0 : ByteArray} {f1 : Int} {f2 : Bool} {f3 : Int} {f4 : Int} (h : IsS88 w0 W g f0 f1 f2 f3 f4) (x : Int) : IsS88 w0 (W.setCell ⟨g, 1, none⟩ (.int .i64 x)) g f0 x f2 f3 f4 := by
 obtain ⟨hb, hg⟩ := h
 exact ⟨by simpa using blk_set hb 1 (.int .i64 x), hg⟩
theorem cellS88_2 {W : World} {g : Nat} {f0 : ByteArray} {f1 : Int} {f2 : Bool} {f3 : Int} {f4 : Int} (h : W.heap[g]? = some (.cells #[.string f0, .int .i64 f1, .bool f2, .int .i64 f3, .int .i64 f4] 88 (0, 0))) : W.cell? ⟨g, 2, none⟩ = some (.bool f2) := (blk_cell h 2).trans rfl
theorem IsS88.set_2 {w0 W : World} {g : Nat} {f0 : ByteArray} {f1 : Int} {f2 : Bool} {f3 : Int} {f4 : Int} (h : IsS88 w0 W g f0 f1 f2 f3 f4) (x : Bool) : IsS88 w0 (W.setCell ⟨g, 2, none⟩ (.bool x)) g f0 f1 x f3 f4 := by
 obtain ⟨hb, hg⟩ := h
 exact ⟨by simpa using blk_set hb 2 (.bool x), hg⟩
theorem cellS88_3 {W : World} {g : Nat} {f0 : ByteArray} {f1 : Int} {f2 : Bool} {f3 : Int} {f4 : Int} (h : W.heap[g]? = some (.cells #[.string f0, .int .i64 f1, .bool f2, .int .i64 f3, .int .i64 f4] 88 (0, 0))) : W.cell? ⟨g, 3, none⟩ = some (.int .i64 f3) := (blk_cell h 3).trans rfl
theorem IsS88.set_3 {w0 W : World} {g : Nat} {f0 : ByteArray} {f1 : Int} {f2 : Bool} {f3 : Int} {f4 : Int} (h : IsS88 w0 W g f0 f1 f2 f3 f4) (x : Int) : IsS88 w0 (W.setCell ⟨g, 3, none⟩ (.int .i64 x)) g f0 f1 f2 x f4 := by
 obtain ⟨hb, hg⟩ := h
 exact ⟨by simpa using blk_set hb 3 (.int .i64 x), hg⟩
theorem cellS88_4 {W : World} {g : Nat} {f0 : ByteArray} {f1 : Int} {f2 : Bool} {f3 : Int} {f4 : Int} (h : W.heap[g]? = some (.cells #[.string f0, .int .i64 f1, .bool f2, .int .i64 f3, .int .i64 f4] 88 (0, 0))) : W.cell? ⟨g, 4, none⟩ = some (.int .i64 f4) := (blk_cell h 4).trans rfl
theorem IsS88.set_4 {w0 W : World} {g : Nat} {f0 : ByteArray} {f1 : Int} {f2 : Bool} {f3 : Int} {f4 : Int} (h : IsS88 w0 W g f0 f1 f2 f3 f4) (x : Int) : IsS88 w0 (W.setCell ⟨g, 4, none⟩ (.int .i64 x)) g f0 f1 f2 f3 x := by
 obtain ⟨hb, hg⟩ := h
 exact ⟨by simpa using blk_set hb 4 (.int .i64 x), hg⟩
def words_scanner_fail.f (s0_0 : ByteArray) (s0_1 : Int) (s0_2 : Bool) (s0_3 : Int) (s0_4 : Int) (a1 : Int) (a2 : Int) : Option (Int × Int × ByteArray × Int × Int × Bool × ByteArray × Int × Bool × Int × Int) := some (0, 0, (⟨#[]⟩ : ByteArray), 0, 0, false, s0_0, s0_1, s0_2, a1, a2)
set_option maxHeartbeats 8000000 in
set_option maxRecDepth 100000 in
theorem words_scanner_fail.calls (g : Nat) (s0_0 : ByteArray) (s0_1 : Int) (s0_2 : Bool) (s0_3 : Int) (s0_4 : Int) (a1 : Int) (a2 : Int) (r1 : Int) (r2 : Int) (r3 : ByteArray) (r4 : Int) (r5 : Int) (r6 : Bool) (r7 : ByteArray) (r8 : Int) (r9 : Bool) (r10 : Int) (r11 : Int) (w0 w : World) (hI : IsS88 w0 w g s0_0 s0_1 s0_2 s0_3 s0_4) (hB : Below w0.heap.size w0 w) (h : words_scanner_fail.f s0_0 s0_1 s0_2 s0_3 s0_4 a1 a2 = some (r1, r2, r3, r4, r5, r6, r7, r8, r9, r10, r11)) :
  Calls Tryz.prog 135 #[.pointer (some ⟨g, 0, none⟩), .int .i64 a1, .int .i64 a2] w fun e w' => e = .returned (.tuple #[.agg #[.int .i64 r1, .int .i64 r2, .string r3, .int .i64 r4, .int .i64 r5], .bool r6]) ∧ IsS88 w0 w' g r7 r8 r9 r10 r11 ∧ Below w0.heap.size w0 w' ∧ KeepBut w w' g none := by
 have hu57 := Tryz.underlying57
 have HI0 := Aside0.mk hI
 have HK := Aside0.mk (KeepBut.refl w g none)
 have HL := Aside0.mk hB.size
 clear hI
 have HW0 := Aside0.mk hB.size
 have HB := Aside0.mk hB
 clear hB
 have H : (some (0, 0, (⟨#[]⟩ : ByteArray), 0, 0, false, s0_0, s0_1, s0_2, a1, a2)) = some (r1, r2, r3, r4, r5, r6, r7, r8, r9, r10, r11) := h
 clear h
 simp only [Option.some.injEq, Prod.mk.injEq] at H
 obtain ⟨rfl, rfl, rfl, rfl, rfl, rfl, rfl, rfl, rfl, rfl, rfl⟩ := H
 go_enter Tryz.func135, Tryz.ntmps135
 go_wp2_with (first | ((with_reducible refine gate_dst (N := 6) rfl ?_); refine box_event ?hg (N := 6) ?hd (cs := #[.int .i64 0, .int .i64 0, .string ⟨#[]⟩, .int .i64 0, .int .i64 0]) (t := 57) ?hr ?_; (case hd => rfl); (case hg => rfl); (case hr => first | (go_simp; done) | (go_simp; rfl)); intro gb334 hg w4 hbox hb; have n0_ := Aside0.mk (IsS88.below (by repeat (first | (with_reducible first | exact HI0.out | apply IsS88.alloc | apply IsS88.drewN | apply IsS88.drew | apply IsS88.set_0 | apply IsS88.set_1 | apply IsS88.set_2 | apply IsS88.set_3 | apply IsS88.set_4) | exact HI0.out)) hb); have n1_ := Aside0.mk (KeepBut.trans (by repeat (first | (with_reducible first | exact HK.out | apply KeepBut.set_ | apply keep_drewN | apply keep_drew | apply keep_alloc) | exact HK.out)) (KeepBut.of_below hb g none) (.inl rfl)); have n2_ := Aside0.mk (below_step (by repeat (first | (with_reducible first | exact HB.out | apply below_alloc | apply pw_below_drewN | apply below_drew1 | refine below_set ?_ (IsS88.ge HI0.out)) | exact HB.out)) hb); have n3_ := Aside0.mk (hbox); have n4_ := Aside0.mk ((by rw [hg]; exact (keep_size (w := w) (g := g) (row := none) (by repeat (first | (with_reducible first | exact HK.out | apply KeepBut.set_ | apply keep_drewN | apply keep_drew | apply keep_alloc) | exact HK.out))) : w.heap.size ≤ gb334)); have n5_ := Aside0.mk ((Nat.le_trans HW0.out (by rw [hg]; exact (keep_size (w := w) (g := g) (row := none) (by repeat (first | (with_reducible first | exact HK.out | apply KeepBut.set_ | apply keep_drewN | apply keep_drew | apply keep_alloc) | exact HK.out))) : w.heap.size ≤ gb334) : w0.heap.size ≤ gb334)); have n6_ := Aside0.mk ((by rw [hg]; exact Nat.ne_of_lt (IsS88.lt (show IsS88 w0 _ g s0_0 s0_1 s0_2 s0_3 s0_4 from by repeat (first | (with_reducible first | exact HI0.out | apply IsS88.alloc | apply IsS88.drewN | apply IsS88.drew | apply IsS88.set_0 | apply IsS88.set_1 | apply IsS88.set_2 | apply IsS88.set_3 | apply IsS88.set_4) | exact HI0.out))) : g ≠ gb334)); have n7_ := Aside0.mk ((by rw [hg]; exact Nat.ne_of_gt (IsS88.lt (show IsS88 w0 _ g s0_0 s0_1 s0_2 s0_3 s0_4 from by repeat (first | (with_reducible first | exact HI0.out | apply IsS88.alloc | apply IsS88.drewN | apply IsS88.drew | apply IsS88.set_0 | apply IsS88.set_1 | apply IsS88.set_2 | apply IsS88.set_3 | apply IsS88.set_4) | exact HI0.out))) : gb334 ≠ g)); clear HI0; clear HK; clear HB; have HI0 := n0_; have HK := n1_; have HB := n2_; have BK334 := n3_; have GW334 := n4_; have GE334 := n5_; have NB0_334 := n6_; have NB334_0 := n7_; clear n0_ n1_ n2_ n3_ n4_ n5_ n6_ n7_; clear hb hbox hg; obtain ⟨HGz5, hgz5⟩ := HI0.out; have hcz5_0 := cellS88_0 HGz5; have hcz5_1 := cellS88_1 HGz5; have hcz5_2 := cellS88_2 HGz5; have hcz5_3 := cellS88_3 HGz5; have hcz5_4 := cellS88_4 HGz5; have hfz5_0 := blk_frozen HGz5 0; have hfz5_1 := blk_frozen HGz5 1; have hfz5_2 := blk_frozen HGz5 2; have hfz5_3 := blk_frozen HGz5 3; have hfz5_4 := blk_frozen HGz5 4; clear HGz5 hgz5; have hnb6 := NB334_0.out; have hnc6 := NB0_334.out; have hcz7_0 : w4.cell? ⟨gb334, 0, none⟩ = some (.int .i64 0) := (blk_cell BK334.out 0).trans rfl; have hcz7_1 : w4.cell? ⟨gb334, 1, none⟩ = some (.int .i64 0) := (blk_cell BK334.out 1).trans rfl; have hcz7_2 : w4.cell? ⟨gb334, 2, none⟩ = some (.string ⟨#[]⟩) := (blk_cell BK334.out 2).trans rfl; have hcz7_3 : w4.cell? ⟨gb334, 3, none⟩ = some (.int .i64 0) := (blk_cell BK334.out 3).trans rfl; have hcz7_4 : w4.cell? ⟨gb334, 4, none⟩ = some (.int .i64 0) := (blk_cell BK334.out 4).trans rfl; have hfz7_0 := blk_frozen BK334.out 0; have hfz7_1 := blk_frozen BK334.out 1; have hfz7_2 := blk_frozen BK334.out 2; have hfz7_3 := blk_frozen BK334.out 3; have hfz7_4 := blk_frozen BK334.out 4))
 refine bodyPost_ret (results_ct rfl _ _ gb334 57 #[.int .i64 0, .int .i64 0, .string ⟨#[]⟩, .int .i64 0, .int .i64 0] (0, 0) _ rfl (by (with_reducible repeat (first | refine blk_drewN ?_ _ | refine blk_drew ?_ | refine blk_alloc ?_ _)); refine blk_put (cs := #[.int .i64 0, .int .i64 0, .string ⟨#[]⟩, .int .i64 0, .int .i64 0]) ?_ 4 _ rfl; (with_reducible repeat (first | refine blk_drewN ?_ _ | refine blk_drew ?_ | refine blk_alloc ?_ _)); refine blk_put (cs := #[.int .i64 0, .int .i64 0, .string ⟨#[]⟩, .int .i64 0, .int .i64 0]) ?_ 3 _ rfl; (with_reducible repeat (first | refine blk_drewN ?_ _ | refine blk_drew ?_ | refine blk_alloc ?_ _)); refine blk_put (cs := #[.int .i64 0, .int .i64 0, .string ⟨#[]⟩, .int .i64 0, .int .i64 0]) ?_ 2 _ rfl; (with_reducible repeat (first | refine blk_drewN ?_ _ | refine blk_drew ?_ | refine blk_alloc ?_ _)); refine blk_put (cs := #[.int .i64 0, .int .i64 0, .string ⟨#[]⟩, .int .i64 0, .int .i64 0]) ?_ 1 _ rfl; (with_reducible repeat (first | refine blk_drewN ?_ _ | refine blk_drew ?_ | refine blk_alloc ?_ _)); refine blk_put (cs := #[.int .i64 0, .int .i64 0, .string ⟨#[]⟩, .int .i64 0, .int .i64 0]) ?_ 0 _ rfl; (with_reducible repeat (first | refine blk_drewN ?_ _ | refine blk_drew ?_ | refine blk_alloc ?_ _)); refine blk_far ?_ NB334_0.out _; (with_reducible repeat (first | refine blk_drewN ?_ _ | refine blk_drew ?_ | refine blk_alloc ?_ _)); refine blk_far ?_ NB334_0.out _; (with_reducible repeat (first | refine blk_drewN ?_ _ | refine blk_drew ?_ | refine blk_alloc ?_ _)); exact BK334.out) Tryz.underlying57 rfl (by kernel_rfl)) rfl ?_
 exact ⟨by first | rfl | (simp [errW_none, errW_some] <;> rfl) | (simp [*, errW_none, errW_some] <;> rfl), by repeat (first | (with_reducible first | exact HI0.out | apply IsS88.alloc | apply IsS88.drewN | apply IsS88.drew | apply IsS88.set_0 | apply IsS88.set_1 | apply IsS88.set_2 | apply IsS88.set_3 | apply IsS88.set_4 | refine IsS88.far ?_ NB0_334.out _) | exact HI0.out), by repeat (first | (with_reducible first | exact HB.out | apply below_alloc | apply pw_below_drewN | apply below_drew1 | refine below_set ?_ (IsS88.ge HI0.out) | refine below_set ?_ GE334.out) | exact HB.out), by repeat (first | (with_reducible first | exact HK.out | apply KeepBut.set_ | apply keep_drewN | apply keep_drew | apply keep_alloc | refine keep_far ?_ GW334.out _) | exact HK.out)⟩
def words_scanner_is.f (s0_0 : ByteArray) (s0_1 : Int) (s0_2 : Bool) (s0_3 : Int) (s0_4 : Int) (a1 : Int) (a2 : Int) : Option (Bool × ByteArray × Int × Bool × Int × Int) := if a1 < (s0_0.size : Int) then (if 0 ≤ a1 then ((words_of.f (bt s0_0 a1)).bind fun t335 => (some (((Go.bits .and .u8 t335 a2) != 0), s0_0, s0_1, s0_2, s0_3, s0_4))) else (none)) else (some (false, s0_0, s0_1, s0_2, s0_3, s0_4))
set_option maxHeartbeats 8000000 in
set_option maxRecDepth 100000 in
theorem words_scanner_is.calls (g : Nat) (s0_0 : ByteArray) (s0_1 : Int) (s0_2 : Bool) (s0_3 : Int) (s0_4 : Int) (a1 : Int) (a2 : Int) (r1 : Bool) (r2 : ByteArray) (r3 : Int) (r4 : Bool) (r5 : Int) (r6 : Int) (w0 w : World) (hT : Tabs w0) (hI : IsS88 w0 w g s0_0 s0_1 s0_2 s0_3 s0_4) (hB : Below w0.heap.size w0 w) (h : words_scanner_is.f s0_0 s0_1 s0_2 s0_3 s0_4 a1 a2 = some (r1, r2, r3, r4, r5, r6)) :
  Calls Tryz.prog 201 #[.pointer (some ⟨g, 0, none⟩), .int .i64 a1, .int .u8 a2] w fun e w' => e = .returned (.bool r1) ∧ IsS88 w0 w' g r2 r3 r4 r5 r6 ∧ Below w0.heap.size w0 w' ∧ KeepBut w w' g none := by
 have HI0 := Aside0.mk hI
 have HK := Aside0.mk (KeepBut.refl w g none)
 have HL := Aside0.mk hB.size
 clear hI
 have HW0 := Aside0.mk hB.size
 have HB := Aside0.mk hB
 clear hB
 have HT := Aside0.mk hT
 clear hT
 have H : (if a1 < (s0_0.size : Int) then (if 0 ≤ a1 then ((words_of.f (bt s0_0 a1)).bind fun t335 => (some (((Go.bits .and .u8 t335 a2) != 0), s0_0, s0_1, s0_2, s0_3, s0_4))) else (none)) else (some (false, s0_0, s0_1, s0_2, s0_3, s0_4))) = some (r1, r2, r3, r4, r5, r6) := h
 clear h
 by_cases c4 : a1 < (s0_0.size : Int)
 ·rw [if_pos c4] at H
  have c4b0 : decide (a1 < (s0_0.size : Int)) = true := decide_eq_true c4
  clear c4
  by_cases c5 : 0 ≤ a1
  ·rw [if_pos c5] at H
   have c5b0 : decide (0 ≤ a1) = true := decide_eq_true c5
   clear c5
   replace H := Option.bind_eq_some_iff.mp H
   obtain ⟨t335, A70, H⟩ := H
   replace H : (some (((Go.bits .and .u8 t335 a2) != 0), s0_0, s0_1, s0_2, s0_3, s0_4)) = some (r1, r2, r3, r4, r5, r6) := H
   have A7 := Aside0.mk A70
   clear A70
   simp only [Option.some.injEq, Prod.mk.injEq] at H
   obtain ⟨rfl, rfl, rfl, rfl, rfl, rfl⟩ := H
   obtain ⟨HGz8, hgz8⟩ := HI0.out
   have hcz8_0 := cellS88_0 HGz8
   have hcz8_1 := cellS88_1 HGz8
   have hcz8_2 := cellS88_2 HGz8
   have hcz8_3 := cellS88_3 HGz8
   have hcz8_4 := cellS88_4 HGz8
   have hfz8_0 := blk_frozen HGz8 0
   have hfz8_1 := blk_frozen HGz8 1
   have hfz8_2 := blk_frozen HGz8 2
   have hfz8_3 := blk_frozen HGz8 3
   have hfz8_4 := blk_frozen HGz8 4
   clear HGz8 hgz8
   have p6 : 0 ≤ (a1 : Int) := of_decide_eq_true (by assumption)
   have q6 : a1 < (s0_0.size : Int) := of_decide_eq_true (by assumption)
   have hx6 := bt_at s0_0 a1
   replace p6 := eq_true p6
   replace q6 := eq_true q6
   go_enter Tryz.func201, Tryz.ntmps201
   go_wp2_with (first | (go_at_call 115; (with_reducible refine (words_of.calls (bt s0_0 a1) t335 _ ?side1 A7.out).mono ?_); (case side1 => first | (with_reducible exact HT.out) | (with_reducible exact HT.out.below HB.out) | (with_reducible refine Tabs.below HT.out ?_; repeat (first | (with_reducible first | exact HB.out | apply below_alloc | apply pw_below_drewN | apply below_drew1 | refine below_set ?_ (IsS88.ge HI0.out)) | exact HB.out))); rintro e w' ⟨rfl, ⟨nd, rfl⟩⟩))
   go_ret
   exact ⟨by first | rfl | (simp [errW_none, errW_some] <;> rfl) | (simp [*, errW_none, errW_some] <;> rfl), by repeat (first | (with_reducible first | exact HI0.out | apply IsS88.alloc | apply IsS88.drewN | apply IsS88.drew | apply IsS88.set_0 | apply IsS88.set_1 | apply IsS88.set_2 | apply IsS88.set_3 | apply IsS88.set_4) | exact HI0.out), by repeat (first | (with_reducible first | exact HB.out | apply below_alloc | apply pw_below_drewN | apply below_drew1 | refine below_set ?_ (IsS88.ge HI0.out)) | exact HB.out), by repeat (first | (with_reducible first | exact HK.out | apply KeepBut.set_ | apply keep_drewN | apply keep_drew | apply keep_alloc) | exact HK.out)⟩
  ·rw [if_neg c5] at H
   exact absurd H (by simp)
 ·rw [if_neg c4] at H
  have c4b0 : decide (a1 < (s0_0.size : Int)) = false := decide_eq_false c4
  clear c4
  simp only [Option.some.injEq, Prod.mk.injEq] at H
  obtain ⟨rfl, rfl, rfl, rfl, rfl, rfl⟩ := H
  obtain ⟨HGz9, hgz9⟩ := HI0.out
  have hcz9_0 := cellS88_0 HGz9
  have hcz9_1 := cellS88_1 HGz9
  have hcz9_2 := cellS88_2 HGz9
  have hcz9_3 := cellS88_3 HGz9
  have hcz9_4 := cellS88_4 HGz9
  have hfz9_0 := blk_frozen HGz9 0
  have hfz9_1 := blk_frozen HGz9 1
  have hfz9_2 := blk_frozen HGz9 2
  have hfz9_3 := blk_frozen HGz9 3
  have hfz9_4 := blk_frozen HGz9 4
  clear HGz9 hgz9
  go_enter Tryz.func201, Tryz.ntmps201
  go_wp2
  go_ret
  exact ⟨by first | rfl | (simp [errW_none, errW_some] <;> rfl) | (simp [*, errW_none, errW_some] <;> rfl), by repeat (first | (with_reducible first | exact HI0.out | apply IsS88.alloc | apply IsS88.drewN | apply IsS88.drew | apply IsS88.set_0 | apply IsS88.set_1 | apply IsS88.set_2 | apply IsS88.set_3 | apply IsS88.set_4) | exact HI0.out), by repeat (first | (with_reducible first | exact HB.out | apply below_alloc | apply pw_below_drewN | apply below_drew1 | refine below_set ?_ (IsS88.ge HI0.out)) | exact HB.out), by repeat (first | (with_reducible first | exact HK.out | apply KeepBut.set_ | apply keep_drewN | apply keep_drew | apply keep_alloc) | exact HK.out)⟩
def words_common.l0 : Nat → Int → Int → Option (Int)
 | 0, _, _ => none
 | k + 1, x0, x1 => if x1 = 0 then (some (mx x0 1)) else (words_common.l0 k x1 (Int.tmod x0 x1))
def words_common.f (k : Nat) (a0 : Int) (a1 : Int) : Option (Int) := words_common.l0 k a0 a1
set_option maxHeartbeats 8000000 in
set_option maxRecDepth 100000 in
theorem words_common.calls (k : Nat) (a0 : Int) (a1 : Int) (r : Int) (w : World) (h : words_common.f k a0 a1 = some r) :
  Calls Tryz.prog 79 #[.int .i64 a0, .int .i64 a1] w fun e w' => e = .returned (.int .i64 r) ∧ Below w.heap.size w w' := by
 have HB := Aside0.mk (Below.refl w.heap.size w)
 have H : (words_common.l0 k a0 a1) = some r := h
 clear h
 have H' := Aside0.mk H
 clear H
 go_enter Tryz.func79, Tryz.ntmps79
 go_wp2
 repeat (go_quiet (fail); try go_wp2)
 go_loopg [0, 1] k (fun kq v0 v1 w' => ∃ (x0_1 : Int) (x1_1 : Int), v0 = .int .i64 x0_1 ∧ v1 = .int .i64 x1_1 ∧ Aside0 (words_common.l0 kq x0_1 x1_1 = some r) ∧ Aside0 (kq ≤ k) ∧ Aside0 (Below w.heap.size w w'))
 case atStart => exact ⟨(a0), (a1), (by first | rfl | (simp [*]; done)), (by first | rfl | (simp [*]; done)), H', ⟨Nat.le_refl _⟩, ⟨by repeat (first | (with_reducible first | exact HB.out | apply below_alloc | apply pw_below_drewN | apply below_drew1) | exact HB.out)⟩⟩
 case round =>
  clear H'
  try clear p2
  obtain ⟨x0_1, x1_1, rfl, rfl, HA, HK1, HB⟩ := hrel
  cases gk with
  | zero => exact absurd HA.out (by simp [words_common.l0])
  | succ k1 =>
   have H := HA.out
   clear HA
   simp only [words_common.l0] at H
   by_cases c3 : x1_1 = 0
   ·rw [if_pos c3] at H
    have c3b0 : (x1_1 == 0) = true := beq_iff_eq.mpr c3
    have c3b1 : (x1_1 != 0) = false := bne_eq_false_iff_eq.mpr c3
    clear c3
    obtain ⟨ji4, hji4⟩ : ∃ j_ : Int, (mx x0_1 1) = j_ := ⟨_, rfl⟩
    replace H : (some ji4) = some r := by first | (rw [hji4] at H; exact H) | (simp only [hji4] at H ⊢; exact H)
    have hji4_ : (if x0_1 < 1 then 1 else x0_1) = ji4 := hji4
    obtain rfl := Option.some.inj H
    go_wp2
    repeat (go_quiet (fail); try go_wp2)
    go_ret
    exact ⟨by first | rfl | (simp [errW_none, errW_some] <;> rfl) | (simp only [← hji4]; first | rfl | (simp [errW_none, errW_some] <;> rfl)) | (simp [*, errW_none, errW_some] <;> rfl), by repeat (first | (with_reducible first | exact HB.out | apply below_alloc | apply pw_below_drewN | apply below_drew1) | exact HB.out)⟩
   ·rw [if_neg c3] at H
    have c3b0 : (x1_1 == 0) = false := beq_eq_false_iff_ne.mpr c3
    have c3b1 : (x1_1 != 0) = true := bne_iff_ne.mpr c3
    have H' := Aside0.mk H
    clear H
    go_wp2
    repeat (go_quiet (fail); try go_wp2)
    go_roundg k1
    case measure => have := HK1.out; omega
    case rel => exact ⟨(x1_1), (Int.tmod x0_1 x1_1), (by first | rfl | (simp [*]; done)), (by first | rfl | (simp [*]; done)), H', ⟨by have := HK1.out; omega⟩, ⟨by repeat (first | (with_reducible first | exact HB.out | apply below_alloc | apply pw_below_drewN | apply below_drew1) | exact HB.out)⟩⟩
def words_scanner_dated.l0 : Nat → Int → Int → ByteArray → Int → Bool → Int → Int → Option (Bool × ByteArray × Int × Bool × Int × Int)
 | 0, _, _, _, _, _, _, _ => none
 | k + 1, x1, x6, x1000, x1001, x1002, x1003, x1004 => if x6 < 10 then (if 0 ≤ x6 then (if (bt (⟨#[48, 48, 48, 48, 45, 48, 48, 45, 48, 48]⟩ : ByteArray) x6) = 48 then ((words_scanner_is.f x1000 x1001 x1002 x1003 x1004 (wrap64 (x1 + x6)) 2).bind fun bt354 => (if bt354.1 = true then (if (bt (⟨#[48, 48, 48, 48, 45, 48, 48, 45, 48, 48]⟩ : ByteArray) x6) = 45 then (if (wrap64 (x1 + x6)) ≥ (bt354.2.1.size : Int) then (some (false, bt354.2.1, bt354.2.2.1, bt354.2.2.2.1, bt354.2.2.2.2.1, bt354.2.2.2.2.2)) else (if 0 ≤ (wrap64 (x1 + x6)) then (if (wrap64 (x1 + x6)) < (bt354.2.1.size : Int) then (if (bt bt354.2.1 (wrap64 (x1 + x6))) = 45 then (words_scanner_dated.l0 k x1 (wrap64 (x6 + 1)) bt354.2.1 bt354.2.2.1 bt354.2.2.2.1 bt354.2.2.2.2.1 bt354.2.2.2.2.2) else (some (false, bt354.2.1, bt354.2.2.1, bt354.2.2.2.1, bt354.2.2.2.2.1, bt354.2.2.2.2.2))) else (none)) else (none))) else (words_scanner_dated.l0 k x1 (wrap64 (x6 + 1)) bt354.2.1 bt354.2.2.1 bt354.2.2.2.1 bt354.2.2.2.2.1 bt354.2.2.2.2.2)) else (some (false, bt354.2.1, bt354.2.2.1, bt354.2.2.2.1, bt354.2.2.2.2.1, bt354.2.2.2.2.2)))) else (if (bt (⟨#[48, 48, 48, 48, 45, 48, 48, 45, 48, 48]⟩ : ByteArray) x6) = 45 then (if (wrap64 (x1 + x6)) ≥ (x1000.size : Int) then (some (false, x1000, x1001, x1002, x1003, x1004)) else (if 0 ≤ (wrap64 (x1 + x6)) then (if (wrap64 (x1 + x6)) < (x1000.size : Int) then (if (bt x1000 (wrap64 (x1 + x6))) = 45 then (words_scanner_dated.l0 k x1 (wrap64 (x6 + 1)) x1000 x1001 x1002 x1003 x1004) else (some (false, x1000, x1001, x1002, x1003, x1004))) else (none)) else (none))) else (words_scanner_dated.l0 k x1 (wrap64 (x6 + 1)) x1000 x1001 x1002 x1003 x1004))) else (none)) else (some (true, x1000, x1001, x1002, x1003, x1004))
def words_scanner_dated.f (k : Nat) (s0_0 : ByteArray) (s0_1 : Int) (s0_2 : Bool) (s0_3 : Int) (s0_4 : Int) (a1 : Int) : Option (Bool × ByteArray × Int × Bool × Int × Int) := words_scanner_dated.l0 k a1 0 s0_0 s0_1 s0_2 s0_3 s0_4
set_option maxHeartbeats 8000000 in
set_option maxRecDepth 100000 in
theorem words_scanner_dated.calls (k : Nat) (g : Nat) (s0_0 : ByteArray) (s0_1 : Int) (s0_2 : Bool) (s0_3 : Int) (s0_4 : Int) (a1 : Int) (r1 : Bool) (r2 : ByteArray) (r3 : Int) (r4 : Bool) (r5 : Int) (r6 : Int) (w0 w : World) (hT : Tabs w0) (hI : IsS88 w0 w g s0_0 s0_1 s0_2 s0_3 s0_4) (hB : Below w0.heap.size w0 w) (h : words_scanner_dated.f k s0_0 s0_1 s0_2 s0_3 s0_4 a1 = some (r1, r2, r3, r4, r5, r6)) :
  Calls Tryz.prog 202 #[.pointer (some ⟨g, 0, none⟩), .int .i64 a1] w fun e w' => e = .returned (.bool r1) ∧ IsS88 w0 w' g r2 r3 r4 r5 r6 ∧ Below w0.heap.size w0 w' ∧ KeepBut w w' g none := by
 have HI0 := Aside0.mk hI
 have HK := Aside0.mk (KeepBut.refl w g none)
 have HL := Aside0.mk hB.size
 clear hI
 have HW0 := Aside0.mk hB.size
 have HB := Aside0.mk hB
 clear hB
 have HT := Aside0.mk hT
 clear hT
 have H : (words_scanner_dated.l0 k a1 0 s0_0 s0_1 s0_2 s0_3 s0_4) = some (r1, r2, r3, r4, r5, r6) := h
 clear h
 have H' := Aside0.mk H
 clear H
 go_enter Tryz.func202, Tryz.ntmps202
 go_wp2
 go_loopg [6] k (fun kq v6 w' => ∃ (x6_1 : Int) (x1000_1 : ByteArray) (x1001_1 : Int) (x1002_1 : Bool) (x1003_1 : Int) (x1004_1 : Int), v6 = .int .i64 x6_1 ∧ Aside0 (words_scanner_dated.l0 kq a1 x6_1 x1000_1 x1001_1 x1002_1 x1003_1 x1004_1 = some (r1, r2, r3, r4, r5, r6)) ∧ Aside0 (kq ≤ k) ∧ Aside0 (IsS88 w0 w' g x1000_1 x1001_1 x1002_1 x1003_1 x1004_1) ∧ Aside0 (KeepBut w w' g none) ∧ Aside0 (Below w0.heap.size w0 w'))
 case atStart => exact ⟨(0), (s0_0), (s0_1), (s0_2), (s0_3), (s0_4), (by first | rfl | (simp [*]; done)), H', ⟨Nat.le_refl _⟩, ⟨by repeat (first | (with_reducible first | exact HI0.out | apply IsS88.alloc | apply IsS88.drewN | apply IsS88.drew | apply IsS88.set_0 | apply IsS88.set_1 | apply IsS88.set_2 | apply IsS88.set_3 | apply IsS88.set_4) | exact HI0.out)⟩, ⟨by repeat (first | (with_reducible first | exact HK.out | apply KeepBut.set_ | apply keep_drewN | apply keep_drew | apply keep_alloc) | exact HK.out)⟩, ⟨by repeat (first | (with_reducible first | exact HB.out | apply below_alloc | apply pw_below_drewN | apply below_drew1 | refine below_set ?_ (IsS88.ge HI0.out)) | exact HB.out)⟩⟩
 case round =>
  clear H'
  try clear c2
  try clear p2
  obtain ⟨x6_1, x1000_1, x1001_1, x1002_1, x1003_1, x1004_1, rfl, HA, HK1, HI0, HK, HB⟩ := hrel
  cases gk with
  | zero => exact absurd HA.out (by simp [words_scanner_dated.l0])
  | succ k1 =>
   have H := HA.out
   clear HA
   simp only [words_scanner_dated.l0] at H
   by_cases c3 : x6_1 < 10
   ·rw [if_pos c3] at H
    have c3b0 : decide (x6_1 < 10) = true := decide_eq_true c3
    clear c3
    by_cases c4 : 0 ≤ x6_1
    ·rw [if_pos c4] at H
     have c4b0 : decide (0 ≤ x6_1) = true := decide_eq_true c4
     clear c4
     by_cases c6 : (bt (⟨#[48, 48, 48, 48, 45, 48, 48, 45, 48, 48]⟩ : ByteArray) x6_1) = 48
     ·rw [if_pos c6] at H
      have c6b0 : ((bt (⟨#[48, 48, 48, 48, 45, 48, 48, 45, 48, 48]⟩ : ByteArray) x6_1) == 48) = true := beq_iff_eq.mpr c6
      have c6b1 : ((bt (⟨#[48, 48, 48, 48, 45, 48, 48, 45, 48, 48]⟩ : ByteArray) x6_1) != 48) = false := bne_eq_false_iff_eq.mpr c6
      clear c6
      replace H := Option.bind_eq_some_iff.mp H
      obtain ⟨⟨t354, t355, t356, t357, t358, t359⟩, A70, H⟩ := H
      replace H : (if t354 = true then (if (bt (⟨#[48, 48, 48, 48, 45, 48, 48, 45, 48, 48]⟩ : ByteArray) x6_1) = 45 then (if (wrap64 (a1 + x6_1)) ≥ (t355.size : Int) then (some (false, t355, t356, t357, t358, t359)) else (if 0 ≤ (wrap64 (a1 + x6_1)) then (if (wrap64 (a1 + x6_1)) < (t355.size : Int) then (if (bt t355 (wrap64 (a1 + x6_1))) = 45 then (words_scanner_dated.l0 k1 a1 (wrap64 (x6_1 + 1)) t355 t356 t357 t358 t359) else (some (false, t355, t356, t357, t358, t359))) else (none)) else (none))) else (words_scanner_dated.l0 k1 a1 (wrap64 (x6_1 + 1)) t355 t356 t357 t358 t359)) else (some (false, t355, t356, t357, t358, t359))) = some (r1, r2, r3, r4, r5, r6) := H
      have A7 := Aside0.mk A70
      clear A70
      by_cases c8 : t354 = true
      ·subst c8
       have H1 : (if (bt (⟨#[48, 48, 48, 48, 45, 48, 48, 45, 48, 48]⟩ : ByteArray) x6_1) = 45 then (if (wrap64 (a1 + x6_1)) ≥ (t355.size : Int) then (some (false, t355, t356, t357, t358, t359)) else (if 0 ≤ (wrap64 (a1 + x6_1)) then (if (wrap64 (a1 + x6_1)) < (t355.size : Int) then (if (bt t355 (wrap64 (a1 + x6_1))) = 45 then (words_scanner_dated.l0 k1 a1 (wrap64 (x6_1 + 1)) t355 t356 t357 t358 t359) else (some (false, t355, t356, t357, t358, t359))) else (none)) else (none))) else (words_scanner_dated.l0 k1 a1 (wrap64 (x6_1 + 1)) t355 t356 t357 t358 t359)) = some (r1, r2, r3, r4, r5, r6) := by rw [if_pos rfl] at H; exact H
       clear H
       have H := H1
       clear H1
       by_cases c10 : (bt (⟨#[48, 48, 48, 48, 45, 48, 48, 45, 48, 48]⟩ : ByteArray) x6_1) = 45
       ·rw [if_pos c10] at H
        have c10b0 : ((bt (⟨#[48, 48, 48, 48, 45, 48, 48, 45, 48, 48]⟩ : ByteArray) x6_1) == 45) = true := beq_iff_eq.mpr c10
        have c10b1 : ((bt (⟨#[48, 48, 48, 48, 45, 48, 48, 45, 48, 48]⟩ : ByteArray) x6_1) != 45) = false := bne_eq_false_iff_eq.mpr c10
        clear c10
        by_cases c11 : (wrap64 (a1 + x6_1)) ≥ (t355.size : Int)
        ·rw [if_pos c11] at H
         have c11b0 : decide ((t355.size : Int) ≤ (wrap64 (a1 + x6_1))) = true := decide_eq_true c11
         clear c11
         simp only [Option.some.injEq, Prod.mk.injEq] at H
         obtain ⟨rfl, rfl, rfl, rfl, rfl, rfl⟩ := H
         have p5 : 0 ≤ (x6_1 : Int) := of_decide_eq_true (by assumption)
         have q5 : x6_1 < (10 : Int) := of_decide_eq_true (by assumption)
         have hx5 := bt_at (⟨#[48, 48, 48, 48, 45, 48, 48, 45, 48, 48]⟩ : ByteArray) x6_1
         replace p5 := eq_true p5
         replace q5 := eq_true q5
         go_wp2_with (first | (go_at_call 201; (with_reducible refine (words_scanner_is.calls g x1000_1 x1001_1 x1002_1 x1003_1 x1004_1 (wrap64 (a1 + x6_1)) 2 true t355 t356 t357 t358 t359 w0 _ ?side1 ?side2 ?side3 A7.out).mono ?_); (case side1 => exact HT.out); (case side2 => repeat (first | (with_reducible first | exact HI0.out | apply IsS88.alloc | apply IsS88.drewN | apply IsS88.drew | apply IsS88.set_0 | apply IsS88.set_1 | apply IsS88.set_2 | apply IsS88.set_3 | apply IsS88.set_4) | exact HI0.out)); (case side3 => repeat (first | (with_reducible first | exact HB.out | apply below_alloc | apply pw_below_drewN | apply below_drew1 | refine below_set ?_ (IsS88.ge HI0.out)) | exact HB.out)); rintro e w12 ⟨rfl, hi, hb, hk⟩; have n0_ := Aside0.mk (KeepBut.trans (by repeat (first | (with_reducible first | exact HK.out | apply KeepBut.set_ | apply keep_drewN | apply keep_drew | apply keep_alloc) | exact HK.out)) hk (.inl rfl)); have n1_ := Aside0.mk (hb); have n2_ := Aside0.mk (hi); clear HK; clear HB; clear HI0; have HK := n0_; have HB := n1_; have HI0 := n2_; clear n0_ n1_ n2_; (try clear hb); (try clear hb2); (try clear hk); (try clear hi); have p9 : 0 ≤ (x6_1 : Int) := of_decide_eq_true (by assumption); have q9 : x6_1 < (10 : Int) := of_decide_eq_true (by assumption); have hx9 := bt_at (⟨#[48, 48, 48, 48, 45, 48, 48, 45, 48, 48]⟩ : ByteArray) x6_1; replace p9 := eq_true p9; replace q9 := eq_true q9; obtain ⟨HGz13, hgz13⟩ := HI0.out; have hcz13_0 := cellS88_0 HGz13; have hcz13_1 := cellS88_1 HGz13; have hcz13_2 := cellS88_2 HGz13; have hcz13_3 := cellS88_3 HGz13; have hcz13_4 := cellS88_4 HGz13; have hfz13_0 := blk_frozen HGz13 0; have hfz13_1 := blk_frozen HGz13 1; have hfz13_2 := blk_frozen HGz13 2; have hfz13_3 := blk_frozen HGz13 3; have hfz13_4 := blk_frozen HGz13 4; clear HGz13 hgz13))
         go_ret
         exact ⟨by first | rfl | (simp [errW_none, errW_some] <;> rfl) | (simp [*, errW_none, errW_some] <;> rfl), by repeat (first | (with_reducible first | exact HI0.out | apply IsS88.alloc | apply IsS88.drewN | apply IsS88.drew | apply IsS88.set_0 | apply IsS88.set_1 | apply IsS88.set_2 | apply IsS88.set_3 | apply IsS88.set_4) | exact HI0.out), by repeat (first | (with_reducible first | exact HB.out | apply below_alloc | apply pw_below_drewN | apply below_drew1 | refine below_set ?_ (IsS88.ge HI0.out)) | exact HB.out), by repeat (first | (with_reducible first | exact HK.out | apply KeepBut.set_ | apply keep_drewN | apply keep_drew | apply keep_alloc) | exact HK.out)⟩
        ·rw [if_neg c11] at H
         have c11b0 : decide ((t355.size : Int) ≤ (wrap64 (a1 + x6_1))) = false := decide_eq_false c11
         clear c11
         obtain ⟨ji14, hji14⟩ : ∃ j_ : Int, (wrap64 (a1 + x6_1)) = j_ := ⟨_, rfl⟩
         replace H : (if 0 ≤ (ji14) then (if (ji14) < (t355.size : Int) then (if (bt t355 (ji14)) = 45 then (words_scanner_dated.l0 k1 a1 (wrap64 (x6_1 + 1)) t355 t356 t357 t358 t359) else (some (false, t355, t356, t357, t358, t359))) else (none)) else (none)) = some (r1, r2, r3, r4, r5, r6) := by first | (rw [hji14] at H; exact H) | (simp only [hji14] at H ⊢; exact H)
         (try rw [hji14] at c11b0)
         (try rw [hji14] at A7)
         have hji14w : (IntKind.i64.wrap (a1 + x6_1)) = ji14 := (i64_w _).trans hji14
         by_cases c15 : 0 ≤ (ji14)
         ·rw [if_pos c15] at H
          have c15b0 : decide (0 ≤ (ji14)) = true := decide_eq_true c15
          clear c15
          by_cases c16 : (ji14) < (t355.size : Int)
          ·rw [if_pos c16] at H
           have c16b0 : decide ((ji14) < (t355.size : Int)) = true := decide_eq_true c16
           clear c16
           by_cases c18 : (bt t355 (ji14)) = 45
           ·rw [if_pos c18] at H
            have c18b0 : ((bt t355 (ji14)) == 45) = true := beq_iff_eq.mpr c18
            have c18b1 : ((bt t355 (ji14)) != 45) = false := bne_eq_false_iff_eq.mpr c18
            clear c18
            have H' := Aside0.mk H
            clear H
            have p5 : 0 ≤ (x6_1 : Int) := of_decide_eq_true (by assumption)
            have q5 : x6_1 < (10 : Int) := of_decide_eq_true (by assumption)
            have hx5 := bt_at (⟨#[48, 48, 48, 48, 45, 48, 48, 45, 48, 48]⟩ : ByteArray) x6_1
            replace p5 := eq_true p5
            replace q5 := eq_true q5
            go_wp2_with (first | (go_at_call 201; (with_reducible refine (words_scanner_is.calls g x1000_1 x1001_1 x1002_1 x1003_1 x1004_1 ji14 2 true t355 t356 t357 t358 t359 w0 _ ?side1 ?side2 ?side3 A7.out).mono ?_); (case side1 => exact HT.out); (case side2 => repeat (first | (with_reducible first | exact HI0.out | apply IsS88.alloc | apply IsS88.drewN | apply IsS88.drew | apply IsS88.set_0 | apply IsS88.set_1 | apply IsS88.set_2 | apply IsS88.set_3 | apply IsS88.set_4) | exact HI0.out)); (case side3 => repeat (first | (with_reducible first | exact HB.out | apply below_alloc | apply pw_below_drewN | apply below_drew1 | refine below_set ?_ (IsS88.ge HI0.out)) | exact HB.out)); rintro e w19 ⟨rfl, hi, hb, hk⟩; have n0_ := Aside0.mk (KeepBut.trans (by repeat (first | (with_reducible first | exact HK.out | apply KeepBut.set_ | apply keep_drewN | apply keep_drew | apply keep_alloc) | exact HK.out)) hk (.inl rfl)); have n1_ := Aside0.mk (hb); have n2_ := Aside0.mk (hi); clear HK; clear HB; clear HI0; have HK := n0_; have HB := n1_; have HI0 := n2_; clear n0_ n1_ n2_; (try clear hb); (try clear hb2); (try clear hk); (try clear hi); have p9 : 0 ≤ (x6_1 : Int) := of_decide_eq_true (by assumption); have q9 : x6_1 < (10 : Int) := of_decide_eq_true (by assumption); have hx9 := bt_at (⟨#[48, 48, 48, 48, 45, 48, 48, 45, 48, 48]⟩ : ByteArray) x6_1; replace p9 := eq_true p9; replace q9 := eq_true q9; obtain ⟨HGz20, hgz20⟩ := HI0.out; have hcz20_0 := cellS88_0 HGz20; have hcz20_1 := cellS88_1 HGz20; have hcz20_2 := cellS88_2 HGz20; have hcz20_3 := cellS88_3 HGz20; have hcz20_4 := cellS88_4 HGz20; have hfz20_0 := blk_frozen HGz20 0; have hfz20_1 := blk_frozen HGz20 1; have hfz20_2 := blk_frozen HGz20 2; have hfz20_3 := blk_frozen HGz20 3; have hfz20_4 := blk_frozen HGz20 4; clear HGz20 hgz20; have p17 : 0 ≤ ((ji14) : Int) := of_decide_eq_true (by assumption); have q17 : (ji14) < (t355.size : Int) := of_decide_eq_true (by assumption); have hx17 := bt_at t355 (ji14); replace p17 := eq_true p17; replace q17 := eq_true q17))
            go_roundg k1
            case measure => have := HK1.out; omega
            case rel => exact ⟨(wrap64 (x6_1 + 1)), (t355), (t356), (t357), (t358), (t359), (by first | rfl | (simp [*]; done)), H', ⟨by have := HK1.out; omega⟩, ⟨by repeat (first | (with_reducible first | exact HI0.out | apply IsS88.alloc | apply IsS88.drewN | apply IsS88.drew | apply IsS88.set_0 | apply IsS88.set_1 | apply IsS88.set_2 | apply IsS88.set_3 | apply IsS88.set_4) | exact HI0.out)⟩, ⟨by repeat (first | (with_reducible first | exact HK.out | apply KeepBut.set_ | apply keep_drewN | apply keep_drew | apply keep_alloc) | exact HK.out)⟩, ⟨by repeat (first | (with_reducible first | exact HB.out | apply below_alloc | apply pw_below_drewN | apply below_drew1 | refine below_set ?_ (IsS88.ge HI0.out)) | exact HB.out)⟩⟩
           ·rw [if_neg c18] at H
            have c18b0 : ((bt t355 (ji14)) == 45) = false := beq_eq_false_iff_ne.mpr c18
            have c18b1 : ((bt t355 (ji14)) != 45) = true := bne_iff_ne.mpr c18
            simp only [Option.some.injEq, Prod.mk.injEq] at H
            obtain ⟨rfl, rfl, rfl, rfl, rfl, rfl⟩ := H
            have p5 : 0 ≤ (x6_1 : Int) := of_decide_eq_true (by assumption)
            have q5 : x6_1 < (10 : Int) := of_decide_eq_true (by assumption)
            have hx5 := bt_at (⟨#[48, 48, 48, 48, 45, 48, 48, 45, 48, 48]⟩ : ByteArray) x6_1
            replace p5 := eq_true p5
            replace q5 := eq_true q5
            go_wp2_with (first | (go_at_call 201; (with_reducible refine (words_scanner_is.calls g x1000_1 x1001_1 x1002_1 x1003_1 x1004_1 ji14 2 true t355 t356 t357 t358 t359 w0 _ ?side1 ?side2 ?side3 A7.out).mono ?_); (case side1 => exact HT.out); (case side2 => repeat (first | (with_reducible first | exact HI0.out | apply IsS88.alloc | apply IsS88.drewN | apply IsS88.drew | apply IsS88.set_0 | apply IsS88.set_1 | apply IsS88.set_2 | apply IsS88.set_3 | apply IsS88.set_4) | exact HI0.out)); (case side3 => repeat (first | (with_reducible first | exact HB.out | apply below_alloc | apply pw_below_drewN | apply below_drew1 | refine below_set ?_ (IsS88.ge HI0.out)) | exact HB.out)); rintro e w21 ⟨rfl, hi, hb, hk⟩; have n0_ := Aside0.mk (KeepBut.trans (by repeat (first | (with_reducible first | exact HK.out | apply KeepBut.set_ | apply keep_drewN | apply keep_drew | apply keep_alloc) | exact HK.out)) hk (.inl rfl)); have n1_ := Aside0.mk (hb); have n2_ := Aside0.mk (hi); clear HK; clear HB; clear HI0; have HK := n0_; have HB := n1_; have HI0 := n2_; clear n0_ n1_ n2_; (try clear hb); (try clear hb2); (try clear hk); (try clear hi); have p9 : 0 ≤ (x6_1 : Int) := of_decide_eq_true (by assumption); have q9 : x6_1 < (10 : Int) := of_decide_eq_true (by assumption); have hx9 := bt_at (⟨#[48, 48, 48, 48, 45, 48, 48, 45, 48, 48]⟩ : ByteArray) x6_1; replace p9 := eq_true p9; replace q9 := eq_true q9; obtain ⟨HGz22, hgz22⟩ := HI0.out; have hcz22_0 := cellS88_0 HGz22; have hcz22_1 := cellS88_1 HGz22; have hcz22_2 := cellS88_2 HGz22; have hcz22_3 := cellS88_3 HGz22; have hcz22_4 := cellS88_4 HGz22; have hfz22_0 := blk_frozen HGz22 0; have hfz22_1 := blk_frozen HGz22 1; have hfz22_2 := blk_frozen HGz22 2; have hfz22_3 := blk_frozen HGz22 3; have hfz22_4 := blk_frozen HGz22 4; clear HGz22 hgz22; have p17 : 0 ≤ ((ji14) : Int) := of_decide_eq_true (by assumption); have q17 : (ji14) < (t355.size : Int) := of_decide_eq_true (by assumption); have hx17 := bt_at t355 (ji14); replace p17 := eq_true p17; replace q17 := eq_true q17))
            go_ret
            exact ⟨by first | rfl | (simp [errW_none, errW_some] <;> rfl) | (simp only [← hji14]; first | rfl | (simp [errW_none, errW_some] <;> rfl)) | (simp [*, errW_none, errW_some] <;> rfl), by repeat (first | (with_reducible first | exact HI0.out | apply IsS88.alloc | apply IsS88.drewN | apply IsS88.drew | apply IsS88.set_0 | apply IsS88.set_1 | apply IsS88.set_2 | apply IsS88.set_3 | apply IsS88.set_4) | exact HI0.out), by repeat (first | (with_reducible first | exact HB.out | apply below_alloc | apply pw_below_drewN | apply below_drew1 | refine below_set ?_ (IsS88.ge HI0.out)) | exact HB.out), by repeat (first | (with_reducible first | exact HK.out | apply KeepBut.set_ | apply keep_drewN | apply keep_drew | apply keep_alloc) | exact HK.out)⟩
          ·rw [if_neg c16] at H
           exact absurd H (by simp)
         ·rw [if_neg c15] at H
          exact absurd H (by simp)
       ·rw [if_neg c10] at H
        have c10b0 : ((bt (⟨#[48, 48, 48, 48, 45, 48, 48, 45, 48, 48]⟩ : ByteArray) x6_1) == 45) = false := beq_eq_false_iff_ne.mpr c10
        have c10b1 : ((bt (⟨#[48, 48, 48, 48, 45, 48, 48, 45, 48, 48]⟩ : ByteArray) x6_1) != 45) = true := bne_iff_ne.mpr c10
        have H' := Aside0.mk H
        clear H
        have p5 : 0 ≤ (x6_1 : Int) := of_decide_eq_true (by assumption)
        have q5 : x6_1 < (10 : Int) := of_decide_eq_true (by assumption)
        have hx5 := bt_at (⟨#[48, 48, 48, 48, 45, 48, 48, 45, 48, 48]⟩ : ByteArray) x6_1
        replace p5 := eq_true p5
        replace q5 := eq_true q5
        go_wp2_with (first | (go_at_call 201; (with_reducible refine (words_scanner_is.calls g x1000_1 x1001_1 x1002_1 x1003_1 x1004_1 (wrap64 (a1 + x6_1)) 2 true t355 t356 t357 t358 t359 w0 _ ?side1 ?side2 ?side3 A7.out).mono ?_); (case side1 => exact HT.out); (case side2 => repeat (first | (with_reducible first | exact HI0.out | apply IsS88.alloc | apply IsS88.drewN | apply IsS88.drew | apply IsS88.set_0 | apply IsS88.set_1 | apply IsS88.set_2 | apply IsS88.set_3 | apply IsS88.set_4) | exact HI0.out)); (case side3 => repeat (first | (with_reducible first | exact HB.out | apply below_alloc | apply pw_below_drewN | apply below_drew1 | refine below_set ?_ (IsS88.ge HI0.out)) | exact HB.out)); rintro e w23 ⟨rfl, hi, hb, hk⟩; have n0_ := Aside0.mk (KeepBut.trans (by repeat (first | (with_reducible first | exact HK.out | apply KeepBut.set_ | apply keep_drewN | apply keep_drew | apply keep_alloc) | exact HK.out)) hk (.inl rfl)); have n1_ := Aside0.mk (hb); have n2_ := Aside0.mk (hi); clear HK; clear HB; clear HI0; have HK := n0_; have HB := n1_; have HI0 := n2_; clear n0_ n1_ n2_; (try clear hb); (try clear hb2); (try clear hk); (try clear hi); have p9 : 0 ≤ (x6_1 : Int) := of_decide_eq_true (by assumption); have q9 : x6_1 < (10 : Int) := of_decide_eq_true (by assumption); have hx9 := bt_at (⟨#[48, 48, 48, 48, 45, 48, 48, 45, 48, 48]⟩ : ByteArray) x6_1; replace p9 := eq_true p9; replace q9 := eq_true q9))
        go_roundg k1
        case measure => have := HK1.out; omega
        case rel => exact ⟨(wrap64 (x6_1 + 1)), (t355), (t356), (t357), (t358), (t359), (by first | rfl | (simp [*]; done)), H', ⟨by have := HK1.out; omega⟩, ⟨by repeat (first | (with_reducible first | exact HI0.out | apply IsS88.alloc | apply IsS88.drewN | apply IsS88.drew | apply IsS88.set_0 | apply IsS88.set_1 | apply IsS88.set_2 | apply IsS88.set_3 | apply IsS88.set_4) | exact HI0.out)⟩, ⟨by repeat (first | (with_reducible first | exact HK.out | apply KeepBut.set_ | apply keep_drewN | apply keep_drew | apply keep_alloc) | exact HK.out)⟩, ⟨by repeat (first | (with_reducible first | exact HB.out | apply below_alloc | apply pw_below_drewN | apply below_drew1 | refine below_set ?_ (IsS88.ge HI0.out)) | exact HB.out)⟩⟩
      ·replace c8 := Bool.eq_false_iff.mpr c8
       subst c8
       have H1 : (some (false, t355, t356, t357, t358, t359)) = some (r1, r2, r3, r4, r5, r6) := by rw [if_neg (show ¬ (false = true) by decide)] at H; exact H
       clear H
       have H := H1
       clear H1
       simp only [Option.some.injEq, Prod.mk.injEq] at H
       obtain ⟨rfl, rfl, rfl, rfl, rfl, rfl⟩ := H
       have p5 : 0 ≤ (x6_1 : Int) := of_decide_eq_true (by assumption)
       have q5 : x6_1 < (10 : Int) := of_decide_eq_true (by assumption)
       have hx5 := bt_at (⟨#[48, 48, 48, 48, 45, 48, 48, 45, 48, 48]⟩ : ByteArray) x6_1
       replace p5 := eq_true p5
       replace q5 := eq_true q5
       go_wp2_with (first | (go_at_call 201; (with_reducible refine (words_scanner_is.calls g x1000_1 x1001_1 x1002_1 x1003_1 x1004_1 (wrap64 (a1 + x6_1)) 2 false t355 t356 t357 t358 t359 w0 _ ?side1 ?side2 ?side3 A7.out).mono ?_); (case side1 => exact HT.out); (case side2 => repeat (first | (with_reducible first | exact HI0.out | apply IsS88.alloc | apply IsS88.drewN | apply IsS88.drew | apply IsS88.set_0 | apply IsS88.set_1 | apply IsS88.set_2 | apply IsS88.set_3 | apply IsS88.set_4) | exact HI0.out)); (case side3 => repeat (first | (with_reducible first | exact HB.out | apply below_alloc | apply pw_below_drewN | apply below_drew1 | refine below_set ?_ (IsS88.ge HI0.out)) | exact HB.out)); rintro e w24 ⟨rfl, hi, hb, hk⟩; have n0_ := Aside0.mk (KeepBut.trans (by repeat (first | (with_reducible first | exact HK.out | apply KeepBut.set_ | apply keep_drewN | apply keep_drew | apply keep_alloc) | exact HK.out)) hk (.inl rfl)); have n1_ := Aside0.mk (hb); have n2_ := Aside0.mk (hi); clear HK; clear HB; clear HI0; have HK := n0_; have HB := n1_; have HI0 := n2_; clear n0_ n1_ n2_; (try clear hb); (try clear hb2); (try clear hk); (try clear hi)))
       go_ret
       exact ⟨by first | rfl | (simp [errW_none, errW_some] <;> rfl) | (simp [*, errW_none, errW_some] <;> rfl), by repeat (first | (with_reducible first | exact HI0.out | apply IsS88.alloc | apply IsS88.drewN | apply IsS88.drew | apply IsS88.set_0 | apply IsS88.set_1 | apply IsS88.set_2 | apply IsS88.set_3 | apply IsS88.set_4) | exact HI0.out), by repeat (first | (with_reducible first | exact HB.out | apply below_alloc | apply pw_below_drewN | apply below_drew1 | refine below_set ?_ (IsS88.ge HI0.out)) | exact HB.out), by repeat (first | (with_reducible first | exact HK.out | apply KeepBut.set_ | apply keep_drewN | apply keep_drew | apply keep_alloc) | exact HK.out)⟩
     ·rw [if_neg c6] at H
      have c6b0 : ((bt (⟨#[48, 48, 48, 48, 45, 48, 48, 45, 48, 48]⟩ : ByteArray) x6_1) == 48) = false := beq_eq_false_iff_ne.mpr c6
      have c6b1 : ((bt (⟨#[48, 48, 48, 48, 45, 48, 48, 45, 48, 48]⟩ : ByteArray) x6_1) != 48) = true := bne_iff_ne.mpr c6
      by_cases c26 : (bt (⟨#[48, 48, 48, 48, 45, 48, 48, 45, 48, 48]⟩ : ByteArray) x6_1) = 45
      ·rw [if_pos c26] at H
       have c26b0 : ((bt (⟨#[48, 48, 48, 48, 45, 48, 48, 45, 48, 48]⟩ : ByteArray) x6_1) == 45) = true := beq_iff_eq.mpr c26
       have c26b1 : ((bt (⟨#[48, 48, 48, 48, 45, 48, 48, 45, 48, 48]⟩ : ByteArray) x6_1) != 45) = false := bne_eq_false_iff_eq.mpr c26
       clear c26
       by_cases c27 : (wrap64 (a1 + x6_1)) ≥ (x1000_1.size : Int)
       ·rw [if_pos c27] at H
        have c27b0 : decide ((x1000_1.size : Int) ≤ (wrap64 (a1 + x6_1))) = true := decide_eq_true c27
        clear c27
        simp only [Option.some.injEq, Prod.mk.injEq] at H
        obtain ⟨rfl, rfl, rfl, rfl, rfl, rfl⟩ := H
        have p5 : 0 ≤ (x6_1 : Int) := of_decide_eq_true (by assumption)
        have q5 : x6_1 < (10 : Int) := of_decide_eq_true (by assumption)
        have hx5 := bt_at (⟨#[48, 48, 48, 48, 45, 48, 48, 45, 48, 48]⟩ : ByteArray) x6_1
        replace p5 := eq_true p5
        replace q5 := eq_true q5
        have p25 : 0 ≤ (x6_1 : Int) := of_decide_eq_true (by assumption)
        have q25 : x6_1 < (10 : Int) := of_decide_eq_true (by assumption)
        have hx25 := bt_at (⟨#[48, 48, 48, 48, 45, 48, 48, 45, 48, 48]⟩ : ByteArray) x6_1
        replace p25 := eq_true p25
        replace q25 := eq_true q25
        obtain ⟨HGz28, hgz28⟩ := HI0.out
        have hcz28_0 := cellS88_0 HGz28
        have hcz28_1 := cellS88_1 HGz28
        have hcz28_2 := cellS88_2 HGz28
        have hcz28_3 := cellS88_3 HGz28
        have hcz28_4 := cellS88_4 HGz28
        have hfz28_0 := blk_frozen HGz28 0
        have hfz28_1 := blk_frozen HGz28 1
        have hfz28_2 := blk_frozen HGz28 2
        have hfz28_3 := blk_frozen HGz28 3
        have hfz28_4 := blk_frozen HGz28 4
        clear HGz28 hgz28
        go_wp2
        go_ret
        exact ⟨by first | rfl | (simp [errW_none, errW_some] <;> rfl) | (simp [*, errW_none, errW_some] <;> rfl), by repeat (first | (with_reducible first | exact HI0.out | apply IsS88.alloc | apply IsS88.drewN | apply IsS88.drew | apply IsS88.set_0 | apply IsS88.set_1 | apply IsS88.set_2 | apply IsS88.set_3 | apply IsS88.set_4) | exact HI0.out), by repeat (first | (with_reducible first | exact HB.out | apply below_alloc | apply pw_below_drewN | apply below_drew1 | refine below_set ?_ (IsS88.ge HI0.out)) | exact HB.out), by repeat (first | (with_reducible first | exact HK.out | apply KeepBut.set_ | apply keep_drewN | apply keep_drew | apply keep_alloc) | exact HK.out)⟩
       ·rw [if_neg c27] at H
        have c27b0 : decide ((x1000_1.size : Int) ≤ (wrap64 (a1 + x6_1))) = false := decide_eq_false c27
        clear c27
        obtain ⟨ji29, hji29⟩ : ∃ j_ : Int, (wrap64 (a1 + x6_1)) = j_ := ⟨_, rfl⟩
        replace H : (if 0 ≤ (ji29) then (if (ji29) < (x1000_1.size : Int) then (if (bt x1000_1 (ji29)) = 45 then (words_scanner_dated.l0 k1 a1 (wrap64 (x6_1 + 1)) x1000_1 x1001_1 x1002_1 x1003_1 x1004_1) else (some (false, x1000_1, x1001_1, x1002_1, x1003_1, x1004_1))) else (none)) else (none)) = some (r1, r2, r3, r4, r5, r6) := by first | (rw [hji29] at H; exact H) | (simp only [hji29] at H ⊢; exact H)
        (try rw [hji29] at c27b0)
        have hji29w : (IntKind.i64.wrap (a1 + x6_1)) = ji29 := (i64_w _).trans hji29
        by_cases c30 : 0 ≤ (ji29)
        ·rw [if_pos c30] at H
         have c30b0 : decide (0 ≤ (ji29)) = true := decide_eq_true c30
         clear c30
         by_cases c31 : (ji29) < (x1000_1.size : Int)
         ·rw [if_pos c31] at H
          have c31b0 : decide ((ji29) < (x1000_1.size : Int)) = true := decide_eq_true c31
          clear c31
          by_cases c33 : (bt x1000_1 (ji29)) = 45
          ·rw [if_pos c33] at H
           have c33b0 : ((bt x1000_1 (ji29)) == 45) = true := beq_iff_eq.mpr c33
           have c33b1 : ((bt x1000_1 (ji29)) != 45) = false := bne_eq_false_iff_eq.mpr c33
           clear c33
           have H' := Aside0.mk H
           clear H
           have p5 : 0 ≤ (x6_1 : Int) := of_decide_eq_true (by assumption)
           have q5 : x6_1 < (10 : Int) := of_decide_eq_true (by assumption)
           have hx5 := bt_at (⟨#[48, 48, 48, 48, 45, 48, 48, 45, 48, 48]⟩ : ByteArray) x6_1
           replace p5 := eq_true p5
           replace q5 := eq_true q5
           have p25 : 0 ≤ (x6_1 : Int) := of_decide_eq_true (by assumption)
           have q25 : x6_1 < (10 : Int) := of_decide_eq_true (by assumption)
           have hx25 := bt_at (⟨#[48, 48, 48, 48, 45, 48, 48, 45, 48, 48]⟩ : ByteArray) x6_1
           replace p25 := eq_true p25
           replace q25 := eq_true q25
           obtain ⟨HGz34, hgz34⟩ := HI0.out
           have hcz34_0 := cellS88_0 HGz34
           have hcz34_1 := cellS88_1 HGz34
           have hcz34_2 := cellS88_2 HGz34
           have hcz34_3 := cellS88_3 HGz34
           have hcz34_4 := cellS88_4 HGz34
           have hfz34_0 := blk_frozen HGz34 0
           have hfz34_1 := blk_frozen HGz34 1
           have hfz34_2 := blk_frozen HGz34 2
           have hfz34_3 := blk_frozen HGz34 3
           have hfz34_4 := blk_frozen HGz34 4
           clear HGz34 hgz34
           have p32 : 0 ≤ ((ji29) : Int) := of_decide_eq_true (by assumption)
           have q32 : (ji29) < (x1000_1.size : Int) := of_decide_eq_true (by assumption)
           have hx32 := bt_at x1000_1 (ji29)
           replace p32 := eq_true p32
           replace q32 := eq_true q32
           go_wp2
           go_roundg k1
           case measure => have := HK1.out; omega
           case rel => exact ⟨(wrap64 (x6_1 + 1)), (x1000_1), (x1001_1), (x1002_1), (x1003_1), (x1004_1), (by first | rfl | (simp [*]; done)), H', ⟨by have := HK1.out; omega⟩, ⟨by repeat (first | (with_reducible first | exact HI0.out | apply IsS88.alloc | apply IsS88.drewN | apply IsS88.drew | apply IsS88.set_0 | apply IsS88.set_1 | apply IsS88.set_2 | apply IsS88.set_3 | apply IsS88.set_4) | exact HI0.out)⟩, ⟨by repeat (first | (with_reducible first | exact HK.out | apply KeepBut.set_ | apply keep_drewN | apply keep_drew | apply keep_alloc) | exact HK.out)⟩, ⟨by repeat (first | (with_reducible first | exact HB.out | apply below_alloc | apply pw_below_drewN | apply below_drew1 | refine below_set ?_ (IsS88.ge HI0.out)) | exact HB.out)⟩⟩
          ·rw [if_neg c33] at H
           have c33b0 : ((bt x1000_1 (ji29)) == 45) = false := beq_eq_false_iff_ne.mpr c33
           have c33b1 : ((bt x1000_1 (ji29)) != 45) = true := bne_iff_ne.mpr c33
           simp only [Option.some.injEq, Prod.mk.injEq] at H
           obtain ⟨rfl, rfl, rfl, rfl, rfl, rfl⟩ := H
           have p5 : 0 ≤ (x6_1 : Int) := of_decide_eq_true (by assumption)
           have q5 : x6_1 < (10 : Int) := of_decide_eq_true (by assumption)
           have hx5 := bt_at (⟨#[48, 48, 48, 48, 45, 48, 48, 45, 48, 48]⟩ : ByteArray) x6_1
           replace p5 := eq_true p5
           replace q5 := eq_true q5
           have p25 : 0 ≤ (x6_1 : Int) := of_decide_eq_true (by assumption)
           have q25 : x6_1 < (10 : Int) := of_decide_eq_true (by assumption)
           have hx25 := bt_at (⟨#[48, 48, 48, 48, 45, 48, 48, 45, 48, 48]⟩ : ByteArray) x6_1
           replace p25 := eq_true p25
           replace q25 := eq_true q25
           obtain ⟨HGz35, hgz35⟩ := HI0.out
           have hcz35_0 := cellS88_0 HGz35
           have hcz35_1 := cellS88_1 HGz35
           have hcz35_2 := cellS88_2 HGz35
           have hcz35_3 := cellS88_3 HGz35
           have hcz35_4 := cellS88_4 HGz35
           have hfz35_0 := blk_frozen HGz35 0
           have hfz35_1 := blk_frozen HGz35 1
           have hfz35_2 := blk_frozen HGz35 2
           have hfz35_3 := blk_frozen HGz35 3
           have hfz35_4 := blk_frozen HGz35 4
           clear HGz35 hgz35
           have p32 : 0 ≤ ((ji29) : Int) := of_decide_eq_true (by assumption)
           have q32 : (ji29) < (x1000_1.size : Int) := of_decide_eq_true (by assumption)
           have hx32 := bt_at x1000_1 (ji29)
           replace p32 := eq_true p32
           replace q32 := eq_true q32
           go_wp2
           go_ret
           exact ⟨by first | rfl | (simp [errW_none, errW_some] <;> rfl) | (simp only [← hji29]; first | rfl | (simp [errW_none, errW_some] <;> rfl)) | (simp [*, errW_none, errW_some] <;> rfl), by repeat (first | (with_reducible first | exact HI0.out | apply IsS88.alloc | apply IsS88.drewN | apply IsS88.drew | apply IsS88.set_0 | apply IsS88.set_1 | apply IsS88.set_2 | apply IsS88.set_3 | apply IsS88.set_4) | exact HI0.out), by repeat (first | (with_reducible first | exact HB.out | apply below_alloc | apply pw_below_drewN | apply below_drew1 | refine below_set ?_ (IsS88.ge HI0.out)) | exact HB.out), by repeat (first | (with_reducible first | exact HK.out | apply KeepBut.set_ | apply keep_drewN | apply keep_drew | apply keep_alloc) | exact HK.out)⟩
         ·rw [if_neg c31] at H
          exact absurd H (by simp)
        ·rw [if_neg c30] at H
         exact absurd H (by simp)
      ·rw [if_neg c26] at H
       have c26b0 : ((bt (⟨#[48, 48, 48, 48, 45, 48, 48, 45, 48, 48]⟩ : ByteArray) x6_1) == 45) = false := beq_eq_false_iff_ne.mpr c26
       have c26b1 : ((bt (⟨#[48, 48, 48, 48, 45, 48, 48, 45, 48, 48]⟩ : ByteArray) x6_1) != 45) = true := bne_iff_ne.mpr c26
       have H' := Aside0.mk H
       clear H
       have p5 : 0 ≤ (x6_1 : Int) := of_decide_eq_true (by assumption)
       have q5 : x6_1 < (10 : Int) := of_decide_eq_true (by assumption)
       have hx5 := bt_at (⟨#[48, 48, 48, 48, 45, 48, 48, 45, 48, 48]⟩ : ByteArray) x6_1
       replace p5 := eq_true p5
       replace q5 := eq_true q5
       have p25 : 0 ≤ (x6_1 : Int) := of_decide_eq_true (by assumption)
       have q25 : x6_1 < (10 : Int) := of_decide_eq_true (by assumption)
       have hx25 := bt_at (⟨#[48, 48, 48, 48, 45, 48, 48, 45, 48, 48]⟩ : ByteArray) x6_1
       replace p25 := eq_true p25
       replace q25 := eq_true q25
       go_wp2
       go_roundg k1
       case measure => have := HK1.out; omega
       case rel => exact ⟨(wrap64 (x6_1 + 1)), (x1000_1), (x1001_1), (x1002_1), (x1003_1), (x1004_1), (by first | rfl | (simp [*]; done)), H', ⟨by have := HK1.out; omega⟩, ⟨by repeat (first | (with_reducible first | exact HI0.out | apply IsS88.alloc | apply IsS88.drewN | apply IsS88.drew | apply IsS88.set_0 | apply IsS88.set_1 | apply IsS88.set_2 | apply IsS88.set_3 | apply IsS88.set_4) | exact HI0.out)⟩, ⟨by repeat (first | (with_reducible first | exact HK.out | apply KeepBut.set_ | apply keep_drewN | apply keep_drew | apply keep_alloc) | exact HK.out)⟩, ⟨by repeat (first | (with_reducible first | exact HB.out | apply below_alloc | apply pw_below_drewN | apply below_drew1 | refine below_set ?_ (IsS88.ge HI0.out)) | exact HB.out)⟩⟩
    ·rw [if_neg c4] at H
     exact absurd H (by simp)
   ·rw [if_neg c3] at H
    have c3b0 : decide (x6_1 < 10) = false := decide_eq_false c3
    clear c3
    simp only [Option.some.injEq, Prod.mk.injEq] at H
    obtain ⟨rfl, rfl, rfl, rfl, rfl, rfl⟩ := H
    go_wp2
    go_ret
    exact ⟨by first | rfl | (simp [errW_none, errW_some] <;> rfl) | (simp [*, errW_none, errW_some] <;> rfl), by repeat (first | (with_reducible first | exact HI0.out | apply IsS88.alloc | apply IsS88.drewN | apply IsS88.drew | apply IsS88.set_0 | apply IsS88.set_1 | apply IsS88.set_2 | apply IsS88.set_3 | apply IsS88.set_4) | exact HI0.out), by repeat (first | (with_reducible first | exact HB.out | apply below_alloc | apply pw_below_drewN | apply below_drew1 | refine below_set ?_ (IsS88.ge HI0.out)) | exact HB.out), by repeat (first | (with_reducible first | exact HK.out | apply KeepBut.set_ | apply keep_drewN | apply keep_drew | apply keep_alloc) | exact HK.out)⟩
def levyref4_isLetter.f (a0 : Int) : Option (Bool) := if a0 ≥ 97 then (some (decide (a0 ≤ 122))) else (some false)
set_option maxHeartbeats 8000000 in
set_option maxRecDepth 100000 in
theorem levyref4_isLetter.calls (a0 : Int) (r : Bool) (w : World) (h : levyref4_isLetter.f a0 = some r) :
  Calls Tryz.prog 123 #[.int .u8 a0] w fun e w' => e = .returned (.bool r) ∧ Drawn0 w w' := by
 have H : (if a0 ≥ 97 then (some (decide (a0 ≤ 122))) else (some false)) = some r := h
 clear h
 by_cases c2 : a0 ≥ 97
 ·rw [if_pos c2] at H
  have c2b0 : decide (97 ≤ a0) = true := decide_eq_true c2
  clear c2
  obtain rfl := Option.some.inj H
  go_enter Tryz.func123, Tryz.ntmps123
  go_wp2
  go_ret
  exact ⟨by first | rfl | (simp [*]; done), by repeat (first | exact Drawn0.refl _ | apply Drawn0.step)⟩
 ·rw [if_neg c2] at H
  have c2b0 : decide (97 ≤ a0) = false := decide_eq_false c2
  clear c2
  obtain rfl := Option.some.inj H
  go_enter Tryz.func123, Tryz.ntmps123
  go_wp2
  go_ret
  exact ⟨by first | rfl | (simp [*]; done), by repeat (first | exact Drawn0.refl _ | apply Drawn0.step)⟩
def levyref4_isDigit.f (a0 : Int) : Option (Bool) := if a0 ≥ 48 then (some (decide (a0 ≤ 57))) else (some false)
set_option maxHeartbeats 8000000 in
set_option maxRecDepth 100000 in
theorem levyref4_isDigit.calls (a0 : Int) (r : Bool) (w : World) (h : levyref4_isDigit.f a0 = some r) :
  Calls Tryz.prog 125 #[.int .u8 a0] w fun e w' => e = .returned (.bool r) ∧ Drawn0 w w' := by
 have H : (if a0 ≥ 48 then (some (decide (a0 ≤ 57))) else (some false)) = some r := h
 clear h
 by_cases c2 : a0 ≥ 48
 ·rw [if_pos c2] at H
  have c2b0 : decide (48 ≤ a0) = true := decide_eq_true c2
  clear c2
  obtain rfl := Option.some.inj H
  go_enter Tryz.func125, Tryz.ntmps125
  go_wp2
  go_ret
  exact ⟨by first | rfl | (simp [*]; done), by repeat (first | exact Drawn0.refl _ | apply Drawn0.step)⟩
 ·rw [if_neg c2] at H
  have c2b0 : decide (48 ≤ a0) = false := decide_eq_false c2
  clear c2
  obtain rfl := Option.some.inj H
  go_enter Tryz.func125, Tryz.ntmps125
  go_wp2
  go_ret
  exact ⟨by first | rfl | (simp [*]; done), by repeat (first | exact Drawn0.refl _ | apply Drawn0.step)⟩
def levyref4_isWord.f (a0 : Int) : Option (Bool) := (levyref4_isLetter.f a0).bind fun t101 => (if t101 = true then (some true) else ((levyref4_isDigit.f a0).bind fun t102 => (if t102 = true then (some true) else (some (a0 == 95)))))
set_option maxHeartbeats 8000000 in
set_option maxRecDepth 100000 in
theorem levyref4_isWord.calls (a0 : Int) (r : Bool) (w : World) (h : levyref4_isWord.f a0 = some r) :
  Calls Tryz.prog 198 #[.int .u8 a0] w fun e w' => e = .returned (.bool r) ∧ Drawn0 w w' := by
 have H : ((levyref4_isLetter.f a0).bind fun t101 => (if t101 = true then (some true) else ((levyref4_isDigit.f a0).bind fun t102 => (if t102 = true then (some true) else (some (a0 == 95)))))) = some r := h
 clear h
 replace H := Option.bind_eq_some_iff.mp H
 obtain ⟨t101, A20, H⟩ := H
 replace H : (if t101 = true then (some true) else ((levyref4_isDigit.f a0).bind fun t102 => (if t102 = true then (some true) else (some (a0 == 95))))) = some r := H
 have A2 := Aside0.mk A20
 clear A20
 by_cases c3 : t101 = true
 ·subst c3
  have H1 : (some true) = some r := by rw [if_pos rfl] at H; exact H
  clear H
  have H := H1
  clear H1
  obtain rfl := Option.some.inj H
  go_enter Tryz.func198, Tryz.ntmps198
  go_wp2_with (first | ((with_reducible refine gate_callee (f := 123) rfl ?_); refine goesL_ (some 4) rfl rfl Tryz.func123 (by kernel_rfl) rfl #[.int .u8 a0] rfl (by (try simp only [List.map_toArray, List.map_cons, List.map_nil]); first | done | rfl | (simp only [List.length_drop, List.length_take]; rfl)) ?_; (with_reducible refine (levyref4_isLetter.calls a0 true _ A2.out).mono ?_); rintro e w' ⟨rfl, ⟨nd, rfl⟩⟩; refine ⟨_, rfl, ?_⟩))
  go_ret
  exact ⟨by first | rfl | (simp [*]; done), by repeat (first | exact Drawn0.refl _ | apply Drawn0.step)⟩
 ·replace c3 := Bool.eq_false_iff.mpr c3
  subst c3
  have H1 : ((levyref4_isDigit.f a0).bind fun t102 => (if t102 = true then (some true) else (some (a0 == 95)))) = some r := by rw [if_neg (show ¬ (false = true) by decide)] at H; exact H
  clear H
  have H := H1
  clear H1
  replace H := Option.bind_eq_some_iff.mp H
  obtain ⟨t102, A40, H⟩ := H
  replace H : (if t102 = true then (some true) else (some (a0 == 95))) = some r := H
  have A4 := Aside0.mk A40
  clear A40
  by_cases c5 : t102 = true
  ·subst c5
   have H1 : (some true) = some r := by rw [if_pos rfl] at H; exact H
   clear H
   have H := H1
   clear H1
   obtain rfl := Option.some.inj H
   go_enter Tryz.func198, Tryz.ntmps198
   go_wp2_with (first | ((with_reducible refine gate_callee (f := 123) rfl ?_); refine goesL_ (some 4) rfl rfl Tryz.func123 (by kernel_rfl) rfl #[.int .u8 a0] rfl (by (try simp only [List.map_toArray, List.map_cons, List.map_nil]); first | done | rfl | (simp only [List.length_drop, List.length_take]; rfl)) ?_; (with_reducible refine (levyref4_isLetter.calls a0 false _ A2.out).mono ?_); rintro e w' ⟨rfl, ⟨nd, rfl⟩⟩; refine ⟨_, rfl, ?_⟩) | (go_at_call 125; (with_reducible refine (levyref4_isDigit.calls a0 true _ A4.out).mono ?_); rintro e w' ⟨rfl, ⟨nd, rfl⟩⟩))
   go_ret
   exact ⟨by first | rfl | (simp [*]; done), by repeat (first | exact Drawn0.refl _ | apply Drawn0.step)⟩
  ·replace c5 := Bool.eq_false_iff.mpr c5
   subst c5
   have H1 : (some (a0 == 95)) = some r := by rw [if_neg (show ¬ (false = true) by decide)] at H; exact H
   clear H
   have H := H1
   clear H1
   obtain rfl := Option.some.inj H
   go_enter Tryz.func198, Tryz.ntmps198
   go_wp2_with (first | ((with_reducible refine gate_callee (f := 123) rfl ?_); refine goesL_ (some 4) rfl rfl Tryz.func123 (by kernel_rfl) rfl #[.int .u8 a0] rfl (by (try simp only [List.map_toArray, List.map_cons, List.map_nil]); first | done | rfl | (simp only [List.length_drop, List.length_take]; rfl)) ?_; (with_reducible refine (levyref4_isLetter.calls a0 false _ A2.out).mono ?_); rintro e w' ⟨rfl, ⟨nd, rfl⟩⟩; refine ⟨_, rfl, ?_⟩) | (go_at_call 125; (with_reducible refine (levyref4_isDigit.calls a0 false _ A4.out).mono ?_); rintro e w' ⟨rfl, ⟨nd, rfl⟩⟩))
   go_ret
   exact ⟨by first | rfl | (simp [*]; done), by repeat (first | exact Drawn0.refl _ | apply Drawn0.step)⟩
def levyref4_run.l0 : Nat → ByteArray → Int → Int → Int → Option (Int)
 | 0, _, _, _, _ => none
 | k + 1, x0, x1, x2, x7 => if (wrap64 (x1 + x7)) < (x0.size : Int) then (if x2 = 1 then (if 0 ≤ (wrap64 (x1 + x7)) then ((levyref4_isDigit.f (bt x0 (wrap64 (x1 + x7)))).bind fun t103 => (if t103 = true then (levyref4_run.l0 k x0 x1 x2 (wrap64 (x7 + 1))) else (if x2 = 2 then ((levyref4_isWord.f (bt x0 (wrap64 (x1 + x7)))).bind fun t104 => (if t104 = true then (levyref4_run.l0 k x0 x1 x2 (wrap64 (x7 + 1))) else (some x7))) else (some x7)))) else (none)) else (if x2 = 2 then (if 0 ≤ (wrap64 (x1 + x7)) then ((levyref4_isWord.f (bt x0 (wrap64 (x1 + x7)))).bind fun t105 => (if t105 = true then (levyref4_run.l0 k x0 x1 x2 (wrap64 (x7 + 1))) else (some x7))) else (none)) else (some x7))) else (some x7)
def levyref4_run.f (k : Nat) (a0 : ByteArray) (a1 : Int) (a2 : Int) : Option (Int) := levyref4_run.l0 k a0 a1 a2 0
set_option maxHeartbeats 8000000 in
set_option maxRecDepth 100000 in
theorem levyref4_run.calls (k : Nat) (a0 : ByteArray) (a1 : Int) (a2 : Int) (r : Int) (w : World) (h : levyref4_run.f k a0 a1 a2 = some r) :
  Calls Tryz.prog 124 #[.string a0, .int .i64 a1, .int .i64 a2] w fun e w' => e = .returned (.int .i64 r) ∧ Drawn0 w w' := by
 have H : (levyref4_run.l0 k a0 a1 a2 0) = some r := h
 clear h
 have H' := Aside0.mk H
 clear H
 go_enter Tryz.func124, Tryz.ntmps124
 go_wp2
 go_loopg [7] k (fun kq v7 w' => ∃ (x7_1 : Int), v7 = .int .i64 x7_1 ∧ Aside0 (levyref4_run.l0 kq a0 a1 a2 x7_1 = some r) ∧ Aside0 (kq ≤ k) ∧ Drawn0 w w')
 case atStart => exact ⟨(0), (by first | rfl | (simp [*]; done)), H', ⟨Nat.le_refl _⟩, by repeat (first | exact Drawn0.refl _ | apply Drawn0.step)⟩
 case round =>
  clear H'
  try clear c1
  try clear p2
  obtain ⟨x7_1, rfl, HA, HK1, ⟨m1, rfl⟩⟩ := hrel
  cases gk with
  | zero => exact absurd HA.out (by simp [levyref4_run.l0])
  | succ k1 =>
   have H := HA.out
   clear HA
   simp only [levyref4_run.l0] at H
   by_cases c4 : (wrap64 (a1 + x7_1)) < (a0.size : Int)
   ·rw [if_pos c4] at H
    have c4b0 : decide ((wrap64 (a1 + x7_1)) < (a0.size : Int)) = true := decide_eq_true c4
    clear c4
    by_cases c5 : a2 = 1
    ·rw [if_pos c5] at H
     have c5b0 : (a2 == 1) = true := beq_iff_eq.mpr c5
     have c5b1 : (a2 != 1) = false := bne_eq_false_iff_eq.mpr c5
     clear c5
     obtain ⟨ji6, hji6⟩ : ∃ j_ : Int, (wrap64 (a1 + x7_1)) = j_ := ⟨_, rfl⟩
     replace H : (if 0 ≤ (ji6) then ((levyref4_isDigit.f (bt a0 (ji6))).bind fun t103 => (if t103 = true then (levyref4_run.l0 k1 a0 a1 a2 (wrap64 (x7_1 + 1))) else (if a2 = 2 then ((levyref4_isWord.f (bt a0 (ji6))).bind fun t104 => (if t104 = true then (levyref4_run.l0 k1 a0 a1 a2 (wrap64 (x7_1 + 1))) else (some x7_1))) else (some x7_1)))) else (none)) = some r := by first | (rw [hji6] at H; exact H) | (simp only [hji6] at H ⊢; exact H)
     (try rw [hji6] at c4b0)
     have hji6w : (IntKind.i64.wrap (a1 + x7_1)) = ji6 := (i64_w _).trans hji6
     by_cases c7 : 0 ≤ (ji6)
     ·rw [if_pos c7] at H
      have c7b0 : decide (0 ≤ (ji6)) = true := decide_eq_true c7
      clear c7
      replace H := Option.bind_eq_some_iff.mp H
      obtain ⟨t103, A90, H⟩ := H
      replace H : (if t103 = true then (levyref4_run.l0 k1 a0 a1 a2 (wrap64 (x7_1 + 1))) else (if a2 = 2 then ((levyref4_isWord.f (bt a0 (ji6))).bind fun t104 => (if t104 = true then (levyref4_run.l0 k1 a0 a1 a2 (wrap64 (x7_1 + 1))) else (some x7_1))) else (some x7_1))) = some r := H
      have A9 := Aside0.mk A90
      clear A90
      by_cases c10 : t103 = true
      ·subst c10
       have H1 : (levyref4_run.l0 k1 a0 a1 a2 (wrap64 (x7_1 + 1))) = some r := by rw [if_pos rfl] at H; exact H
       clear H
       have H := H1
       clear H1
       have H' := Aside0.mk H
       clear H
       have p8 : 0 ≤ ((ji6) : Int) := of_decide_eq_true (by assumption)
       have q8 : (ji6) < (a0.size : Int) := of_decide_eq_true (by assumption)
       have hx8 := bt_at a0 (ji6)
       replace p8 := eq_true p8
       replace q8 := eq_true q8
       go_wp2_with (first | (go_at_call 125; (with_reducible refine (levyref4_isDigit.calls (bt a0 (ji6)) true _ A9.out).mono ?_); rintro e w' ⟨rfl, ⟨nd, rfl⟩⟩))
       go_roundg k1
       case measure => have := HK1.out; omega
       case rel => exact ⟨(wrap64 (x7_1 + 1)), (by first | rfl | (simp [*]; done)), H', ⟨by have := HK1.out; omega⟩, by repeat (first | exact Drawn0.refl _ | apply Drawn0.step)⟩
      ·replace c10 := Bool.eq_false_iff.mpr c10
       subst c10
       have H1 : (if a2 = 2 then ((levyref4_isWord.f (bt a0 (ji6))).bind fun t104 => (if t104 = true then (levyref4_run.l0 k1 a0 a1 a2 (wrap64 (x7_1 + 1))) else (some x7_1))) else (some x7_1)) = some r := by rw [if_neg (show ¬ (false = true) by decide)] at H; exact H
       clear H
       have H := H1
       clear H1
       by_cases c11 : a2 = 2
       ·rw [if_pos c11] at H
        have c11b0 : (a2 == 2) = true := beq_iff_eq.mpr c11
        have c11b1 : (a2 != 2) = false := bne_eq_false_iff_eq.mpr c11
        clear c11
        replace H := Option.bind_eq_some_iff.mp H
        obtain ⟨t104, A130, H⟩ := H
        replace H : (if t104 = true then (levyref4_run.l0 k1 a0 a1 a2 (wrap64 (x7_1 + 1))) else (some x7_1)) = some r := H
        have A13 := Aside0.mk A130
        clear A130
        by_cases c14 : t104 = true
        ·subst c14
         have H1 : (levyref4_run.l0 k1 a0 a1 a2 (wrap64 (x7_1 + 1))) = some r := by rw [if_pos rfl] at H; exact H
         clear H
         have H := H1
         clear H1
         have H' := Aside0.mk H
         clear H
         have p8 : 0 ≤ ((ji6) : Int) := of_decide_eq_true (by assumption)
         have q8 : (ji6) < (a0.size : Int) := of_decide_eq_true (by assumption)
         have hx8 := bt_at a0 (ji6)
         replace p8 := eq_true p8
         replace q8 := eq_true q8
         go_wp2_with (first | (go_at_call 125; (with_reducible refine (levyref4_isDigit.calls (bt a0 (ji6)) false _ A9.out).mono ?_); rintro e w' ⟨rfl, ⟨nd, rfl⟩⟩; have p12 : 0 ≤ ((ji6) : Int) := of_decide_eq_true (by assumption); have q12 : (ji6) < (a0.size : Int) := of_decide_eq_true (by assumption); have hx12 := bt_at a0 (ji6); replace p12 := eq_true p12; replace q12 := eq_true q12) | (go_at_call 198; (with_reducible refine (levyref4_isWord.calls (bt a0 (ji6)) true _ A13.out).mono ?_); rintro e w' ⟨rfl, ⟨nd, rfl⟩⟩))
         go_roundg k1
         case measure => have := HK1.out; omega
         case rel => exact ⟨(wrap64 (x7_1 + 1)), (by first | rfl | (simp [*]; done)), H', ⟨by have := HK1.out; omega⟩, by repeat (first | exact Drawn0.refl _ | apply Drawn0.step)⟩
        ·replace c14 := Bool.eq_false_iff.mpr c14
         subst c14
         have H1 : (some x7_1) = some r := by rw [if_neg (show ¬ (false = true) by decide)] at H; exact H
         clear H
         have H := H1
         clear H1
         obtain rfl := Option.some.inj H
         have p8 : 0 ≤ ((ji6) : Int) := of_decide_eq_true (by assumption)
         have q8 : (ji6) < (a0.size : Int) := of_decide_eq_true (by assumption)
         have hx8 := bt_at a0 (ji6)
         replace p8 := eq_true p8
         replace q8 := eq_true q8
         go_wp2_with (first | (go_at_call 125; (with_reducible refine (levyref4_isDigit.calls (bt a0 (ji6)) false _ A9.out).mono ?_); rintro e w' ⟨rfl, ⟨nd, rfl⟩⟩; have p12 : 0 ≤ ((ji6) : Int) := of_decide_eq_true (by assumption); have q12 : (ji6) < (a0.size : Int) := of_decide_eq_true (by assumption); have hx12 := bt_at a0 (ji6); replace p12 := eq_true p12; replace q12 := eq_true q12) | (go_at_call 198; (with_reducible refine (levyref4_isWord.calls (bt a0 (ji6)) false _ A13.out).mono ?_); rintro e w' ⟨rfl, ⟨nd, rfl⟩⟩))
         go_ret
         exact ⟨by first | rfl | (simp; done) | (simp only [← hji6] <;> (first | rfl | simp)) | (simp [*]; done), by repeat (first | exact Drawn0.refl _ | apply Drawn0.step)⟩
       ·rw [if_neg c11] at H
        have c11b0 : (a2 == 2) = false := beq_eq_false_iff_ne.mpr c11
        have c11b1 : (a2 != 2) = true := bne_iff_ne.mpr c11
        obtain rfl := Option.some.inj H
        have p8 : 0 ≤ ((ji6) : Int) := of_decide_eq_true (by assumption)
        have q8 : (ji6) < (a0.size : Int) := of_decide_eq_true (by assumption)
        have hx8 := bt_at a0 (ji6)
        replace p8 := eq_true p8
        replace q8 := eq_true q8
        go_wp2_with (first | (go_at_call 125; (with_reducible refine (levyref4_isDigit.calls (bt a0 (ji6)) false _ A9.out).mono ?_); rintro e w' ⟨rfl, ⟨nd, rfl⟩⟩))
        go_ret
        exact ⟨by first | rfl | (simp; done) | (simp only [← hji6] <;> (first | rfl | simp)) | (simp [*]; done), by repeat (first | exact Drawn0.refl _ | apply Drawn0.step)⟩
     ·rw [if_neg c7] at H
      exact absurd H (by simp)
    ·rw [if_neg c5] at H
     have c5b0 : (a2 == 1) = false := beq_eq_false_iff_ne.mpr c5
     have c5b1 : (a2 != 1) = true := bne_iff_ne.mpr c5
     by_cases c15 : a2 = 2
     ·rw [if_pos c15] at H
      have c15b0 : (a2 == 2) = true := beq_iff_eq.mpr c15
      have c15b1 : (a2 != 2) = false := bne_eq_false_iff_eq.mpr c15
      clear c15
      obtain ⟨ji16, hji16⟩ : ∃ j_ : Int, (wrap64 (a1 + x7_1)) = j_ := ⟨_, rfl⟩
      replace H : (if 0 ≤ (ji16) then ((levyref4_isWord.f (bt a0 (ji16))).bind fun t105 => (if t105 = true then (levyref4_run.l0 k1 a0 a1 a2 (wrap64 (x7_1 + 1))) else (some x7_1))) else (none)) = some r := by first | (rw [hji16] at H; exact H) | (simp only [hji16] at H ⊢; exact H)
      (try rw [hji16] at c4b0)
      have hji16w : (IntKind.i64.wrap (a1 + x7_1)) = ji16 := (i64_w _).trans hji16
      by_cases c17 : 0 ≤ (ji16)
      ·rw [if_pos c17] at H
       have c17b0 : decide (0 ≤ (ji16)) = true := decide_eq_true c17
       clear c17
       replace H := Option.bind_eq_some_iff.mp H
       obtain ⟨t105, A190, H⟩ := H
       replace H : (if t105 = true then (levyref4_run.l0 k1 a0 a1 a2 (wrap64 (x7_1 + 1))) else (some x7_1)) = some r := H
       have A19 := Aside0.mk A190
       clear A190
       by_cases c20 : t105 = true
       ·subst c20
        have H1 : (levyref4_run.l0 k1 a0 a1 a2 (wrap64 (x7_1 + 1))) = some r := by rw [if_pos rfl] at H; exact H
        clear H
        have H := H1
        clear H1
        have H' := Aside0.mk H
        clear H
        have p18 : 0 ≤ ((ji16) : Int) := of_decide_eq_true (by assumption)
        have q18 : (ji16) < (a0.size : Int) := of_decide_eq_true (by assumption)
        have hx18 := bt_at a0 (ji16)
        replace p18 := eq_true p18
        replace q18 := eq_true q18
        go_wp2_with (first | (go_at_call 198; (with_reducible refine (levyref4_isWord.calls (bt a0 (ji16)) true _ A19.out).mono ?_); rintro e w' ⟨rfl, ⟨nd, rfl⟩⟩))
        go_roundg k1
        case measure => have := HK1.out; omega
        case rel => exact ⟨(wrap64 (x7_1 + 1)), (by first | rfl | (simp [*]; done)), H', ⟨by have := HK1.out; omega⟩, by repeat (first | exact Drawn0.refl _ | apply Drawn0.step)⟩
       ·replace c20 := Bool.eq_false_iff.mpr c20
        subst c20
        have H1 : (some x7_1) = some r := by rw [if_neg (show ¬ (false = true) by decide)] at H; exact H
        clear H
        have H := H1
        clear H1
        obtain rfl := Option.some.inj H
        have p18 : 0 ≤ ((ji16) : Int) := of_decide_eq_true (by assumption)
        have q18 : (ji16) < (a0.size : Int) := of_decide_eq_true (by assumption)
        have hx18 := bt_at a0 (ji16)
        replace p18 := eq_true p18
        replace q18 := eq_true q18
        go_wp2_with (first | (go_at_call 198; (with_reducible refine (levyref4_isWord.calls (bt a0 (ji16)) false _ A19.out).mono ?_); rintro e w' ⟨rfl, ⟨nd, rfl⟩⟩))
        go_ret
        exact ⟨by first | rfl | (simp; done) | (simp only [← hji16] <;> (first | rfl | simp)) | (simp [*]; done), by repeat (first | exact Drawn0.refl _ | apply Drawn0.step)⟩
      ·rw [if_neg c17] at H
       exact absurd H (by simp)
     ·rw [if_neg c15] at H
      have c15b0 : (a2 == 2) = false := beq_eq_false_iff_ne.mpr c15
      have c15b1 : (a2 != 2) = true := bne_iff_ne.mpr c15
      obtain rfl := Option.some.inj H
      go_wp2
      go_ret
      exact ⟨by first | rfl | (simp [*]; done), by repeat (first | exact Drawn0.refl _ | apply Drawn0.step)⟩
   ·rw [if_neg c4] at H
    have c4b0 : decide ((wrap64 (a1 + x7_1)) < (a0.size : Int)) = false := decide_eq_false c4
    clear c4
    obtain rfl := Option.some.inj H
    go_wp2
    go_ret
    exact ⟨by first | rfl | (simp [*]; done), by repeat (first | exact Drawn0.refl _ | apply Drawn0.step)⟩
mutual
def levyref4_dateAt.j0 : Nat → ByteArray → Int → Bool → Option (Bool)
 | 0, _, _, _ => none
 | k + 1, x0, x1, x24 => if x24 = true then (some false) else (levyref4_dateAt.l0 k x0 x1 0)
def levyref4_dateAt.l0 : Nat → ByteArray → Int → Int → Option (Bool)
 | 0, _, _, _ => none
 | k + 1, x0, x1, x5 => if x5 < 10 then (if x5 = 4 then (levyref4_dateAt.l0 k x0 x1 (wrap64 (x5 + 1))) else (if x5 = 7 then (levyref4_dateAt.l0 k x0 x1 (wrap64 (x5 + 1))) else (if 0 ≤ (wrap64 (x1 + x5)) then (if (wrap64 (x1 + x5)) < (x0.size : Int) then ((levyref4_isDigit.f (bt x0 (wrap64 (x1 + x5)))).bind fun t106 => (if t106 = true then (levyref4_dateAt.l0 k x0 x1 (wrap64 (x5 + 1))) else (some false))) else (none)) else (none)))) else (some true)
end
def levyref4_dateAt.f (k : Nat) (a0 : ByteArray) (a1 : Int) : Option (Bool) := if (wrap64 (a1 + 10)) > (a0.size : Int) then (levyref4_dateAt.j0 k a0 a1 true) else (if 0 ≤ (wrap64 (a1 + 4)) then (if (wrap64 (a1 + 4)) < (a0.size : Int) then (if (bt a0 (wrap64 (a1 + 4))) = 45 then (if 0 ≤ (wrap64 (a1 + 7)) then (if (wrap64 (a1 + 7)) < (a0.size : Int) then (levyref4_dateAt.j0 k a0 a1 ((bt a0 (wrap64 (a1 + 7))) != 45)) else (none)) else (none)) else (levyref4_dateAt.j0 k a0 a1 true)) else (none)) else (none))
set_option maxHeartbeats 8000000 in
set_option maxRecDepth 100000 in
theorem levyref4_dateAt.calls (k : Nat) (a0 : ByteArray) (a1 : Int) (r : Bool) (w : World) (h : levyref4_dateAt.f k a0 a1 = some r) :
  Calls Tryz.prog 126 #[.string a0, .int .i64 a1] w fun e w' => e = .returned (.bool r) ∧ Drawn0 w w' := by
 have H : (if (wrap64 (a1 + 10)) > (a0.size : Int) then (levyref4_dateAt.j0 k a0 a1 true) else (if 0 ≤ (wrap64 (a1 + 4)) then (if (wrap64 (a1 + 4)) < (a0.size : Int) then (if (bt a0 (wrap64 (a1 + 4))) = 45 then (if 0 ≤ (wrap64 (a1 + 7)) then (if (wrap64 (a1 + 7)) < (a0.size : Int) then (levyref4_dateAt.j0 k a0 a1 ((bt a0 (wrap64 (a1 + 7))) != 45)) else (none)) else (none)) else (levyref4_dateAt.j0 k a0 a1 true)) else (none)) else (none))) = some r := h
 clear h
 have HC3 := Aside0.mk H
 clear H
 go_enter Tryz.func126, Tryz.ntmps126
 go_upto_region 1 with (fail)
 go_cut [24] (fun v24 wc => ∃ (kq : Nat) (x24_2 : Bool), v24 = .bool x24_2 ∧ Aside0 (levyref4_dateAt.j0 kq a0 a1 x24_2 = some r) ∧ Aside0 (kq ≤ k) ∧ Drawn0 w wc)
 case first =>
  have H := HC3.out
  clear HC3
  by_cases c4 : (wrap64 (a1 + 10)) > (a0.size : Int)
  ·rw [if_pos c4] at H
   have c4b0 : decide ((a0.size : Int) < (wrap64 (a1 + 10))) = true := decide_eq_true c4
   clear c4
   (first | rw [c4b0] | (simp only [i64_w, i32_w]; rw [c4b0]) | skip)
   have H' := Aside0.mk H
   clear H
   go_wp2
   go_meet
   case rel => exact ⟨_, (true), (by first | rfl | (simp [*]; done)), H', ⟨by first | omega | exact Nat.le_refl _⟩, by repeat (first | exact Drawn0.refl _ | apply Drawn0.step)⟩
  ·rw [if_neg c4] at H
   have c4b0 : decide ((a0.size : Int) < (wrap64 (a1 + 10))) = false := decide_eq_false c4
   clear c4
   (first | rw [c4b0] | (simp only [i64_w, i32_w]; rw [c4b0]) | skip)
   obtain ⟨ji5, hji5⟩ : ∃ j_ : Int, (wrap64 (a1 + 4)) = j_ := ⟨_, rfl⟩
   replace H : (if 0 ≤ (ji5) then (if (ji5) < (a0.size : Int) then (if (bt a0 (ji5)) = 45 then (if 0 ≤ (wrap64 (a1 + 7)) then (if (wrap64 (a1 + 7)) < (a0.size : Int) then (levyref4_dateAt.j0 k a0 a1 ((bt a0 (wrap64 (a1 + 7))) != 45)) else (none)) else (none)) else (levyref4_dateAt.j0 k a0 a1 true)) else (none)) else (none)) = some r := by first | (rw [hji5] at H; exact H) | (simp only [hji5] at H ⊢; exact H)
   have hji5w : (IntKind.i64.wrap (a1 + 4)) = ji5 := (i64_w _).trans hji5
   by_cases c6 : 0 ≤ (ji5)
   ·rw [if_pos c6] at H
    have c6b0 : decide (0 ≤ (ji5)) = true := decide_eq_true c6
    clear c6
    by_cases c7 : (ji5) < (a0.size : Int)
    ·rw [if_pos c7] at H
     have c7b0 : decide ((ji5) < (a0.size : Int)) = true := decide_eq_true c7
     clear c7
     by_cases c9 : (bt a0 (ji5)) = 45
     ·rw [if_pos c9] at H
      have c9b0 : ((bt a0 (ji5)) == 45) = true := beq_iff_eq.mpr c9
      have c9b1 : ((bt a0 (ji5)) != 45) = false := bne_eq_false_iff_eq.mpr c9
      clear c9
      obtain ⟨ji10, hji10⟩ : ∃ j_ : Int, (wrap64 (a1 + 7)) = j_ := ⟨_, rfl⟩
      replace H : (if 0 ≤ (ji10) then (if (ji10) < (a0.size : Int) then (levyref4_dateAt.j0 k a0 a1 ((bt a0 (ji10)) != 45)) else (none)) else (none)) = some r := by first | (rw [hji10] at H; exact H) | (simp only [hji10] at H ⊢; exact H)
      have hji10w : (IntKind.i64.wrap (a1 + 7)) = ji10 := (i64_w _).trans hji10
      by_cases c11 : 0 ≤ (ji10)
      ·rw [if_pos c11] at H
       have c11b0 : decide (0 ≤ (ji10)) = true := decide_eq_true c11
       clear c11
       by_cases c12 : (ji10) < (a0.size : Int)
       ·rw [if_pos c12] at H
        have c12b0 : decide ((ji10) < (a0.size : Int)) = true := decide_eq_true c12
        clear c12
        have H' := Aside0.mk H
        clear H
        have p8 : 0 ≤ ((ji5) : Int) := of_decide_eq_true (by assumption)
        have q8 : (ji5) < (a0.size : Int) := of_decide_eq_true (by assumption)
        have hx8 := bt_at a0 (ji5)
        replace p8 := eq_true p8
        replace q8 := eq_true q8
        have p13 : 0 ≤ ((ji10) : Int) := of_decide_eq_true (by assumption)
        have q13 : (ji10) < (a0.size : Int) := of_decide_eq_true (by assumption)
        have hx13 := bt_at a0 (ji10)
        replace p13 := eq_true p13
        replace q13 := eq_true q13
        go_wp2
        go_meet
        case rel => exact ⟨_, (((bt a0 (ji10)) != 45)), (by first | rfl | (simp; done) | (simp only [← hji10] <;> (first | rfl | simp)) | (simp [*]; done)), H', ⟨by first | omega | exact Nat.le_refl _⟩, by repeat (first | exact Drawn0.refl _ | apply Drawn0.step)⟩
       ·rw [if_neg c12] at H
        exact absurd H (by simp)
      ·rw [if_neg c11] at H
       exact absurd H (by simp)
     ·rw [if_neg c9] at H
      have c9b0 : ((bt a0 (ji5)) == 45) = false := beq_eq_false_iff_ne.mpr c9
      have c9b1 : ((bt a0 (ji5)) != 45) = true := bne_iff_ne.mpr c9
      have H' := Aside0.mk H
      clear H
      have p8 : 0 ≤ ((ji5) : Int) := of_decide_eq_true (by assumption)
      have q8 : (ji5) < (a0.size : Int) := of_decide_eq_true (by assumption)
      have hx8 := bt_at a0 (ji5)
      replace p8 := eq_true p8
      replace q8 := eq_true q8
      go_wp2
      go_meet
      case rel => exact ⟨_, (true), (by first | rfl | (simp [*]; done)), H', ⟨by first | omega | exact Nat.le_refl _⟩, by repeat (first | exact Drawn0.refl _ | apply Drawn0.step)⟩
    ·rw [if_neg c7] at H
     exact absurd H (by simp)
   ·rw [if_neg c6] at H
    exact absurd H (by simp)
 case rest =>
  clear HC3
  try clear c1
  try clear p1
  try clear q1
  try clear hx1
  try clear p2
  try clear c4
  try clear c4b0
  try clear c6
  try clear c6b0
  try clear p6
  try clear c7
  try clear c7b0
  try clear p8
  try clear q8
  try clear hx8
  try clear c9
  try clear c9b0
  try clear c9b1
  try clear c11
  try clear c11b0
  try clear c12
  try clear c12b0
  try clear p13
  try clear q13
  try clear hx13
  try clear p13
  try clear p8
  try clear q13
  try clear q8
  obtain ⟨kq, x24_2, rfl, HA, HJ2, ⟨mc2, rfl⟩⟩ := hcut
  cases kq with
  | zero => exact absurd HA.out (by simp [levyref4_dateAt.j0])
  | succ kj2 =>
   have H := HA.out
   clear HA
   simp only [levyref4_dateAt.j0] at H
   by_cases c14 : x24_2 = true
   ·subst c14
    have H1 : (some false) = some r := by rw [if_pos rfl] at H; exact H
    clear H
    have H := H1
    clear H1
    obtain rfl := Option.some.inj H
    go_wp2
    go_ret
    exact ⟨by first | rfl | (simp [*]; done), by repeat (first | exact Drawn0.refl _ | apply Drawn0.step)⟩
   ·replace c14 := Bool.eq_false_iff.mpr c14
    subst c14
    have H1 : (levyref4_dateAt.l0 kj2 a0 a1 0) = some r := by rw [if_neg (show ¬ (false = true) by decide)] at H; exact H
    clear H
    have H := H1
    clear H1
    have H' := Aside0.mk H
    clear H
    go_wp2
    go_loopg [5] kj2 (fun kq v5 w' => ∃ (x5_2 : Int), v5 = .int .i64 x5_2 ∧ Aside0 (levyref4_dateAt.l0 kq a0 a1 x5_2 = some r) ∧ Aside0 (kq ≤ kj2) ∧ Drawn0 w w')
    case atStart => exact ⟨(0), (by first | rfl | (simp [*]; done)), H', ⟨Nat.le_refl _⟩, by repeat (first | exact Drawn0.refl _ | apply Drawn0.step)⟩
    case round =>
     clear H'
     try clear c1
     try clear p1
     try clear q1
     try clear hx1
     try clear c2
     try clear p2
     try clear c4
     try clear c4b0
     try clear c6
     try clear c6b0
     try clear p6
     try clear c7
     try clear c7b0
     try clear p8
     try clear q8
     try clear hx8
     try clear c9
     try clear c9b0
     try clear c9b1
     try clear c11
     try clear c11b0
     try clear c12
     try clear c12b0
     try clear p13
     try clear q13
     try clear hx13
     try clear c14
     try clear p1
     try clear p13
     try clear p2
     try clear p6
     try clear p8
     try clear q1
     try clear q13
     try clear q8
     obtain ⟨x5_2, rfl, HA, HK2, ⟨m2, rfl⟩⟩ := hrel
     cases gk with
     | zero => exact absurd HA.out (by simp [levyref4_dateAt.l0])
     | succ k2 =>
      have H := HA.out
      clear HA
      simp only [levyref4_dateAt.l0] at H
      by_cases c15 : x5_2 < 10
      ·rw [if_pos c15] at H
       have c15b0 : decide (x5_2 < 10) = true := decide_eq_true c15
       clear c15
       by_cases c16 : x5_2 = 4
       ·rw [if_pos c16] at H
        have c16b0 : (x5_2 == 4) = true := beq_iff_eq.mpr c16
        have c16b1 : (x5_2 != 4) = false := bne_eq_false_iff_eq.mpr c16
        clear c16
        have H' := Aside0.mk H
        clear H
        go_wp2
        go_roundg k2
        case measure => have := HJ2.out; have := HK2.out; omega
        case rel => exact ⟨(wrap64 (x5_2 + 1)), (by first | rfl | (simp [*]; done)), H', ⟨by have := HJ2.out; have := HK2.out; omega⟩, by repeat (first | exact Drawn0.refl _ | apply Drawn0.step)⟩
       ·rw [if_neg c16] at H
        have c16b0 : (x5_2 == 4) = false := beq_eq_false_iff_ne.mpr c16
        have c16b1 : (x5_2 != 4) = true := bne_iff_ne.mpr c16
        by_cases c17 : x5_2 = 7
        ·rw [if_pos c17] at H
         have c17b0 : (x5_2 == 7) = true := beq_iff_eq.mpr c17
         have c17b1 : (x5_2 != 7) = false := bne_eq_false_iff_eq.mpr c17
         clear c17
         have H' := Aside0.mk H
         clear H
         go_wp2
         go_roundg k2
         case measure => have := HJ2.out; have := HK2.out; omega
         case rel => exact ⟨(wrap64 (x5_2 + 1)), (by first | rfl | (simp [*]; done)), H', ⟨by have := HJ2.out; have := HK2.out; omega⟩, by repeat (first | exact Drawn0.refl _ | apply Drawn0.step)⟩
        ·rw [if_neg c17] at H
         have c17b0 : (x5_2 == 7) = false := beq_eq_false_iff_ne.mpr c17
         have c17b1 : (x5_2 != 7) = true := bne_iff_ne.mpr c17
         obtain ⟨ji18, hji18⟩ : ∃ j_ : Int, (wrap64 (a1 + x5_2)) = j_ := ⟨_, rfl⟩
         replace H : (if 0 ≤ (ji18) then (if (ji18) < (a0.size : Int) then ((levyref4_isDigit.f (bt a0 (ji18))).bind fun t106 => (if t106 = true then (levyref4_dateAt.l0 k2 a0 a1 (wrap64 (x5_2 + 1))) else (some false))) else (none)) else (none)) = some r := by first | (rw [hji18] at H; exact H) | (simp only [hji18] at H ⊢; exact H)
         have hji18w : (IntKind.i64.wrap (a1 + x5_2)) = ji18 := (i64_w _).trans hji18
         by_cases c19 : 0 ≤ (ji18)
         ·rw [if_pos c19] at H
          have c19b0 : decide (0 ≤ (ji18)) = true := decide_eq_true c19
          clear c19
          by_cases c20 : (ji18) < (a0.size : Int)
          ·rw [if_pos c20] at H
           have c20b0 : decide ((ji18) < (a0.size : Int)) = true := decide_eq_true c20
           clear c20
           replace H := Option.bind_eq_some_iff.mp H
           obtain ⟨t106, A220, H⟩ := H
           replace H : (if t106 = true then (levyref4_dateAt.l0 k2 a0 a1 (wrap64 (x5_2 + 1))) else (some false)) = some r := H
           have A22 := Aside0.mk A220
           clear A220
           by_cases c23 : t106 = true
           ·subst c23
            have H1 : (levyref4_dateAt.l0 k2 a0 a1 (wrap64 (x5_2 + 1))) = some r := by rw [if_pos rfl] at H; exact H
            clear H
            have H := H1
            clear H1
            have H' := Aside0.mk H
            clear H
            have p21 : 0 ≤ ((ji18) : Int) := of_decide_eq_true (by assumption)
            have q21 : (ji18) < (a0.size : Int) := of_decide_eq_true (by assumption)
            have hx21 := bt_at a0 (ji18)
            replace p21 := eq_true p21
            replace q21 := eq_true q21
            go_wp2_with (first | (go_at_call 125; (with_reducible refine (levyref4_isDigit.calls (bt a0 (ji18)) true _ A22.out).mono ?_); rintro e w' ⟨rfl, ⟨nd, rfl⟩⟩))
            go_roundg k2
            case measure => have := HJ2.out; have := HK2.out; omega
            case rel => exact ⟨(wrap64 (x5_2 + 1)), (by first | rfl | (simp [*]; done)), H', ⟨by have := HJ2.out; have := HK2.out; omega⟩, by repeat (first | exact Drawn0.refl _ | apply Drawn0.step)⟩
           ·replace c23 := Bool.eq_false_iff.mpr c23
            subst c23
            have H1 : (some false) = some r := by rw [if_neg (show ¬ (false = true) by decide)] at H; exact H
            clear H
            have H := H1
            clear H1
            obtain rfl := Option.some.inj H
            have p21 : 0 ≤ ((ji18) : Int) := of_decide_eq_true (by assumption)
            have q21 : (ji18) < (a0.size : Int) := of_decide_eq_true (by assumption)
            have hx21 := bt_at a0 (ji18)
            replace p21 := eq_true p21
            replace q21 := eq_true q21
            go_wp2_with (first | (go_at_call 125; (with_reducible refine (levyref4_isDigit.calls (bt a0 (ji18)) false _ A22.out).mono ?_); rintro e w' ⟨rfl, ⟨nd, rfl⟩⟩))
            go_ret
            exact ⟨by first | rfl | (simp; done) | (simp only [← hji18] <;> (first | rfl | simp)) | (simp [*]; done), by repeat (first | exact Drawn0.refl _ | apply Drawn0.step)⟩
          ·rw [if_neg c20] at H
           exact absurd H (by simp)
         ·rw [if_neg c19] at H
          exact absurd H (by simp)
      ·rw [if_neg c15] at H
       have c15b0 : decide (x5_2 < 10) = false := decide_eq_false c15
       clear c15
       obtain rfl := Option.some.inj H
       go_wp2
       go_ret
       exact ⟨by first | rfl | (simp [*]; done), by repeat (first | exact Drawn0.refl _ | apply Drawn0.step)⟩
mutual
def levyref2_Parse.l0 : Nat → ByteArray → Int → List Int → Int → Option (Int × Int × Int)
 | 0, _, _, _, _ => none
 | k + 1, x0, x5, x6, x7 => if x7 < 10 then (if x7 ≥ (x0.size : Int) then (some (0, (x0.size : Int), 22)) else (if 0 ≤ x7 then (if x7 < (x0.size : Int) then (if x7 = 4 then (levyref2_Parse.j1 k x0 x5 x6 x7 (bt x0 x7) true) else (levyref2_Parse.j1 k x0 x5 x6 x7 (bt x0 x7) (x7 == 7))) else (none)) else (none))) else (if (x0.size : Int) > 10 then (some (0, 10, 22)) else (if 0 < (x6.length : Int) then (if 1 < (x6.length : Int) then ((levyref2_Number.f k (rd x6 0) (rd x6 1) x5).bind fun bt117 => (if bt117.2 = 0 then (some (bt117.1, 10, 0)) else (some (0, 0, bt117.2)))) else (none)) else (none)))
def levyref2_Parse.j1 : Nat → ByteArray → Int → List Int → Int → Int → Bool → Option (Int × Int × Int)
 | 0, _, _, _, _, _, _ => none
 | k + 1, x0, x5, x6, x7, x8, x9 => if (x9 != (x8 == 45)) = true then (levyref2_Parse.j2 k x0 x5 x6 x7 x8 x9 true) else (if x9 = true then (levyref2_Parse.j2 k x0 x5 x6 x7 x8 x9 false) else (if x8 < 48 then (levyref2_Parse.j2 k x0 x5 x6 x7 x8 x9 true) else (levyref2_Parse.j2 k x0 x5 x6 x7 x8 x9 (decide (x8 > 57)))))
def levyref2_Parse.j2 : Nat → ByteArray → Int → List Int → Int → Int → Bool → Bool → Option (Int × Int × Int)
 | 0, _, _, _, _, _, _, _ => none
 | k + 1, x0, x5, x6, x7, x8, x9, x46 => if x46 = true then (some (0, x7, 22)) else (if x9 = true then (if x6.length < 17592186044416 then (levyref2_Parse.l0 k x0 0 (x6 ++ [x5]) (wrap64 (x7 + 1))) else (none)) else (levyref2_Parse.l0 k x0 (wrap64 ((wrap64 (10 * x5)) + ((x8 - 48) % 256))) x6 (wrap64 (x7 + 1))))
end
def levyref2_Parse.f (k : Nat) (a0 : ByteArray) : Option (Int × Int × Int) := levyref2_Parse.l0 k a0 0 ([] : List Int) 0
set_option maxHeartbeats 8000000 in
set_option maxRecDepth 100000 in
theorem levyref2_Parse.calls (k : Nat) (a0 : ByteArray) (r1 : Int) (r2 : Int) (r3 : Int) (w : World) (h : levyref2_Parse.f k a0 = some (r1, r2, r3)) :
  Calls Tryz.prog 199 #[.string a0] w fun e w' => e = .returned (.tuple #[.int .i64 r1, .int .i64 r2, .int .i64 r3]) ∧ Below w.heap.size w w' := by
 have HB := Aside0.mk (Below.refl w.heap.size w)
 have H : (levyref2_Parse.l0 k a0 0 ([] : List Int) 0) = some (r1, r2, r3) := h
 clear h
 have H' := Aside0.mk H
 clear H
 go_enter Tryz.func199, Tryz.ntmps199
 go_wp2
 repeat (go_quiet (fail); try go_wp2)
 go_loopg [5, 6, 7] k (fun kq v5 v6 v7 w' => ∃ (x5_1 : Int) (x6_1 : List Int) (x7_1 : Int), v5 = .int .i64 x5_1 ∧ v7 = .int .i64 x7_1 ∧ Aside0 (levyref2_Parse.l0 kq a0 x5_1 x6_1 x7_1 = some (r1, r2, r3)) ∧ Aside0 (kq ≤ k) ∧ Aside0 (Kd.R (Kd.int .i64) 3 w' w.heap.size (fun _ => True) v6 x6_1) ∧ Aside0 (Below w.heap.size w w'))
 case atStart => exact ⟨(0), (([] : List Int)), (0), (by first | rfl | (simp [*]; done)), (by first | rfl | (simp [*]; done)), H', ⟨Nat.le_refl _⟩, ⟨by first | exact Kd.R_nil _ _ _ _ _ | exact Kd.N_nil _ _ _ _ _ | exact Kd.V_nil _ _ _ _ _ | exact Kd.Q_nil _ _ _ _ _ | exact Kd.S_nil _ _ _ _ _⟩, ⟨by repeat (first | (with_reducible first | exact HB.out | apply below_alloc | apply pw_below_drewN | apply below_drew1) | exact HB.out)⟩⟩
 case round =>
  clear H'
  try clear c1
  obtain ⟨x5_1, x6_1, x7_1, rfl, rfl, HA, HK1, HO_6, HB⟩ := hrel
  cases gk with
  | zero => exact absurd HA.out (by simp [levyref2_Parse.l0])
  | succ k1 =>
   have H := HA.out
   clear HA
   simp only [levyref2_Parse.l0] at H
   by_cases c2 : x7_1 < 10
   ·rw [if_pos c2] at H
    have c2b0 : decide (x7_1 < 10) = true := decide_eq_true c2
    clear c2
    by_cases c3 : x7_1 ≥ (a0.size : Int)
    ·rw [if_pos c3] at H
     have c3b0 : decide ((a0.size : Int) ≤ x7_1) = true := decide_eq_true c3
     clear c3
     simp only [Option.some.injEq, Prod.mk.injEq] at H
     obtain ⟨rfl, rfl, rfl⟩ := H
     go_wp2
     repeat (go_quiet (fail); try go_wp2)
     go_ret3
     exact ⟨by first | rfl | (simp [errW_none, errW_some] <;> rfl) | (simp [*, errW_none, errW_some] <;> rfl), by repeat (first | (with_reducible first | exact HB.out | apply below_alloc | apply pw_below_drewN | apply below_drew1) | exact HB.out)⟩
    ·rw [if_neg c3] at H
     have c3b0 : decide ((a0.size : Int) ≤ x7_1) = false := decide_eq_false c3
     clear c3
     by_cases c4 : 0 ≤ x7_1
     ·rw [if_pos c4] at H
      have c4b0 : decide (0 ≤ x7_1) = true := decide_eq_true c4
      clear c4
      by_cases c5 : x7_1 < (a0.size : Int)
      ·rw [if_pos c5] at H
       have c5b0 : decide (x7_1 < (a0.size : Int)) = true := decide_eq_true c5
       clear c5
       have HC7 := Aside0.mk H
       clear H
       have p6 : 0 ≤ (x7_1 : Int) := of_decide_eq_true (by assumption)
       have q6 : x7_1 < (a0.size : Int) := of_decide_eq_true (by assumption)
       have hx6 := bt_at a0 x7_1
       replace p6 := eq_true p6
       replace q6 := eq_true q6
       go_upto_region 9 with (fail)
       repeat (go_quiet (fail); go_upto_region 9 with (fail))
       go_cut [9] (fun v9 wc => ∃ (kq : Nat) (x9_6 : Bool), v9 = .bool x9_6 ∧ Aside0 (levyref2_Parse.j1 kq a0 x5_1 x6_1 x7_1 (bt a0 x7_1) x9_6 = some (r1, r2, r3)) ∧ Aside0 (kq ≤ k1) ∧ Aside0 (Kd.R (Kd.int .i64) 3 wc w.heap.size (fun _ => True) u6 x6_1) ∧ Aside0 (Below w.heap.size w wc))
       case first =>
        have H := HC7.out
        clear HC7
        by_cases c8 : x7_1 = 4
        ·rw [if_pos c8] at H
         have c8b0 : (x7_1 == 4) = true := beq_iff_eq.mpr c8
         have c8b1 : (x7_1 != 4) = false := bne_eq_false_iff_eq.mpr c8
         clear c8
         (first | rw [c8b0] | (simp only [i64_w, i32_w]; rw [c8b0]) | skip)
         have H' := Aside0.mk H
         clear H
         go_wp2
         repeat (go_quiet (fail); try go_wp2)
         go_meet
         case rel => exact ⟨_, (true), (by first | rfl | (simp [*]; done)), H', ⟨by have := HK1.out; first | omega | exact Nat.le_refl _⟩, ⟨by (with_reducible repeat (first | apply Kd.R_alloc | apply Kd.R_drewN | apply Kd.R_drew)); exact HO_6.out⟩, ⟨by repeat (first | (with_reducible first | exact HB.out | apply below_alloc | apply pw_below_drewN | apply below_drew1) | exact HB.out)⟩⟩
        ·rw [if_neg c8] at H
         have c8b0 : (x7_1 == 4) = false := beq_eq_false_iff_ne.mpr c8
         have c8b1 : (x7_1 != 4) = true := bne_iff_ne.mpr c8
         (first | rw [c8b0] | (simp only [i64_w, i32_w]; rw [c8b0]) | skip)
         have H' := Aside0.mk H
         clear H
         go_wp2
         repeat (go_quiet (fail); try go_wp2)
         go_meet
         case rel => exact ⟨_, ((x7_1 == 7)), (by first | rfl | (simp [*]; done)), H', ⟨by have := HK1.out; first | omega | exact Nat.le_refl _⟩, ⟨by (with_reducible repeat (first | apply Kd.R_alloc | apply Kd.R_drewN | apply Kd.R_drew)); exact HO_6.out⟩, ⟨by repeat (first | (with_reducible first | exact HB.out | apply below_alloc | apply pw_below_drewN | apply below_drew1) | exact HB.out)⟩⟩
       case rest =>
        clear HC7
        try clear c1
        try clear c2
        try clear c2b0
        try clear p2
        try clear c3
        try clear c3b0
        try clear c4
        try clear c4b0
        try clear c5
        try clear c5b0
        try clear p6
        try clear q6
        try clear hx6
        try clear c8
        try clear c8b0
        try clear c8b1
        try clear p6
        try clear q6
        obtain ⟨kq, x9_6, rfl, HA, HJ6, HO_6, HB⟩ := hcut
        cases kq with
        | zero => exact absurd HA.out (by simp [levyref2_Parse.j1])
        | succ kj6 =>
         have H := HA.out
         clear HA
         simp only [levyref2_Parse.j1] at H
         have HC9 := Aside0.mk H
         clear H
         go_upto_region 10 with (fail)
         repeat (go_quiet (fail); go_upto_region 10 with (fail))
         go_cut [46] (fun v46 wc => ∃ (kq : Nat) (x46_8 : Bool), v46 = .bool x46_8 ∧ Aside0 (levyref2_Parse.j2 kq a0 x5_1 x6_1 x7_1 (bt a0 x7_1) x9_6 x46_8 = some (r1, r2, r3)) ∧ Aside0 (kq ≤ kj6) ∧ Aside0 (Kd.R (Kd.int .i64) 3 wc w.heap.size (fun _ => True) u6 x6_1) ∧ Aside0 (Below w.heap.size w wc))
         case first =>
          have H := HC9.out
          clear HC9
          by_cases c10 : (x9_6 != ((bt a0 x7_1) == 45)) = true
          ·rw [if_pos c10] at H
           have c10b0 : (x9_6 != ((bt a0 x7_1) == 45)) = true := c10
           (try (have c10b1 : decide (x9_6 = ((bt a0 x7_1) == 45)) = false := by simpa using c10))
           (try (have c10b2 : (x9_6 == ((bt a0 x7_1) == 45)) = false := by simpa using c10))
           (try (have c10b3 : ¬ (x9_6 = ((bt a0 x7_1) == 45)) := by simpa using c10))
           clear c10
           (first | rw [c10b0] | (simp only [i64_w, i32_w]; rw [c10b0]) | skip)
           have H' := Aside0.mk H
           clear H
           go_wp2
           repeat (go_quiet (fail); try go_wp2)
           go_meet
           case rel => exact ⟨_, (true), (by first | rfl | (simp [*]; done)), H', ⟨by have := HK1.out; have := HJ6.out; first | omega | exact Nat.le_refl _⟩, ⟨by (with_reducible repeat (first | apply Kd.R_alloc | apply Kd.R_drewN | apply Kd.R_drew)); exact HO_6.out⟩, ⟨by repeat (first | (with_reducible first | exact HB.out | apply below_alloc | apply pw_below_drewN | apply below_drew1) | exact HB.out)⟩⟩
          ·rw [if_neg c10] at H
           have c10b0 : (x9_6 != ((bt a0 x7_1) == 45)) = false := by simpa using c10
           (try (have c10b1 : decide (x9_6 = ((bt a0 x7_1) == 45)) = true := by simpa using c10))
           (try (have c10b2 : (x9_6 == ((bt a0 x7_1) == 45)) = true := by simpa using c10))
           clear c10
           (first | rw [c10b0] | (simp only [i64_w, i32_w]; rw [c10b0]) | skip)
           by_cases c11 : x9_6 = true
           ·subst c11
            have H1 : (levyref2_Parse.j2 kj6 a0 x5_1 x6_1 x7_1 (bt a0 x7_1) true false) = some (r1, r2, r3) := by rw [if_pos rfl] at H; exact H
            clear H
            have H := H1
            clear H1
            have H' := Aside0.mk H
            clear H
            go_wp2
            repeat (go_quiet (fail); try go_wp2)
            go_meet
            case rel => exact ⟨_, (false), (by first | rfl | (simp [*]; done)), H', ⟨by have := HK1.out; have := HJ6.out; first | omega | exact Nat.le_refl _⟩, ⟨by (with_reducible repeat (first | apply Kd.R_alloc | apply Kd.R_drewN | apply Kd.R_drew)); exact HO_6.out⟩, ⟨by repeat (first | (with_reducible first | exact HB.out | apply below_alloc | apply pw_below_drewN | apply below_drew1) | exact HB.out)⟩⟩
           ·replace c11 := Bool.eq_false_iff.mpr c11
            subst c11
            have H1 : (if (bt a0 x7_1) < 48 then (levyref2_Parse.j2 kj6 a0 x5_1 x6_1 x7_1 (bt a0 x7_1) false true) else (levyref2_Parse.j2 kj6 a0 x5_1 x6_1 x7_1 (bt a0 x7_1) false (decide ((bt a0 x7_1) > 57)))) = some (r1, r2, r3) := by rw [if_neg (show ¬ (false = true) by decide)] at H; exact H
            clear H
            have H := H1
            clear H1
            by_cases c12 : (bt a0 x7_1) < 48
            ·rw [if_pos c12] at H
             have c12b0 : decide ((bt a0 x7_1) < 48) = true := decide_eq_true c12
             clear c12
             have H' := Aside0.mk H
             clear H
             go_wp2
             repeat (go_quiet (fail); try go_wp2)
             go_meet
             case rel => exact ⟨_, (true), (by first | rfl | (simp [*]; done)), H', ⟨by have := HK1.out; have := HJ6.out; first | omega | exact Nat.le_refl _⟩, ⟨by (with_reducible repeat (first | apply Kd.R_alloc | apply Kd.R_drewN | apply Kd.R_drew)); exact HO_6.out⟩, ⟨by repeat (first | (with_reducible first | exact HB.out | apply below_alloc | apply pw_below_drewN | apply below_drew1) | exact HB.out)⟩⟩
            ·rw [if_neg c12] at H
             have c12b0 : decide ((bt a0 x7_1) < 48) = false := decide_eq_false c12
             clear c12
             have H' := Aside0.mk H
             clear H
             go_wp2
             repeat (go_quiet (fail); try go_wp2)
             go_meet
             case rel => exact ⟨_, (decide ((bt a0 x7_1) > 57)), (by first | rfl | (simp [*]; done)), H', ⟨by have := HK1.out; have := HJ6.out; first | omega | exact Nat.le_refl _⟩, ⟨by (with_reducible repeat (first | apply Kd.R_alloc | apply Kd.R_drewN | apply Kd.R_drew)); exact HO_6.out⟩, ⟨by repeat (first | (with_reducible first | exact HB.out | apply below_alloc | apply pw_below_drewN | apply below_drew1) | exact HB.out)⟩⟩
         case rest =>
          clear HC9
          try clear c1
          try clear c2
          try clear c2b0
          try clear p2
          try clear c3
          try clear c3b0
          try clear c4
          try clear c4b0
          try clear c5
          try clear c5b0
          try clear p6
          try clear q6
          try clear hx6
          try clear c8
          try clear c8b0
          try clear c8b1
          try clear c10
          try clear c10b0
          try clear c10b1
          try clear c10b2
          try clear c11
          try clear c12
          try clear c12b0
          try clear p2
          try clear p6
          try clear q6
          obtain ⟨kq, x46_8, rfl, HA, HJ8, HO_6, HB⟩ := hcut
          cases kq with
          | zero => exact absurd HA.out (by simp [levyref2_Parse.j2])
          | succ kj8 =>
           have H := HA.out
           clear HA
           simp only [levyref2_Parse.j2] at H
           by_cases c13 : x46_8 = true
           ·subst c13
            have H1 : (some (0, x7_1, 22)) = some (r1, r2, r3) := by rw [if_pos rfl] at H; exact H
            clear H
            have H := H1
            clear H1
            simp only [Option.some.injEq, Prod.mk.injEq] at H
            obtain ⟨rfl, rfl, rfl⟩ := H
            go_wp2
            repeat (go_quiet (fail); try go_wp2)
            go_ret3
            exact ⟨by first | rfl | (simp [errW_none, errW_some] <;> rfl) | (simp [*, errW_none, errW_some] <;> rfl), by repeat (first | (with_reducible first | exact HB.out | apply below_alloc | apply pw_below_drewN | apply below_drew1) | exact HB.out)⟩
           ·replace c13 := Bool.eq_false_iff.mpr c13
            subst c13
            have H1 : (if x9_6 = true then (if x6_1.length < 17592186044416 then (levyref2_Parse.l0 kj8 a0 0 (x6_1 ++ [x5_1]) (wrap64 (x7_1 + 1))) else (none)) else (levyref2_Parse.l0 kj8 a0 (wrap64 ((wrap64 (10 * x5_1)) + (((bt a0 x7_1) - 48) % 256))) x6_1 (wrap64 (x7_1 + 1)))) = some (r1, r2, r3) := by rw [if_neg (show ¬ (false = true) by decide)] at H; exact H
            clear H
            have H := H1
            clear H1
            by_cases c14 : x9_6 = true
            ·subst c14
             have H1 : (if x6_1.length < 17592186044416 then (levyref2_Parse.l0 kj8 a0 0 (x6_1 ++ [x5_1]) (wrap64 (x7_1 + 1))) else (none)) = some (r1, r2, r3) := by rw [if_pos rfl] at H; exact H
             clear H
             have H := H1
             clear H1
             by_cases c15 : x6_1.length < 17592186044416
             ·rw [if_pos c15] at H
              have LMc15 := Aside0.mk c15
              clear c15
              obtain ⟨y112, hy112⟩ : ∃ y_ : List Int, y_ = (x6_1 ++ [x5_1]) := ⟨_, rfl⟩
              replace H : (levyref2_Parse.l0 kj8 a0 0 y112 (wrap64 (x7_1 + 1))) = some (r1, r2, r3) := by first | (rw [hy112]; with_reducible exact H) | (have H2_ := (Option.bind_some _ _).symm.trans H; rw [hy112]; with_reducible exact H2_) | (have H2_ := (Option.bind_some _ _).symm.trans H; with_reducible exact H2_) | with_reducible exact H | (rw [hy112]; exact H) | exact H
              have Ny112 := Aside0.mk hy112
              clear hy112
              have H' := Aside0.mk H
              clear H
              go_wp2_with (first | ((with_reducible refine gate_builtin (b := .append) (xs := #[.tmp 49, .tmp 51]) rfl ?_); at_builtin; refine Kd.R_append (Kd.int .i64) (w0 := w) w.heap.size rfl (.tmp 49) (.tmp 51) 61 3 (.int .i64 0) 8 rfl Tryz.underlying61 info3 rfl (by decide) (by omega) u6 x6_1 x5_1 [.int .i64 x5_1] (fun _ => True) (fun _ => False) rfl rfl ?aP (fun _ hk => hk.elim) ?aF ?aO ?aB ?aS ?aL ?_; (case aP => exact rfl); (case aB => exact (by repeat (first | (with_reducible first | exact HB.out | apply below_alloc | apply pw_below_drewN | apply below_drew1) | exact HB.out))); (case aF => exact (fun _ _ => trivial)); (case aO => exact (by (with_reducible repeat (first | apply Kd.R_alloc | apply Kd.R_drewN | apply Kd.R_drew)); exact HO_6.out)); (case aS => exact (below_size (by repeat (first | (with_reducible first | exact HB.out | apply below_alloc | apply pw_below_drewN | apply below_drew1) | exact HB.out)))); (case aL => have := LMc15.out; omega); intro v113 w16 ho hb hg hat; rw [← Ny112.out] at ho; have n0_ := Aside0.mk (hb); have n1_ := Aside0.mk (ho); clear HB; clear HO_6; have HB := n0_; have HO114 := n1_; clear n0_ n1_; clear ho hb hg hat))
              repeat (go_quiet (first | ((with_reducible refine gate_builtin (b := .append) (xs := #[.tmp 49, .tmp 51]) rfl ?_); at_builtin; refine Kd.R_append (Kd.int .i64) (w0 := w) w.heap.size rfl (.tmp 49) (.tmp 51) 61 3 (.int .i64 0) 8 rfl Tryz.underlying61 info3 rfl (by decide) (by omega) u6 x6_1 x5_1 [.int .i64 x5_1] (fun _ => True) (fun _ => False) rfl rfl ?aP (fun _ hk => hk.elim) ?aF ?aO ?aB ?aS ?aL ?_; (case aP => exact rfl); (case aB => exact (by repeat (first | (with_reducible first | exact HB.out | apply below_alloc | apply pw_below_drewN | apply below_drew1) | exact HB.out))); (case aF => exact (fun _ _ => trivial)); (case aO => exact (by (with_reducible repeat (first | apply Kd.R_alloc | apply Kd.R_drewN | apply Kd.R_drew)); exact HO_6.out)); (case aS => exact (below_size (by repeat (first | (with_reducible first | exact HB.out | apply below_alloc | apply pw_below_drewN | apply below_drew1) | exact HB.out)))); (case aL => have := LMc15.out; omega); intro v113 w16 ho hb hg hat; rw [← Ny112.out] at ho; have n0_ := Aside0.mk (hb); have n1_ := Aside0.mk (ho); clear HB; clear HO_6; have HB := n0_; have HO114 := n1_; clear n0_ n1_; clear ho hb hg hat)); try go_wp2_with (first | ((with_reducible refine gate_builtin (b := .append) (xs := #[.tmp 49, .tmp 51]) rfl ?_); at_builtin; refine Kd.R_append (Kd.int .i64) (w0 := w) w.heap.size rfl (.tmp 49) (.tmp 51) 61 3 (.int .i64 0) 8 rfl Tryz.underlying61 info3 rfl (by decide) (by omega) u6 x6_1 x5_1 [.int .i64 x5_1] (fun _ => True) (fun _ => False) rfl rfl ?aP (fun _ hk => hk.elim) ?aF ?aO ?aB ?aS ?aL ?_; (case aP => exact rfl); (case aB => exact (by repeat (first | (with_reducible first | exact HB.out | apply below_alloc | apply pw_below_drewN | apply below_drew1) | exact HB.out))); (case aF => exact (fun _ _ => trivial)); (case aO => exact (by (with_reducible repeat (first | apply Kd.R_alloc | apply Kd.R_drewN | apply Kd.R_drew)); exact HO_6.out)); (case aS => exact (below_size (by repeat (first | (with_reducible first | exact HB.out | apply below_alloc | apply pw_below_drewN | apply below_drew1) | exact HB.out)))); (case aL => have := LMc15.out; omega); intro v113 w16 ho hb hg hat; rw [← Ny112.out] at ho; have n0_ := Aside0.mk (hb); have n1_ := Aside0.mk (ho); clear HB; clear HO_6; have HB := n0_; have HO114 := n1_; clear n0_ n1_; clear ho hb hg hat)))
              go_roundg kj8
              case measure => have := HK1.out; have := HJ6.out; have := HJ8.out; omega
              case rel => exact ⟨(0), (y112), (wrap64 (x7_1 + 1)), (by first | rfl | (simp [*]; done)), (by first | rfl | (simp [*]; done)), H', ⟨by have := HK1.out; have := HJ6.out; have := HJ8.out; omega⟩, ⟨by (with_reducible repeat (first | apply Kd.R_alloc | apply Kd.R_drewN | apply Kd.R_drew)); exact HO114.out⟩, ⟨by repeat (first | (with_reducible first | exact HB.out | apply below_alloc | apply pw_below_drewN | apply below_drew1) | exact HB.out)⟩⟩
             ·rw [if_neg c15] at H
              exact absurd H (by simp)
            ·replace c14 := Bool.eq_false_iff.mpr c14
             subst c14
             have H1 : (levyref2_Parse.l0 kj8 a0 (wrap64 ((wrap64 (10 * x5_1)) + (((bt a0 x7_1) - 48) % 256))) x6_1 (wrap64 (x7_1 + 1))) = some (r1, r2, r3) := by rw [if_neg (show ¬ (false = true) by decide)] at H; exact H
             clear H
             have H := H1
             clear H1
             have H' := Aside0.mk H
             clear H
             go_wp2
             repeat (go_quiet (fail); try go_wp2)
             go_roundg kj8
             case measure => have := HK1.out; have := HJ6.out; have := HJ8.out; omega
             case rel => exact ⟨(wrap64 ((wrap64 (10 * x5_1)) + (((bt a0 x7_1) - 48) % 256))), (x6_1), (wrap64 (x7_1 + 1)), (by first | rfl | (simp [*]; done)), (by first | rfl | (simp [*]; done)), H', ⟨by have := HK1.out; have := HJ6.out; have := HJ8.out; omega⟩, ⟨by (with_reducible repeat (first | apply Kd.R_alloc | apply Kd.R_drewN | apply Kd.R_drew)); exact HO_6.out⟩, ⟨by repeat (first | (with_reducible first | exact HB.out | apply below_alloc | apply pw_below_drewN | apply below_drew1) | exact HB.out)⟩⟩
      ·rw [if_neg c5] at H
       exact absurd H (by simp)
     ·rw [if_neg c4] at H
      exact absurd H (by simp)
   ·rw [if_neg c2] at H
    have c2b0 : decide (x7_1 < 10) = false := decide_eq_false c2
    clear c2
    by_cases c17 : (a0.size : Int) > 10
    ·rw [if_pos c17] at H
     have c17b0 : decide (10 < (a0.size : Int)) = true := decide_eq_true c17
     have c17b1 : decide (10 < a0.size) = true := decide_eq_true (by omega)
     clear c17
     simp only [Option.some.injEq, Prod.mk.injEq] at H
     obtain ⟨rfl, rfl, rfl⟩ := H
     go_wp2
     repeat (go_quiet (fail); try go_wp2)
     go_ret3
     exact ⟨by first | rfl | (simp [errW_none, errW_some] <;> rfl) | (simp [*, errW_none, errW_some] <;> rfl), by repeat (first | (with_reducible first | exact HB.out | apply below_alloc | apply pw_below_drewN | apply below_drew1) | exact HB.out)⟩
    ·rw [if_neg c17] at H
     have c17b0 : decide (10 < (a0.size : Int)) = false := decide_eq_false c17
     have c17b1 : decide (10 < a0.size) = false := decide_eq_false (by omega)
     clear c17
     by_cases c18 : 0 < (x6_1.length : Int)
     ·rw [if_pos c18] at H
      have c18b0 : decide (0 < (x6_1.length : Int)) = true := decide_eq_true c18
      have c18b1 : decide (0 < x6_1.length) = true := decide_eq_true (by omega)
      clear c18
      by_cases c19 : 1 < (x6_1.length : Int)
      ·rw [if_pos c19] at H
       have c19b0 : decide (1 < (x6_1.length : Int)) = true := decide_eq_true c19
       have c19b1 : decide (1 < x6_1.length) = true := decide_eq_true (by omega)
       clear c19
       replace H := Option.bind_eq_some_iff.mp H
       obtain ⟨⟨t117, t118⟩, A200, H⟩ := H
       replace H : (if t118 = 0 then (some (t117, 10, 0)) else (some (0, 0, t118))) = some (r1, r2, r3) := H
       have A20 := Aside0.mk A200
       clear A200
       by_cases c21 : t118 = 0
       ·rw [if_pos c21] at H
        have c21b0 : (t118 == 0) = true := beq_iff_eq.mpr c21
        have c21b1 : (t118 != 0) = false := bne_eq_false_iff_eq.mpr c21
        clear c21
        simp only [Option.some.injEq, Prod.mk.injEq] at H
        obtain ⟨rfl, rfl, rfl⟩ := H
        obtain ⟨Ao22, co22, eo22⟩ := Kd.R_slice HO_6.out
        subst eo22
        have p115 : 0 ≤ (0 : Int) := (by omega)
        have q115 : 0 < (x6_1.length : Int) := of_decide_eq_true (by assumption)
        obtain ⟨ad115, e115, hx115_0⟩ := Kd.at_int (Kd.R_reads' HO_6.out).2.2 0 p115 q115
        cases e115
        have qi115 : (0 < x6_1.length) = True := eq_true (by omega)
        (try rw [show ((0 : Int)).toNat = 0 from rfl] at hx115_0)
        (try rw [Addr.add_zero'] at hx115_0)
        replace p115 := eq_true p115
        replace q115 := eq_true q115
        have p116 : 0 ≤ (1 : Int) := (by omega)
        have q116 : 1 < (x6_1.length : Int) := of_decide_eq_true (by assumption)
        obtain ⟨ad116, e116, hx116_0⟩ := Kd.at_int (Kd.R_reads' HO_6.out).2.2 1 p116 q116
        obtain rfl : ad115 = ad116 := (by injection e116)
        (try simp only [show (1 : Int).toNat = 1 from rfl, Nat.reduceMul, Nat.reduceEqDiff, Go.Addr.add, ↓reduceIte] at hx116_0)
        have qi116 : (1 < x6_1.length) = True := eq_true (by omega)
        (try rw [show ((1 : Int)).toNat = 1 from rfl] at hx116_0)
        replace p116 := eq_true p116
        replace q116 := eq_true q116
        go_wp2_with (first | (go_at_call 218; (with_reducible refine (levyref2_Number.calls k1 (rd x6_1 0) (rd x6_1 1) x5_1 t117 t118 _ A20.out).mono ?_); rintro e w' ⟨rfl, ⟨nd, rfl⟩⟩; (try first | exact ⟨rfl, _, World.drewN_drewN _ _ _⟩ | exact ⟨rfl, _, Eq.trans (World.drewN_drewN _ _ _) (congrArg (World.drewN _) (Nat.add_assoc _ _ _))⟩)))
        repeat (go_quiet (first | (go_at_call 218; (with_reducible refine (levyref2_Number.calls k1 (rd x6_1 0) (rd x6_1 1) x5_1 t117 t118 _ A20.out).mono ?_); rintro e w' ⟨rfl, ⟨nd, rfl⟩⟩; (try first | exact ⟨rfl, _, World.drewN_drewN _ _ _⟩ | exact ⟨rfl, _, Eq.trans (World.drewN_drewN _ _ _) (congrArg (World.drewN _) (Nat.add_assoc _ _ _))⟩))); try go_wp2_with (first | (go_at_call 218; (with_reducible refine (levyref2_Number.calls k1 (rd x6_1 0) (rd x6_1 1) x5_1 t117 t118 _ A20.out).mono ?_); rintro e w' ⟨rfl, ⟨nd, rfl⟩⟩; (try first | exact ⟨rfl, _, World.drewN_drewN _ _ _⟩ | exact ⟨rfl, _, Eq.trans (World.drewN_drewN _ _ _) (congrArg (World.drewN _) (Nat.add_assoc _ _ _))⟩))))
        go_ret3
        exact ⟨by first | rfl | (simp [errW_none, errW_some] <;> rfl) | (simp [*, errW_none, errW_some] <;> rfl), by repeat (first | (with_reducible first | exact HB.out | apply below_alloc | apply pw_below_drewN | apply below_drew1) | exact HB.out)⟩
       ·rw [if_neg c21] at H
        have c21b0 : (t118 == 0) = false := beq_eq_false_iff_ne.mpr c21
        have c21b1 : (t118 != 0) = true := bne_iff_ne.mpr c21
        simp only [Option.some.injEq, Prod.mk.injEq] at H
        obtain ⟨rfl, rfl, rfl⟩ := H
        obtain ⟨Ao23, co23, eo23⟩ := Kd.R_slice HO_6.out
        subst eo23
        have p115 : 0 ≤ (0 : Int) := (by omega)
        have q115 : 0 < (x6_1.length : Int) := of_decide_eq_true (by assumption)
        obtain ⟨ad115, e115, hx115_0⟩ := Kd.at_int (Kd.R_reads' HO_6.out).2.2 0 p115 q115
        cases e115
        have qi115 : (0 < x6_1.length) = True := eq_true (by omega)
        (try rw [show ((0 : Int)).toNat = 0 from rfl] at hx115_0)
        (try rw [Addr.add_zero'] at hx115_0)
        replace p115 := eq_true p115
        replace q115 := eq_true q115
        have p116 : 0 ≤ (1 : Int) := (by omega)
        have q116 : 1 < (x6_1.length : Int) := of_decide_eq_true (by assumption)
        obtain ⟨ad116, e116, hx116_0⟩ := Kd.at_int (Kd.R_reads' HO_6.out).2.2 1 p116 q116
        obtain rfl : ad115 = ad116 := (by injection e116)
        (try simp only [show (1 : Int).toNat = 1 from rfl, Nat.reduceMul, Nat.reduceEqDiff, Go.Addr.add, ↓reduceIte] at hx116_0)
        have qi116 : (1 < x6_1.length) = True := eq_true (by omega)
        (try rw [show ((1 : Int)).toNat = 1 from rfl] at hx116_0)
        replace p116 := eq_true p116
        replace q116 := eq_true q116
        go_wp2_with (first | (go_at_call 218; (with_reducible refine (levyref2_Number.calls k1 (rd x6_1 0) (rd x6_1 1) x5_1 t117 t118 _ A20.out).mono ?_); rintro e w' ⟨rfl, ⟨nd, rfl⟩⟩; (try first | exact ⟨rfl, _, World.drewN_drewN _ _ _⟩ | exact ⟨rfl, _, Eq.trans (World.drewN_drewN _ _ _) (congrArg (World.drewN _) (Nat.add_assoc _ _ _))⟩)))
        repeat (go_quiet (first | (go_at_call 218; (with_reducible refine (levyref2_Number.calls k1 (rd x6_1 0) (rd x6_1 1) x5_1 t117 t118 _ A20.out).mono ?_); rintro e w' ⟨rfl, ⟨nd, rfl⟩⟩; (try first | exact ⟨rfl, _, World.drewN_drewN _ _ _⟩ | exact ⟨rfl, _, Eq.trans (World.drewN_drewN _ _ _) (congrArg (World.drewN _) (Nat.add_assoc _ _ _))⟩))); try go_wp2_with (first | (go_at_call 218; (with_reducible refine (levyref2_Number.calls k1 (rd x6_1 0) (rd x6_1 1) x5_1 t117 t118 _ A20.out).mono ?_); rintro e w' ⟨rfl, ⟨nd, rfl⟩⟩; (try first | exact ⟨rfl, _, World.drewN_drewN _ _ _⟩ | exact ⟨rfl, _, Eq.trans (World.drewN_drewN _ _ _) (congrArg (World.drewN _) (Nat.add_assoc _ _ _))⟩))))
        go_ret3
        exact ⟨by first | rfl | (simp [errW_none, errW_some] <;> rfl) | (simp [*, errW_none, errW_some] <;> rfl), by repeat (first | (with_reducible first | exact HB.out | apply below_alloc | apply pw_below_drewN | apply below_drew1) | exact HB.out)⟩
      ·rw [if_neg c19] at H
       exact absurd H (by simp)
     ·rw [if_neg c18] at H
      exact absurd H (by simp)
def levyref4_dated.f (k : Nat) (a0 : ByteArray) (a1 : Int) : Option (Int × Int × ByteArray × Int × Int × Int × Int) := if 0 ≤ a1 then (if a1 ≤ (wrap64 (a1 + 10)) then (if (wrap64 (a1 + 10)) ≤ (a0.size : Int) then ((levyref2_Parse.f k (a0.extract (a1 : Int).toNat ((wrap64 (a1 + 10)) : Int).toNat)).bind fun bt120 => (if bt120.2.2 = 0 then (if (wrap64 (a1 + 10)) < (a0.size : Int) then (if 0 ≤ (wrap64 (a1 + 10)) then ((levyref4_isWord.f (bt a0 (wrap64 (a1 + 10)))).bind fun t123 => (if t123 = true then (some (0, 0, (⟨#[]⟩ : ByteArray), 0, 0, a1, 44)) else (some (5, 0, (⟨#[]⟩ : ByteArray), bt120.1, 0, wrap64 (a1 + 10), 0)))) else (none)) else (some (5, 0, (⟨#[]⟩ : ByteArray), bt120.1, 0, wrap64 (a1 + 10), 0))) else (some (0, 0, (⟨#[]⟩ : ByteArray), 0, 0, a1, 44)))) else (none)) else (none)) else (none)
set_option maxHeartbeats 8000000 in
set_option maxRecDepth 100000 in
theorem levyref4_dated.calls (k : Nat) (a0 : ByteArray) (a1 : Int) (r1 : Int) (r2 : Int) (r3 : ByteArray) (r4 : Int) (r5 : Int) (r6 : Int) (r7 : Int) (w : World) (h : levyref4_dated.f k a0 a1 = some (r1, r2, r3, r4, r5, r6, r7)) :
  Calls Tryz.prog 127 #[.string a0, .int .i64 a1] w fun e w' => e = .returned (.tuple #[.agg #[.int .i64 r1, .int .i64 r2, .string r3, .int .i64 r4, .int .i64 r5], .int .i64 r6, .int .i64 r7]) ∧ Below w.heap.size w w' := by
 have hu57 := Tryz.underlying57
 have HB := Aside0.mk (Below.refl w.heap.size w)
 have H : (if 0 ≤ a1 then (if a1 ≤ (wrap64 (a1 + 10)) then (if (wrap64 (a1 + 10)) ≤ (a0.size : Int) then ((levyref2_Parse.f k (a0.extract (a1 : Int).toNat ((wrap64 (a1 + 10)) : Int).toNat)).bind fun bt120 => (if bt120.2.2 = 0 then (if (wrap64 (a1 + 10)) < (a0.size : Int) then (if 0 ≤ (wrap64 (a1 + 10)) then ((levyref4_isWord.f (bt a0 (wrap64 (a1 + 10)))).bind fun t123 => (if t123 = true then (some (0, 0, (⟨#[]⟩ : ByteArray), 0, 0, a1, 44)) else (some (5, 0, (⟨#[]⟩ : ByteArray), bt120.1, 0, wrap64 (a1 + 10), 0)))) else (none)) else (some (5, 0, (⟨#[]⟩ : ByteArray), bt120.1, 0, wrap64 (a1 + 10), 0))) else (some (0, 0, (⟨#[]⟩ : ByteArray), 0, 0, a1, 44)))) else (none)) else (none)) else (none)) = some (r1, r2, r3, r4, r5, r6, r7) := h
 clear h
 by_cases c3 : 0 ≤ a1
 ·rw [if_pos c3] at H
  have c3b0 := eq_true c3
  have c3b1 : decide (0 ≤ a1) = true := decide_eq_true c3
  clear c3
  by_cases c4 : a1 ≤ (wrap64 (a1 + 10))
  ·rw [if_pos c4] at H
   have c4b0 := eq_true c4
   have c4b1 : decide (a1 ≤ (wrap64 (a1 + 10))) = true := decide_eq_true c4
   by_cases c5 : (wrap64 (a1 + 10)) ≤ (a0.size : Int)
   ·rw [if_pos c5] at H
    have c5b0 := eq_true c5
    have c5b1 : decide ((wrap64 (a1 + 10)) ≤ (a0.size : Int)) = true := decide_eq_true c5
    replace H := Option.bind_eq_some_iff.mp H
    obtain ⟨⟨t120, t121, t122⟩, A60, H⟩ := H
    replace H : (if t122 = 0 then (if (wrap64 (a1 + 10)) < (a0.size : Int) then (if 0 ≤ (wrap64 (a1 + 10)) then ((levyref4_isWord.f (bt a0 (wrap64 (a1 + 10)))).bind fun t123 => (if t123 = true then (some (0, 0, (⟨#[]⟩ : ByteArray), 0, 0, a1, 44)) else (some (5, 0, (⟨#[]⟩ : ByteArray), t120, 0, wrap64 (a1 + 10), 0)))) else (none)) else (some (5, 0, (⟨#[]⟩ : ByteArray), t120, 0, wrap64 (a1 + 10), 0))) else (some (0, 0, (⟨#[]⟩ : ByteArray), 0, 0, a1, 44))) = some (r1, r2, r3, r4, r5, r6, r7) := H
    have A6 := Aside0.mk A60
    clear A60
    by_cases c7 : t122 = 0
    ·rw [if_pos c7] at H
     have c7b0 : (t122 == 0) = true := beq_iff_eq.mpr c7
     have c7b1 : (t122 != 0) = false := bne_eq_false_iff_eq.mpr c7
     clear c7
     by_cases c8 : (wrap64 (a1 + 10)) < (a0.size : Int)
     ·rw [if_pos c8] at H
      have c8b0 : decide ((wrap64 (a1 + 10)) < (a0.size : Int)) = true := decide_eq_true c8
      clear c8
      obtain ⟨ji9, hji9⟩ : ∃ j_ : Int, (wrap64 (a1 + 10)) = j_ := ⟨_, rfl⟩
      replace H : (if 0 ≤ (ji9) then ((levyref4_isWord.f (bt a0 (ji9))).bind fun t123 => (if t123 = true then (some (0, 0, (⟨#[]⟩ : ByteArray), 0, 0, a1, 44)) else (some (5, 0, (⟨#[]⟩ : ByteArray), t120, 0, ji9, 0)))) else (none)) = some (r1, r2, r3, r4, r5, r6, r7) := by first | (rw [hji9] at H; exact H) | (simp only [hji9] at H ⊢; exact H)
      (try rw [hji9] at c4b0)
      (try rw [hji9] at c4b1)
      (try rw [hji9] at c4)
      (try rw [hji9] at c5b0)
      (try rw [hji9] at c5b1)
      (try rw [hji9] at c5)
      (try rw [hji9] at c8b0)
      (try rw [hji9] at A6)
      have hji9w : (IntKind.i64.wrap (a1 + 10)) = ji9 := (i64_w _).trans hji9
      by_cases c10 : 0 ≤ (ji9)
      ·rw [if_pos c10] at H
       have c10b0 : decide (0 ≤ (ji9)) = true := decide_eq_true c10
       clear c10
       replace H := Option.bind_eq_some_iff.mp H
       obtain ⟨t123, A120, H⟩ := H
       replace H : (if t123 = true then (some (0, 0, (⟨#[]⟩ : ByteArray), 0, 0, a1, 44)) else (some (5, 0, (⟨#[]⟩ : ByteArray), t120, 0, ji9, 0))) = some (r1, r2, r3, r4, r5, r6, r7) := H
       have A12 := Aside0.mk A120
       clear A120
       by_cases c13 : t123 = true
       ·subst c13
        have H1 : (some (0, 0, (⟨#[]⟩ : ByteArray), 0, 0, a1, 44)) = some (r1, r2, r3, r4, r5, r6, r7) := by rw [if_pos rfl] at H; exact H
        clear H
        have H := H1
        clear H1
        simp only [Option.some.injEq, Prod.mk.injEq] at H
        obtain ⟨rfl, rfl, rfl, rfl, rfl, rfl, rfl⟩ := H
        go_enter Tryz.func127, Tryz.ntmps127
        go_wp2_with (first | ((with_reducible refine gate_dst (N := 4) rfl ?_); (try (refine gate_guard (by rfl) ?_; dsimp only)); refine box_event ?hg (N := 4) ?hd (cs := #[.int .i64 0, .int .i64 0, .string ⟨#[]⟩, .int .i64 0, .int .i64 0]) (t := 57) ?hr ?_; (case hd => rfl); (case hg => rfl); (case hr => first | (go_simp; done) | (go_simp; rfl)); intro gb119 hg w14 hbox hb; have n0_ := Aside0.mk (below_step (by repeat (first | (with_reducible first | exact HB.out | apply below_alloc | apply pw_below_drewN | apply below_drew1) | exact HB.out)) hb); have n1_ := Aside0.mk (hbox); have n2_ := Aside0.mk ((by rw [hg]; exact (below_size (by repeat (first | (with_reducible first | exact HB.out | apply below_alloc | apply pw_below_drewN | apply below_drew1) | exact HB.out))) : w.heap.size ≤ gb119)); have n3_ := Aside0.mk ((by rw [hg]; exact (below_size (by repeat (first | (with_reducible first | exact HB.out | apply below_alloc | apply pw_below_drewN | apply below_drew1) | exact HB.out))) : w.heap.size ≤ gb119)); clear HB; have HB := n0_; have BK119 := n1_; have GW119 := n2_; have GE119 := n3_; clear n0_ n1_ n2_ n3_; clear hb hbox hg) | ((with_reducible refine gate_callee (f := 199) rfl ?_); refine goesL_ (some 18) rfl rfl Tryz.func199 (by kernel_rfl) rfl #[.string (a0.extract (a1 : Int).toNat ((ji9) : Int).toNat)] rfl (by (try simp only [List.map_toArray, List.map_cons, List.map_nil]); first | done | (simp only [hji9]; rfl) | rfl | (simp only [List.length_drop, List.length_take]; rfl)) ?_; (with_reducible refine (levyref2_Parse.calls k (a0.extract (a1 : Int).toNat ((ji9) : Int).toNat) t120 t121 t122 _ A6.out).mono ?_); rintro e w15 ⟨rfl, hb⟩; refine ⟨_, rfl, ?_⟩; have n0_ := Aside0.mk (blk_below (g := gb119) (o := .cells #[.int .i64 0, .int .i64 0, .string ⟨#[]⟩, .int .i64 0, .int .i64 0] 57 (0, 0)) (by (with_reducible repeat (first | refine blk_drewN ?_ _ | refine blk_drew ?_ | refine blk_alloc ?_ _)); exact BK119.out) hb); have n1_ := Aside0.mk (below_step (by repeat (first | (with_reducible first | exact HB.out | apply below_alloc | apply pw_below_drewN | apply below_drew1 | refine below_set ?_ GE119.out) | exact HB.out)) hb); clear BK119; clear HB; have BK119 := n0_; have HB := n1_; clear n0_ n1_; (try clear hb); (try clear hb2); (try clear hk); (try clear hi); have p11 : 0 ≤ ((ji9) : Int) := of_decide_eq_true (by assumption); have q11 : (ji9) < (a0.size : Int) := of_decide_eq_true (by assumption); have hx11 := bt_at a0 (ji9); replace p11 := eq_true p11; replace q11 := eq_true q11) | (go_at_call 198; (with_reducible refine (levyref4_isWord.calls (bt a0 (ji9)) true _ A12.out).mono ?_); rintro e w' ⟨rfl, ⟨nd, rfl⟩⟩; (try (rw [drewN_self w15]; generalize hq_ : World.drewN w15 _ = w15; have n0_ : Aside0 (w15.heap[gb119]? = some (.cells #[.int .i64 0, .int .i64 0, .string ⟨#[]⟩, .int .i64 0, .int .i64 0] 57 (0, 0))) := ⟨by rw [← hq_]; exact (by (with_reducible repeat (first | refine blk_drewN ?_ _ | refine blk_drew ?_ | refine blk_alloc ?_ _)); exact BK119.out)⟩; have n1_ : Aside0 (Below w.heap.size w w15) := ⟨by rw [← hq_]; exact (by repeat (first | (with_reducible first | exact HB.out | apply below_alloc | apply pw_below_drewN | apply below_drew1 | refine below_set ?_ GE119.out) | exact HB.out))⟩; clear BK119 HB hq_; have BK119 := n0_; have HB := n1_; clear n0_ n1_)); have hcz16_0 : w15.cell? ⟨gb119, 0, none⟩ = some (.int .i64 0) := (blk_cell BK119.out 0).trans rfl; have hcz16_1 : w15.cell? ⟨gb119, 1, none⟩ = some (.int .i64 0) := (blk_cell BK119.out 1).trans rfl; have hcz16_2 : w15.cell? ⟨gb119, 2, none⟩ = some (.string ⟨#[]⟩) := (blk_cell BK119.out 2).trans rfl; have hcz16_3 : w15.cell? ⟨gb119, 3, none⟩ = some (.int .i64 0) := (blk_cell BK119.out 3).trans rfl; have hcz16_4 : w15.cell? ⟨gb119, 4, none⟩ = some (.int .i64 0) := (blk_cell BK119.out 4).trans rfl; have hfz16_0 := blk_frozen BK119.out 0; have hfz16_1 := blk_frozen BK119.out 1; have hfz16_2 := blk_frozen BK119.out 2; have hfz16_3 := blk_frozen BK119.out 3; have hfz16_4 := blk_frozen BK119.out 4))
        refine bodyPost_ret (results_ctt rfl _ _ gb119 57 #[.int .i64 0, .int .i64 0, .string ⟨#[]⟩, .int .i64 0, .int .i64 0] (0, 0) _ rfl (by (with_reducible repeat (first | refine blk_drewN ?_ _ | refine blk_drew ?_ | refine blk_alloc ?_ _)); refine blk_put (cs := #[.int .i64 0, .int .i64 0, .string ⟨#[]⟩, .int .i64 0, .int .i64 0]) ?_ 4 _ rfl; (with_reducible repeat (first | refine blk_drewN ?_ _ | refine blk_drew ?_ | refine blk_alloc ?_ _)); refine blk_put (cs := #[.int .i64 0, .int .i64 0, .string ⟨#[]⟩, .int .i64 0, .int .i64 0]) ?_ 3 _ rfl; (with_reducible repeat (first | refine blk_drewN ?_ _ | refine blk_drew ?_ | refine blk_alloc ?_ _)); refine blk_put (cs := #[.int .i64 0, .int .i64 0, .string ⟨#[]⟩, .int .i64 0, .int .i64 0]) ?_ 2 _ rfl; (with_reducible repeat (first | refine blk_drewN ?_ _ | refine blk_drew ?_ | refine blk_alloc ?_ _)); refine blk_put (cs := #[.int .i64 0, .int .i64 0, .string ⟨#[]⟩, .int .i64 0, .int .i64 0]) ?_ 1 _ rfl; (with_reducible repeat (first | refine blk_drewN ?_ _ | refine blk_drew ?_ | refine blk_alloc ?_ _)); refine blk_put (cs := #[.int .i64 0, .int .i64 0, .string ⟨#[]⟩, .int .i64 0, .int .i64 0]) ?_ 0 _ rfl; (with_reducible repeat (first | refine blk_drewN ?_ _ | refine blk_drew ?_ | refine blk_alloc ?_ _)); exact BK119.out) Tryz.underlying57 rfl (by kernel_rfl)) rfl ?_
        exact ⟨by first | rfl | (simp [errW_none, errW_some] <;> rfl) | (simp only [← hji9]; first | rfl | (simp [errW_none, errW_some] <;> rfl)) | (simp [*, errW_none, errW_some] <;> rfl), by repeat (first | (with_reducible first | exact HB.out | apply below_alloc | apply pw_below_drewN | apply below_drew1 | refine below_set ?_ GE119.out) | exact HB.out)⟩
       ·replace c13 := Bool.eq_false_iff.mpr c13
        subst c13
        have H1 : (some (5, 0, (⟨#[]⟩ : ByteArray), t120, 0, ji9, 0)) = some (r1, r2, r3, r4, r5, r6, r7) := by rw [if_neg (show ¬ (false = true) by decide)] at H; exact H
        clear H
        have H := H1
        clear H1
        simp only [Option.some.injEq, Prod.mk.injEq] at H
        obtain ⟨rfl, rfl, rfl, rfl, rfl, rfl, rfl⟩ := H
        go_enter Tryz.func127, Tryz.ntmps127
        go_wp2_with (first | ((with_reducible refine gate_dst (N := 4) rfl ?_); (try (refine gate_guard (by rfl) ?_; dsimp only)); refine box_event ?hg (N := 4) ?hd (cs := #[.int .i64 0, .int .i64 0, .string ⟨#[]⟩, .int .i64 0, .int .i64 0]) (t := 57) ?hr ?_; (case hd => rfl); (case hg => rfl); (case hr => first | (go_simp; done) | (go_simp; rfl)); intro gb119 hg w17 hbox hb; have n0_ := Aside0.mk (below_step (by repeat (first | (with_reducible first | exact HB.out | apply below_alloc | apply pw_below_drewN | apply below_drew1) | exact HB.out)) hb); have n1_ := Aside0.mk (hbox); have n2_ := Aside0.mk ((by rw [hg]; exact (below_size (by repeat (first | (with_reducible first | exact HB.out | apply below_alloc | apply pw_below_drewN | apply below_drew1) | exact HB.out))) : w.heap.size ≤ gb119)); have n3_ := Aside0.mk ((by rw [hg]; exact (below_size (by repeat (first | (with_reducible first | exact HB.out | apply below_alloc | apply pw_below_drewN | apply below_drew1) | exact HB.out))) : w.heap.size ≤ gb119)); clear HB; have HB := n0_; have BK119 := n1_; have GW119 := n2_; have GE119 := n3_; clear n0_ n1_ n2_ n3_; clear hb hbox hg) | ((with_reducible refine gate_callee (f := 199) rfl ?_); refine goesL_ (some 18) rfl rfl Tryz.func199 (by kernel_rfl) rfl #[.string (a0.extract (a1 : Int).toNat ((ji9) : Int).toNat)] rfl (by (try simp only [List.map_toArray, List.map_cons, List.map_nil]); first | done | (simp only [hji9]; rfl) | rfl | (simp only [List.length_drop, List.length_take]; rfl)) ?_; (with_reducible refine (levyref2_Parse.calls k (a0.extract (a1 : Int).toNat ((ji9) : Int).toNat) t120 t121 t122 _ A6.out).mono ?_); rintro e w18 ⟨rfl, hb⟩; refine ⟨_, rfl, ?_⟩; have n0_ := Aside0.mk (blk_below (g := gb119) (o := .cells #[.int .i64 0, .int .i64 0, .string ⟨#[]⟩, .int .i64 0, .int .i64 0] 57 (0, 0)) (by (with_reducible repeat (first | refine blk_drewN ?_ _ | refine blk_drew ?_ | refine blk_alloc ?_ _)); exact BK119.out) hb); have n1_ := Aside0.mk (below_step (by repeat (first | (with_reducible first | exact HB.out | apply below_alloc | apply pw_below_drewN | apply below_drew1 | refine below_set ?_ GE119.out) | exact HB.out)) hb); clear BK119; clear HB; have BK119 := n0_; have HB := n1_; clear n0_ n1_; (try clear hb); (try clear hb2); (try clear hk); (try clear hi); have p11 : 0 ≤ ((ji9) : Int) := of_decide_eq_true (by assumption); have q11 : (ji9) < (a0.size : Int) := of_decide_eq_true (by assumption); have hx11 := bt_at a0 (ji9); replace p11 := eq_true p11; replace q11 := eq_true q11) | (go_at_call 198; (with_reducible refine (levyref4_isWord.calls (bt a0 (ji9)) false _ A12.out).mono ?_); rintro e w' ⟨rfl, ⟨nd, rfl⟩⟩; (try (rw [drewN_self w18]; generalize hq_ : World.drewN w18 _ = w18; have n0_ : Aside0 (w18.heap[gb119]? = some (.cells #[.int .i64 0, .int .i64 0, .string ⟨#[]⟩, .int .i64 0, .int .i64 0] 57 (0, 0))) := ⟨by rw [← hq_]; exact (by (with_reducible repeat (first | refine blk_drewN ?_ _ | refine blk_drew ?_ | refine blk_alloc ?_ _)); exact BK119.out)⟩; have n1_ : Aside0 (Below w.heap.size w w18) := ⟨by rw [← hq_]; exact (by repeat (first | (with_reducible first | exact HB.out | apply below_alloc | apply pw_below_drewN | apply below_drew1 | refine below_set ?_ GE119.out) | exact HB.out))⟩; clear BK119 HB hq_; have BK119 := n0_; have HB := n1_; clear n0_ n1_)); have hcz19_0 : w18.cell? ⟨gb119, 0, none⟩ = some (.int .i64 0) := (blk_cell BK119.out 0).trans rfl; have hcz19_1 : w18.cell? ⟨gb119, 1, none⟩ = some (.int .i64 0) := (blk_cell BK119.out 1).trans rfl; have hcz19_2 : w18.cell? ⟨gb119, 2, none⟩ = some (.string ⟨#[]⟩) := (blk_cell BK119.out 2).trans rfl; have hcz19_3 : w18.cell? ⟨gb119, 3, none⟩ = some (.int .i64 0) := (blk_cell BK119.out 3).trans rfl; have hcz19_4 : w18.cell? ⟨gb119, 4, none⟩ = some (.int .i64 0) := (blk_cell BK119.out 4).trans rfl; have hfz19_0 := blk_frozen BK119.out 0; have hfz19_1 := blk_frozen BK119.out 1; have hfz19_2 := blk_frozen BK119.out 2; have hfz19_3 := blk_frozen BK119.out 3; have hfz19_4 := blk_frozen BK119.out 4))
        refine bodyPost_ret (results_ctt rfl _ _ gb119 57 #[.int .i64 5, .int .i64 0, .string ⟨#[]⟩, .int .i64 t120, .int .i64 0] (0, 0) _ rfl (by (with_reducible repeat (first | refine blk_drewN ?_ _ | refine blk_drew ?_ | refine blk_alloc ?_ _)); refine blk_put (cs := #[.int .i64 5, .int .i64 0, .string ⟨#[]⟩, .int .i64 t120, .int .i64 0]) ?_ 4 _ rfl; (with_reducible repeat (first | refine blk_drewN ?_ _ | refine blk_drew ?_ | refine blk_alloc ?_ _)); refine blk_put (cs := #[.int .i64 5, .int .i64 0, .string ⟨#[]⟩, .int .i64 0, .int .i64 0]) ?_ 3 _ rfl; (with_reducible repeat (first | refine blk_drewN ?_ _ | refine blk_drew ?_ | refine blk_alloc ?_ _)); refine blk_put (cs := #[.int .i64 5, .int .i64 0, .string ⟨#[]⟩, .int .i64 0, .int .i64 0]) ?_ 2 _ rfl; (with_reducible repeat (first | refine blk_drewN ?_ _ | refine blk_drew ?_ | refine blk_alloc ?_ _)); refine blk_put (cs := #[.int .i64 5, .int .i64 0, .string ⟨#[]⟩, .int .i64 0, .int .i64 0]) ?_ 1 _ rfl; (with_reducible repeat (first | refine blk_drewN ?_ _ | refine blk_drew ?_ | refine blk_alloc ?_ _)); refine blk_put (cs := #[.int .i64 0, .int .i64 0, .string ⟨#[]⟩, .int .i64 0, .int .i64 0]) ?_ 0 _ rfl; (with_reducible repeat (first | refine blk_drewN ?_ _ | refine blk_drew ?_ | refine blk_alloc ?_ _)); exact BK119.out) Tryz.underlying57 rfl (by kernel_rfl)) rfl ?_
        exact ⟨by first | rfl | (simp [errW_none, errW_some] <;> rfl) | (simp only [← hji9]; first | rfl | (simp [errW_none, errW_some] <;> rfl)) | (simp [*, errW_none, errW_some] <;> rfl), by repeat (first | (with_reducible first | exact HB.out | apply below_alloc | apply pw_below_drewN | apply below_drew1 | refine below_set ?_ GE119.out) | exact HB.out)⟩
      ·rw [if_neg c10] at H
       exact absurd H (by simp)
     ·rw [if_neg c8] at H
      have c8b0 : decide ((wrap64 (a1 + 10)) < (a0.size : Int)) = false := decide_eq_false c8
      clear c8
      simp only [Option.some.injEq, Prod.mk.injEq] at H
      obtain ⟨rfl, rfl, rfl, rfl, rfl, rfl, rfl⟩ := H
      go_enter Tryz.func127, Tryz.ntmps127
      go_wp2_with (first | ((with_reducible refine gate_dst (N := 4) rfl ?_); (try (refine gate_guard (by rfl) ?_; dsimp only)); refine box_event ?hg (N := 4) ?hd (cs := #[.int .i64 0, .int .i64 0, .string ⟨#[]⟩, .int .i64 0, .int .i64 0]) (t := 57) ?hr ?_; (case hd => rfl); (case hg => rfl); (case hr => first | (go_simp; done) | (go_simp; rfl)); intro gb119 hg w20 hbox hb; have n0_ := Aside0.mk (below_step (by repeat (first | (with_reducible first | exact HB.out | apply below_alloc | apply pw_below_drewN | apply below_drew1) | exact HB.out)) hb); have n1_ := Aside0.mk (hbox); have n2_ := Aside0.mk ((by rw [hg]; exact (below_size (by repeat (first | (with_reducible first | exact HB.out | apply below_alloc | apply pw_below_drewN | apply below_drew1) | exact HB.out))) : w.heap.size ≤ gb119)); have n3_ := Aside0.mk ((by rw [hg]; exact (below_size (by repeat (first | (with_reducible first | exact HB.out | apply below_alloc | apply pw_below_drewN | apply below_drew1) | exact HB.out))) : w.heap.size ≤ gb119)); clear HB; have HB := n0_; have BK119 := n1_; have GW119 := n2_; have GE119 := n3_; clear n0_ n1_ n2_ n3_; clear hb hbox hg) | ((with_reducible refine gate_callee (f := 199) rfl ?_); refine goesL_ (some 18) rfl rfl Tryz.func199 (by kernel_rfl) rfl #[.string (a0.extract (a1 : Int).toNat ((wrap64 (a1 + 10)) : Int).toNat)] rfl (by (try simp only [List.map_toArray, List.map_cons, List.map_nil]); first | done | rfl | (simp only [List.length_drop, List.length_take]; rfl)) ?_; (with_reducible refine (levyref2_Parse.calls k (a0.extract (a1 : Int).toNat ((wrap64 (a1 + 10)) : Int).toNat) t120 t121 t122 _ A6.out).mono ?_); rintro e w21 ⟨rfl, hb⟩; refine ⟨_, rfl, ?_⟩; have n0_ := Aside0.mk (blk_below (g := gb119) (o := .cells #[.int .i64 0, .int .i64 0, .string ⟨#[]⟩, .int .i64 0, .int .i64 0] 57 (0, 0)) (by (with_reducible repeat (first | refine blk_drewN ?_ _ | refine blk_drew ?_ | refine blk_alloc ?_ _)); exact BK119.out) hb); have n1_ := Aside0.mk (below_step (by repeat (first | (with_reducible first | exact HB.out | apply below_alloc | apply pw_below_drewN | apply below_drew1 | refine below_set ?_ GE119.out) | exact HB.out)) hb); clear BK119; clear HB; have BK119 := n0_; have HB := n1_; clear n0_ n1_; (try clear hb); (try clear hb2); (try clear hk); (try clear hi); have hcz22_0 : w21.cell? ⟨gb119, 0, none⟩ = some (.int .i64 0) := (blk_cell BK119.out 0).trans rfl; have hcz22_1 : w21.cell? ⟨gb119, 1, none⟩ = some (.int .i64 0) := (blk_cell BK119.out 1).trans rfl; have hcz22_2 : w21.cell? ⟨gb119, 2, none⟩ = some (.string ⟨#[]⟩) := (blk_cell BK119.out 2).trans rfl; have hcz22_3 : w21.cell? ⟨gb119, 3, none⟩ = some (.int .i64 0) := (blk_cell BK119.out 3).trans rfl; have hcz22_4 : w21.cell? ⟨gb119, 4, none⟩ = some (.int .i64 0) := (blk_cell BK119.out 4).trans rfl; have hfz22_0 := blk_frozen BK119.out 0; have hfz22_1 := blk_frozen BK119.out 1; have hfz22_2 := blk_frozen BK119.out 2; have hfz22_3 := blk_frozen BK119.out 3; have hfz22_4 := blk_frozen BK119.out 4))
      refine bodyPost_ret (results_ctt rfl _ _ gb119 57 #[.int .i64 5, .int .i64 0, .string ⟨#[]⟩, .int .i64 t120, .int .i64 0] (0, 0) _ rfl (by (with_reducible repeat (first | refine blk_drewN ?_ _ | refine blk_drew ?_ | refine blk_alloc ?_ _)); refine blk_put (cs := #[.int .i64 5, .int .i64 0, .string ⟨#[]⟩, .int .i64 t120, .int .i64 0]) ?_ 4 _ rfl; (with_reducible repeat (first | refine blk_drewN ?_ _ | refine blk_drew ?_ | refine blk_alloc ?_ _)); refine blk_put (cs := #[.int .i64 5, .int .i64 0, .string ⟨#[]⟩, .int .i64 0, .int .i64 0]) ?_ 3 _ rfl; (with_reducible repeat (first | refine blk_drewN ?_ _ | refine blk_drew ?_ | refine blk_alloc ?_ _)); refine blk_put (cs := #[.int .i64 5, .int .i64 0, .string ⟨#[]⟩, .int .i64 0, .int .i64 0]) ?_ 2 _ rfl; (with_reducible repeat (first | refine blk_drewN ?_ _ | refine blk_drew ?_ | refine blk_alloc ?_ _)); refine blk_put (cs := #[.int .i64 5, .int .i64 0, .string ⟨#[]⟩, .int .i64 0, .int .i64 0]) ?_ 1 _ rfl; (with_reducible repeat (first | refine blk_drewN ?_ _ | refine blk_drew ?_ | refine blk_alloc ?_ _)); refine blk_put (cs := #[.int .i64 0, .int .i64 0, .string ⟨#[]⟩, .int .i64 0, .int .i64 0]) ?_ 0 _ rfl; (with_reducible repeat (first | refine blk_drewN ?_ _ | refine blk_drew ?_ | refine blk_alloc ?_ _)); exact BK119.out) Tryz.underlying57 rfl (by kernel_rfl)) rfl ?_
      exact ⟨by first | rfl | (simp [errW_none, errW_some] <;> rfl) | (simp [*, errW_none, errW_some] <;> rfl), by repeat (first | (with_reducible first | exact HB.out | apply below_alloc | apply pw_below_drewN | apply below_drew1 | refine below_set ?_ GE119.out) | exact HB.out)⟩
    ·rw [if_neg c7] at H
     have c7b0 : (t122 == 0) = false := beq_eq_false_iff_ne.mpr c7
     have c7b1 : (t122 != 0) = true := bne_iff_ne.mpr c7
     simp only [Option.some.injEq, Prod.mk.injEq] at H
     obtain ⟨rfl, rfl, rfl, rfl, rfl, rfl, rfl⟩ := H
     go_enter Tryz.func127, Tryz.ntmps127
     go_wp2_with (first | ((with_reducible refine gate_dst (N := 4) rfl ?_); (try (refine gate_guard (by rfl) ?_; dsimp only)); refine box_event ?hg (N := 4) ?hd (cs := #[.int .i64 0, .int .i64 0, .string ⟨#[]⟩, .int .i64 0, .int .i64 0]) (t := 57) ?hr ?_; (case hd => rfl); (case hg => rfl); (case hr => first | (go_simp; done) | (go_simp; rfl)); intro gb119 hg w23 hbox hb; have n0_ := Aside0.mk (below_step (by repeat (first | (with_reducible first | exact HB.out | apply below_alloc | apply pw_below_drewN | apply below_drew1) | exact HB.out)) hb); have n1_ := Aside0.mk (hbox); have n2_ := Aside0.mk ((by rw [hg]; exact (below_size (by repeat (first | (with_reducible first | exact HB.out | apply below_alloc | apply pw_below_drewN | apply below_drew1) | exact HB.out))) : w.heap.size ≤ gb119)); have n3_ := Aside0.mk ((by rw [hg]; exact (below_size (by repeat (first | (with_reducible first | exact HB.out | apply below_alloc | apply pw_below_drewN | apply below_drew1) | exact HB.out))) : w.heap.size ≤ gb119)); clear HB; have HB := n0_; have BK119 := n1_; have GW119 := n2_; have GE119 := n3_; clear n0_ n1_ n2_ n3_; clear hb hbox hg) | ((with_reducible refine gate_callee (f := 199) rfl ?_); refine goesL_ (some 18) rfl rfl Tryz.func199 (by kernel_rfl) rfl #[.string (a0.extract (a1 : Int).toNat ((wrap64 (a1 + 10)) : Int).toNat)] rfl (by (try simp only [List.map_toArray, List.map_cons, List.map_nil]); first | done | rfl | (simp only [List.length_drop, List.length_take]; rfl)) ?_; (with_reducible refine (levyref2_Parse.calls k (a0.extract (a1 : Int).toNat ((wrap64 (a1 + 10)) : Int).toNat) t120 t121 t122 _ A6.out).mono ?_); rintro e w24 ⟨rfl, hb⟩; refine ⟨_, rfl, ?_⟩; have n0_ := Aside0.mk (blk_below (g := gb119) (o := .cells #[.int .i64 0, .int .i64 0, .string ⟨#[]⟩, .int .i64 0, .int .i64 0] 57 (0, 0)) (by (with_reducible repeat (first | refine blk_drewN ?_ _ | refine blk_drew ?_ | refine blk_alloc ?_ _)); exact BK119.out) hb); have n1_ := Aside0.mk (below_step (by repeat (first | (with_reducible first | exact HB.out | apply below_alloc | apply pw_below_drewN | apply below_drew1 | refine below_set ?_ GE119.out) | exact HB.out)) hb); clear BK119; clear HB; have BK119 := n0_; have HB := n1_; clear n0_ n1_; (try clear hb); (try clear hb2); (try clear hk); (try clear hi); have hcz25_0 : w24.cell? ⟨gb119, 0, none⟩ = some (.int .i64 0) := (blk_cell BK119.out 0).trans rfl; have hcz25_1 : w24.cell? ⟨gb119, 1, none⟩ = some (.int .i64 0) := (blk_cell BK119.out 1).trans rfl; have hcz25_2 : w24.cell? ⟨gb119, 2, none⟩ = some (.string ⟨#[]⟩) := (blk_cell BK119.out 2).trans rfl; have hcz25_3 : w24.cell? ⟨gb119, 3, none⟩ = some (.int .i64 0) := (blk_cell BK119.out 3).trans rfl; have hcz25_4 : w24.cell? ⟨gb119, 4, none⟩ = some (.int .i64 0) := (blk_cell BK119.out 4).trans rfl; have hfz25_0 := blk_frozen BK119.out 0; have hfz25_1 := blk_frozen BK119.out 1; have hfz25_2 := blk_frozen BK119.out 2; have hfz25_3 := blk_frozen BK119.out 3; have hfz25_4 := blk_frozen BK119.out 4))
     refine bodyPost_ret (results_ctt rfl _ _ gb119 57 #[.int .i64 0, .int .i64 0, .string ⟨#[]⟩, .int .i64 0, .int .i64 0] (0, 0) _ rfl (by (with_reducible repeat (first | refine blk_drewN ?_ _ | refine blk_drew ?_ | refine blk_alloc ?_ _)); refine blk_put (cs := #[.int .i64 0, .int .i64 0, .string ⟨#[]⟩, .int .i64 0, .int .i64 0]) ?_ 4 _ rfl; (with_reducible repeat (first | refine blk_drewN ?_ _ | refine blk_drew ?_ | refine blk_alloc ?_ _)); refine blk_put (cs := #[.int .i64 0, .int .i64 0, .string ⟨#[]⟩, .int .i64 0, .int .i64 0]) ?_ 3 _ rfl; (with_reducible repeat (first | refine blk_drewN ?_ _ | refine blk_drew ?_ | refine blk_alloc ?_ _)); refine blk_put (cs := #[.int .i64 0, .int .i64 0, .string ⟨#[]⟩, .int .i64 0, .int .i64 0]) ?_ 2 _ rfl; (with_reducible repeat (first | refine blk_drewN ?_ _ | refine blk_drew ?_ | refine blk_alloc ?_ _)); refine blk_put (cs := #[.int .i64 0, .int .i64 0, .string ⟨#[]⟩, .int .i64 0, .int .i64 0]) ?_ 1 _ rfl; (with_reducible repeat (first | refine blk_drewN ?_ _ | refine blk_drew ?_ | refine blk_alloc ?_ _)); refine blk_put (cs := #[.int .i64 0, .int .i64 0, .string ⟨#[]⟩, .int .i64 0, .int .i64 0]) ?_ 0 _ rfl; (with_reducible repeat (first | refine blk_drewN ?_ _ | refine blk_drew ?_ | refine blk_alloc ?_ _)); exact BK119.out) Tryz.underlying57 rfl (by kernel_rfl)) rfl ?_
     exact ⟨by first | rfl | (simp [errW_none, errW_some] <;> rfl) | (simp [*, errW_none, errW_some] <;> rfl), by repeat (first | (with_reducible first | exact HB.out | apply below_alloc | apply pw_below_drewN | apply below_drew1 | refine below_set ?_ GE119.out) | exact HB.out)⟩
   ·rw [if_neg c5] at H
    exact absurd H (by simp)
  ·rw [if_neg c4] at H
   exact absurd H (by simp)
 ·rw [if_neg c3] at H
  exact absurd H (by simp)
def levyref4_is.f (a0 : ByteArray) (a1 : Int) (a2 : ByteArray) : Option (Bool) := if (wrap64 (a1 + (a2.size : Int))) ≤ (a0.size : Int) then (if 0 ≤ a1 then (if a1 ≤ (wrap64 (a1 + (a2.size : Int))) then (some ((a0.extract (a1 : Int).toNat ((wrap64 (a1 + (a2.size : Int))) : Int).toNat).toList == a2.toList)) else (none)) else (none)) else (some false)
set_option maxHeartbeats 8000000 in
set_option maxRecDepth 100000 in
theorem levyref4_is.calls (a0 : ByteArray) (a1 : Int) (a2 : ByteArray) (r : Bool) (w : World) (h : levyref4_is.f a0 a1 a2 = some r) :
  Calls Tryz.prog 130 #[.string a0, .int .i64 a1, .string a2] w fun e w' => e = .returned (.bool r) ∧ Drawn0 w w' := by
 have H : (if (wrap64 (a1 + (a2.size : Int))) ≤ (a0.size : Int) then (if 0 ≤ a1 then (if a1 ≤ (wrap64 (a1 + (a2.size : Int))) then (some ((a0.extract (a1 : Int).toNat ((wrap64 (a1 + (a2.size : Int))) : Int).toNat).toList == a2.toList)) else (none)) else (none)) else (some false)) = some r := h
 clear h
 by_cases c4 : (wrap64 (a1 + (a2.size : Int))) ≤ (a0.size : Int)
 ·rw [if_pos c4] at H
  have c4b0 : decide ((wrap64 (a1 + (a2.size : Int))) ≤ (a0.size : Int)) = true := decide_eq_true c4
  clear c4
  by_cases c5 : 0 ≤ a1
  ·rw [if_pos c5] at H
   have c5b0 := eq_true c5
   have c5b1 : decide (0 ≤ a1) = true := decide_eq_true c5
   clear c5
   by_cases c6 : a1 ≤ (wrap64 (a1 + (a2.size : Int)))
   ·rw [if_pos c6] at H
    have c6b0 := eq_true c6
    have c6b1 : decide (a1 ≤ (wrap64 (a1 + (a2.size : Int)))) = true := decide_eq_true c6
    have c7b0 := eq_true (of_decide_eq_true (by assumption) : (wrap64 (a1 + (a2.size : Int))) ≤ (a0.size : Int))
    obtain rfl := Option.some.inj H
    go_enter Tryz.func130, Tryz.ntmps130
    go_wp2
    go_ret
    exact ⟨by first | rfl | (simp [*]; done), by repeat (first | exact Drawn0.refl _ | apply Drawn0.step)⟩
   ·rw [if_neg c6] at H
    exact absurd H (by simp)
  ·rw [if_neg c5] at H
   exact absurd H (by simp)
 ·rw [if_neg c4] at H
  have c4b0 : decide ((wrap64 (a1 + (a2.size : Int))) ≤ (a0.size : Int)) = false := decide_eq_false c4
  clear c4
  obtain rfl := Option.some.inj H
  go_enter Tryz.func130, Tryz.ntmps130
  go_wp2
  go_ret
  exact ⟨by first | rfl | (simp [*]; done), by repeat (first | exact Drawn0.refl _ | apply Drawn0.step)⟩
def levyref4_whole.l0 : Nat → ByteArray → Int → Int → Option (Int)
 | 0, _, _, _ => none
 | k + 1, x0, x3, x4 => if x4 < (x0.size : Int) then (if x3 ≥ 100000000000000000 then (some 1000000000000000000) else (if 0 ≤ x4 then (levyref4_whole.l0 k x0 (wrap64 ((wrap64 (10 * x3)) + (((bt x0 x4) - 48) % 256))) (wrap64 (x4 + 1))) else (none))) else (some x3)
def levyref4_whole.f (k : Nat) (a0 : ByteArray) : Option (Int) := levyref4_whole.l0 k a0 0 0
set_option maxHeartbeats 8000000 in
set_option maxRecDepth 100000 in
theorem levyref4_whole.calls (k : Nat) (a0 : ByteArray) (r : Int) (w : World) (h : levyref4_whole.f k a0 = some r) :
  Calls Tryz.prog 219 #[.string a0] w fun e w' => e = .returned (.int .i64 r) ∧ Drawn0 w w' := by
 have H : (levyref4_whole.l0 k a0 0 0) = some r := h
 clear h
 have H' := Aside0.mk H
 clear H
 go_enter Tryz.func219, Tryz.ntmps219
 go_wp2
 go_loopg [3, 4] k (fun kq v3 v4 w' => ∃ (x3_1 : Int) (x4_1 : Int), v3 = .int .i64 x3_1 ∧ v4 = .int .i64 x4_1 ∧ Aside0 (levyref4_whole.l0 kq a0 x3_1 x4_1 = some r) ∧ Aside0 (kq ≤ k) ∧ Drawn0 w w')
 case atStart => exact ⟨(0), (0), (by first | rfl | (simp [*]; done)), (by first | rfl | (simp [*]; done)), H', ⟨Nat.le_refl _⟩, by repeat (first | exact Drawn0.refl _ | apply Drawn0.step)⟩
 case round =>
  clear H'
  obtain ⟨x3_1, x4_1, rfl, rfl, HA, HK1, ⟨m1, rfl⟩⟩ := hrel
  cases gk with
  | zero => exact absurd HA.out (by simp [levyref4_whole.l0])
  | succ k1 =>
   have H := HA.out
   clear HA
   simp only [levyref4_whole.l0] at H
   by_cases c2 : x4_1 < (a0.size : Int)
   ·rw [if_pos c2] at H
    have c2b0 : decide (x4_1 < (a0.size : Int)) = true := decide_eq_true c2
    clear c2
    by_cases c3 : x3_1 ≥ 100000000000000000
    ·rw [if_pos c3] at H
     have c3b0 : decide (100000000000000000 ≤ x3_1) = true := decide_eq_true c3
     clear c3
     obtain rfl := Option.some.inj H
     go_wp2
     go_ret
     exact ⟨by first | rfl | (simp [*]; done), by repeat (first | exact Drawn0.refl _ | apply Drawn0.step)⟩
    ·rw [if_neg c3] at H
     have c3b0 : decide (100000000000000000 ≤ x3_1) = false := decide_eq_false c3
     clear c3
     by_cases c4 : 0 ≤ x4_1
     ·rw [if_pos c4] at H
      have c4b0 : decide (0 ≤ x4_1) = true := decide_eq_true c4
      clear c4
      have H' := Aside0.mk H
      clear H
      have p5 : 0 ≤ (x4_1 : Int) := of_decide_eq_true (by assumption)
      have q5 : x4_1 < (a0.size : Int) := of_decide_eq_true (by assumption)
      have hx5 := bt_at a0 x4_1
      replace p5 := eq_true p5
      replace q5 := eq_true q5
      go_wp2
      go_roundg k1
      case measure => have := HK1.out; omega
      case rel => exact ⟨(wrap64 ((wrap64 (10 * x3_1)) + (((bt a0 x4_1) - 48) % 256))), (wrap64 (x4_1 + 1)), (by first | rfl | (simp [*]; done)), (by first | rfl | (simp [*]; done)), H', ⟨by have := HK1.out; omega⟩, by repeat (first | exact Drawn0.refl _ | apply Drawn0.step)⟩
     ·rw [if_neg c4] at H
      exact absurd H (by simp)
   ·rw [if_neg c2] at H
    have c2b0 : decide (x4_1 < (a0.size : Int)) = false := decide_eq_false c2
    clear c2
    obtain rfl := Option.some.inj H
    go_wp2
    go_ret
    exact ⟨by first | rfl | (simp [*]; done), by repeat (first | exact Drawn0.refl _ | apply Drawn0.step)⟩
def levyref4_common.l0 : Nat → Int → Int → Option (Int)
 | 0, _, _ => none
 | k + 1, x0, x1 => if x1 > 0 then (if x1 = 0 then (none) else (levyref4_common.l0 k x1 (Int.tmod x0 x1))) else (some x0)
def levyref4_common.f (k : Nat) (a0 : Int) (a1 : Int) : Option (Int) := levyref4_common.l0 k a0 a1
set_option maxHeartbeats 8000000 in
set_option maxRecDepth 100000 in
theorem levyref4_common.calls (k : Nat) (a0 : Int) (a1 : Int) (r : Int) (w : World) (h : levyref4_common.f k a0 a1 = some r) :
  Calls Tryz.prog 220 #[.int .i64 a0, .int .i64 a1] w fun e w' => e = .returned (.int .i64 r) ∧ Drawn0 w w' := by
 have H : (levyref4_common.l0 k a0 a1) = some r := h
 clear h
 have H' := Aside0.mk H
 clear H
 go_enter Tryz.func220, Tryz.ntmps220
 go_wp2
 go_loopg [0, 1] k (fun kq v0 v1 w' => ∃ (x0_1 : Int) (x1_1 : Int), v0 = .int .i64 x0_1 ∧ v1 = .int .i64 x1_1 ∧ Aside0 (levyref4_common.l0 kq x0_1 x1_1 = some r) ∧ Aside0 (kq ≤ k) ∧ Drawn0 w w')
 case atStart => exact ⟨(a0), (a1), (by first | rfl | (simp [*]; done)), (by first | rfl | (simp [*]; done)), H', ⟨Nat.le_refl _⟩, by repeat (first | exact Drawn0.refl _ | apply Drawn0.step)⟩
 case round =>
  clear H'
  try clear c2
  try clear p2
  obtain ⟨x0_1, x1_1, rfl, rfl, HA, HK1, ⟨m1, rfl⟩⟩ := hrel
  cases gk with
  | zero => exact absurd HA.out (by simp [levyref4_common.l0])
  | succ k1 =>
   have H := HA.out
   clear HA
   simp only [levyref4_common.l0] at H
   by_cases c3 : x1_1 > 0
   ·rw [if_pos c3] at H
    have c3b0 : decide (0 < x1_1) = true := decide_eq_true c3
    clear c3
    by_cases c4 : x1_1 = 0
    ·rw [if_pos c4] at H
     exact absurd H (by simp)
    ·rw [if_neg c4] at H
     have c4b0 : (x1_1 == 0) = false := beq_eq_false_iff_ne.mpr c4
     have c4b1 : (x1_1 != 0) = true := bne_iff_ne.mpr c4
     have H' := Aside0.mk H
     clear H
     go_wp2
     go_roundg k1
     case measure => have := HK1.out; omega
     case rel => exact ⟨(x1_1), (Int.tmod x0_1 x1_1), (by first | rfl | (simp [*]; done)), (by first | rfl | (simp [*]; done)), H', ⟨by have := HK1.out; omega⟩, by repeat (first | exact Drawn0.refl _ | apply Drawn0.step)⟩
   ·rw [if_neg c3] at H
    have c3b0 : decide (0 < x1_1) = false := decide_eq_false c3
    clear c3
    obtain rfl := Option.some.inj H
    go_wp2
    go_ret
    exact ⟨by first | rfl | (simp [*]; done), by repeat (first | exact Drawn0.refl _ | apply Drawn0.step)⟩
end Go.Proofs.YtjlclkenfmbahaaGreatDoor.PA
end
