/- The Go functions of this seat that the laws of part A come to, each as a plain Lean function ('f', its loops 'l0' ..) with a proof that the call comes to its answer. Conditions: where a function comes to a package-level table, the world holds that table ('Tabs'). Written by a program of this session (a changed copy of the print). -/
import Derived.Test.YtjlclkenfmbahaaGreatDoorVPAx0
import Derived.Test.YtjlclkenfmbahaaGreatDoorVScLib
namespace Go.Proofs.YtjlclkenfmbahaaGreatDoor.PA
open Go.RowKit Go.Proofs.YtjlclkenfmbahaaGreatDoorW.PrintWords Go.Proofs.YtjlclkenfmbahaaGreatDoorW.PrintLast Go.Proofs.YtjlclkenfmbahaaGreatDoorW.PrintMore
attribute [local go_sem] max2_int min2_int max_two min_two max_three min_three max_four min_four
set_option linter.unusedVariables false
set_option linter.unusedSimpArgs false
def words_digits.l0 : Nat → ByteArray → Int → Int → Int → Option (Int × Bool)
 | 0, _, _, _, _ => none
 | k + 1, x0, x4, x12, x13 => if x13 < x12 then (if 0 ≤ x13 then (if x13 < (x0.size : Int) then (words_digits.l0 k x0 (wrap64 ((wrap64 (10 * x4)) + (((bt x0 x13) - 48) % 256))) x12 (wrap64 (x13 + 1))) else (none)) else (none)) else (some (x4, true))
def words_digits.f (k : Nat) (a0 : ByteArray) : Option (Int × Bool) := (strings_TrimLeft.f a0 (⟨#[48]⟩ : ByteArray)).bind fun t363 => (if (t363.size : Int) > 18 then (some (0, false)) else (words_digits.l0 k t363 0 (t363.size : Int) 0))
set_option maxHeartbeats 8000000 in
set_option maxRecDepth 100000 in
theorem words_digits.calls (k : Nat) (a0 : ByteArray) (r1 : Int) (r2 : Bool) (w : World) (h : words_digits.f k a0 = some (r1, r2)) :
  Calls Tryz.prog 222 #[.string a0] w fun e w' => e = .returned (.tuple #[.int .i64 r1, .bool r2]) ∧ Below w.heap.size w w' := by
 have HB := Aside0.mk (Below.refl w.heap.size w)
 have H : ((strings_TrimLeft.f a0 (⟨#[48]⟩ : ByteArray)).bind fun t363 => (if (t363.size : Int) > 18 then (some (0, false)) else (words_digits.l0 k t363 0 (t363.size : Int) 0))) = some (r1, r2) := h
 clear h
 replace H := Option.bind_eq_some_iff.mp H
 obtain ⟨t363, A20, H⟩ := H
 replace H : (if (t363.size : Int) > 18 then (some (0, false)) else (words_digits.l0 k t363 0 (t363.size : Int) 0)) = some (r1, r2) := H
 have A2 := Aside0.mk A20
 clear A20
 by_cases c3 : (t363.size : Int) > 18
 ·rw [if_pos c3] at H
  have c3b0 : decide (18 < (t363.size : Int)) = true := decide_eq_true c3
  have c3b1 : decide (18 < t363.size) = true := decide_eq_true (by omega)
  clear c3
  simp only [Option.some.injEq, Prod.mk.injEq] at H
  obtain ⟨rfl, rfl⟩ := H
  go_enter Tryz.func222, Tryz.ntmps222
  go_wp2_with (first | ((with_reducible refine gate_callee (f := 231) rfl ?_); refine goesL_ (some 7) rfl rfl Tryz.func231 (by kernel_rfl) rfl #[.string a0, .string (⟨#[48]⟩ : ByteArray)] rfl (by (try simp only [List.map_toArray, List.map_cons, List.map_nil]); first | done | rfl | (simp only [List.length_drop, List.length_take]; rfl)) ?_; (with_reducible refine (strings_TrimLeft.calls a0 (⟨#[48]⟩ : ByteArray) t363 _ A2.out).mono ?_); rintro e w4 ⟨rfl, hb⟩; refine ⟨_, rfl, ?_⟩; have n0_ := Aside0.mk (below_step (by repeat (first | (with_reducible first | exact HB.out | apply below_alloc | apply pw_below_drewN | apply below_drew1) | exact HB.out)) hb); clear HB; have HB := n0_; clear n0_; (try clear hb); (try clear hb2); (try clear hk); (try clear hi)))
  go_ret2
  exact ⟨by first | rfl | (simp [errW_none, errW_some] <;> rfl) | (simp [*, errW_none, errW_some] <;> rfl), by repeat (first | (with_reducible first | exact HB.out | apply below_alloc | apply pw_below_drewN | apply below_drew1) | exact HB.out)⟩
 ·rw [if_neg c3] at H
  have c3b0 : decide (18 < (t363.size : Int)) = false := decide_eq_false c3
  have c3b1 : decide (18 < t363.size) = false := decide_eq_false (by omega)
  clear c3
  have H' := Aside0.mk H
  clear H
  go_enter Tryz.func222, Tryz.ntmps222
  go_wp2_with (first | ((with_reducible refine gate_callee (f := 231) rfl ?_); refine goesL_ (some 7) rfl rfl Tryz.func231 (by kernel_rfl) rfl #[.string a0, .string (⟨#[48]⟩ : ByteArray)] rfl (by (try simp only [List.map_toArray, List.map_cons, List.map_nil]); first | done | rfl | (simp only [List.length_drop, List.length_take]; rfl)) ?_; (with_reducible refine (strings_TrimLeft.calls a0 (⟨#[48]⟩ : ByteArray) t363 _ A2.out).mono ?_); rintro e w5 ⟨rfl, hb⟩; refine ⟨_, rfl, ?_⟩; have n0_ := Aside0.mk (below_step (by repeat (first | (with_reducible first | exact HB.out | apply below_alloc | apply pw_below_drewN | apply below_drew1) | exact HB.out)) hb); clear HB; have HB := n0_; clear n0_; (try clear hb); (try clear hb2); (try clear hk); (try clear hi)))
  go_loopg [4, 13] k (fun kq v4 v13 w' => ∃ (x4_1 : Int) (x13_1 : Int), v4 = .int .i64 x4_1 ∧ v13 = .int .i64 x13_1 ∧ Aside0 (words_digits.l0 kq t363 x4_1 (t363.size : Int) x13_1 = some (r1, r2)) ∧ Aside0 (kq ≤ k) ∧ Aside0 (Below w.heap.size w w'))
  case atStart => exact ⟨(0), (0), (by first | rfl | (simp; done) | (simp [*]; done)), (by first | rfl | (simp; done) | (simp [*]; done)), H', ⟨Nat.le_refl _⟩, ⟨by repeat (first | (with_reducible first | exact HB.out | apply below_alloc | apply pw_below_drewN | apply below_drew1) | exact HB.out)⟩⟩
  case round =>
   clear H'
   try clear c2
   try clear p2
   try clear c3
   try clear c3b0
   try clear c3b1
   obtain ⟨x4_1, x13_1, rfl, rfl, HA, HK1, HB⟩ := hrel
   cases gk with
   | zero => exact absurd HA.out (by simp [words_digits.l0])
   | succ k1 =>
    have H := HA.out
    clear HA
    simp only [words_digits.l0] at H
    by_cases c6 : x13_1 < (t363.size : Int)
    ·rw [if_pos c6] at H
     have c6b0 : decide (x13_1 < (t363.size : Int)) = true := decide_eq_true c6
     clear c6
     by_cases c7 : 0 ≤ x13_1
     ·rw [if_pos c7] at H
      have c7b0 : decide (0 ≤ x13_1) = true := decide_eq_true c7
      clear c7
      by_cases c8 : x13_1 < (t363.size : Int)
      ·rw [if_pos c8] at H
       have c8b0 : decide (x13_1 < (t363.size : Int)) = true := decide_eq_true c8
       clear c8
       have H' := Aside0.mk H
       clear H
       have p9 : 0 ≤ (x13_1 : Int) := of_decide_eq_true (by first | (with_reducible assumption) | assumption)
       have q9 : x13_1 < (t363.size : Int) := of_decide_eq_true (by first | (with_reducible assumption) | assumption)
       have hx9 := bt_at t363 x13_1
       replace p9 := eq_true p9
       replace q9 := eq_true q9
       go_wp2
       go_roundg k1
       case measure => have := HK1.out; omega
       case rel => exact ⟨(wrap64 ((wrap64 (10 * x4_1)) + (((bt t363 x13_1) - 48) % 256))), (wrap64 (x13_1 + 1)), (by first | rfl | (simp; done) | (simp [*]; done)), (by first | rfl | (simp; done) | (simp [*]; done)), H', ⟨by have := HK1.out; omega⟩, ⟨by repeat (first | (with_reducible first | exact HB.out | apply below_alloc | apply pw_below_drewN | apply below_drew1) | exact HB.out)⟩⟩
      ·rw [if_neg c8] at H
       exact absurd H (by simp)
     ·rw [if_neg c7] at H
      exact absurd H (by simp)
    ·rw [if_neg c6] at H
     have c6b0 : decide (x13_1 < (t363.size : Int)) = false := decide_eq_false c6
     clear c6
     simp only [Option.some.injEq, Prod.mk.injEq] at H
     obtain ⟨rfl, rfl⟩ := H
     go_wp2
     go_ret2
     exact ⟨by first | rfl | (simp [errW_none, errW_some] <;> rfl) | (simp [*, errW_none, errW_some] <;> rfl), by repeat (first | (with_reducible first | exact HB.out | apply below_alloc | apply pw_below_drewN | apply below_drew1) | exact HB.out)⟩
end Go.Proofs.YtjlclkenfmbahaaGreatDoor.PA
