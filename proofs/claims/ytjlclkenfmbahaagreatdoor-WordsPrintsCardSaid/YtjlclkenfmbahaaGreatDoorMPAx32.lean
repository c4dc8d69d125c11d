/- The Go functions of this seat that the laws of part A come to, each as a plain Lean function ('f', its loops 'l0' ..) with a proof that the call comes to its answer. Conditions: where a function comes to a package-level table, the world holds that table ('Tabs'). Written by a program of this session (a changed copy of the print). -/
import Derived.Test.YtjlclkenfmbahaaGreatDoorMPAx0
import Derived.Test.YtjlclkenfmbahaaGreatDoorMRefWritten
namespace Go.Proofs.YtjlclkenfmbahaaGreatDoor.PA
open Go.RowKit Go.Proofs.YtjlclkenfmbahaaGreatDoorW.PrintWords Go.Proofs.YtjlclkenfmbahaaGreatDoorW.PrintLast Go.Proofs.YtjlclkenfmbahaaGreatDoorW.PrintMore
attribute [local go_sem] max2_int min2_int max_two min_two max_three min_three max_four min_four
set_option linter.unusedVariables false
set_option linter.unusedSimpArgs false
def levyref4_Print.l0 : Nat → List (S57) → ByteArray → Bool → Int → Option (ByteArray × Int)
 | 0, _, _, _, _ => none
 | k + 1, x0, x4, x5, x6 => if x6 < (x0.length : Int) then (if 0 ≤ x6 then (if ((rd_T57 x0 x6).f0) = 8 then (if x5 = true then (some ((⟨#[]⟩ : ByteArray), 45)) else (if ((rd_T57 x0 x6).f2).toList = ([] : List UInt8) then (if ((rd_T57 x0 x6).f3) = 0 then (if ((rd_T57 x0 x6).f4) = 0 then (if x4.size + 1 ≤ 9223372036854775807 then (levyref4_Print.l0 k x0 (x4 ++ (⟨#[10]⟩ : ByteArray)) true (wrap64 (x6 + 1))) else (none)) else (some ((⟨#[]⟩ : ByteArray), 45))) else (some ((⟨#[]⟩ : ByteArray), 45))) else (some ((⟨#[]⟩ : ByteArray), 45)))) else ((levyref4_written.f k ((rd_T57 x0 x6).f0) ((rd_T57 x0 x6).f1) ((rd_T57 x0 x6).f2) ((rd_T57 x0 x6).f3) ((rd_T57 x0 x6).f4)).bind fun bt246 => (if bt246.2 = true then (if x5 = true then (if x4.size + bt246.1.size ≤ 9223372036854775807 then (if ((x4 ++ bt246.1).size : Int) > 8000 then (some ((⟨#[]⟩ : ByteArray), 45)) else (levyref4_Print.l0 k x0 (x4 ++ bt246.1) false (wrap64 (x6 + 1)))) else (none)) else (if x4.size + 1 ≤ 9223372036854775807 then (if (x4 ++ (⟨#[32]⟩ : ByteArray)).size + bt246.1.size ≤ 9223372036854775807 then (if (((x4 ++ (⟨#[32]⟩ : ByteArray)) ++ bt246.1).size : Int) > 8000 then (some ((⟨#[]⟩ : ByteArray), 45)) else (levyref4_Print.l0 k x0 ((x4 ++ (⟨#[32]⟩ : ByteArray)) ++ bt246.1) false (wrap64 (x6 + 1)))) else (none)) else (none))) else (some ((⟨#[]⟩ : ByteArray), 45))))) else (none)) else (if x5 = true then (if (x4.size : Int) > 8000 then (some ((⟨#[]⟩ : ByteArray), 45)) else (some (x4, 0))) else (some ((⟨#[]⟩ : ByteArray), 45)))
def levyref4_Print.f (k : Nat) (l0 : List (S57)) : Option (ByteArray × Int) := if (l0.length : Int) > 16000 then (some ((⟨#[]⟩ : ByteArray), 45)) else (levyref4_Print.l0 k l0 (⟨#[]⟩ : ByteArray) true 0)
set_option maxHeartbeats 8000000 in
set_option maxRecDepth 100000 in
theorem levyref4_Print.calls (k : Nat) (A0 : Option Addr) (c0 : Nat) (l0 : List (S57)) (r1 : ByteArray) (r2 : Int) (w : World) (hT : Tabs w) (hr0 : Kd.C k57 w A0 l0.length l0) (hc0 : l0.length ≤ c0) (h : levyref4_Print.f k l0 = some (r1, r2)) :
  Calls Tryz.prog 5 #[.slice A0 l0.length c0] w fun e w' => e = .returned (.tuple #[.string r1, .int .i64 r2]) ∧ Below w.heap.size w w' := by
 have hu57 := Tryz.underlying57
 have HR0 := Aside0.mk hr0
 have HC0 := Aside0.mk hc0
 clear hr0 hc0
 have HB := Aside0.mk (Below.refl w.heap.size w)
 have HT := Aside0.mk hT
 clear hT
 have H : (if (l0.length : Int) > 16000 then (some ((⟨#[]⟩ : ByteArray), 45)) else (levyref4_Print.l0 k l0 (⟨#[]⟩ : ByteArray) true 0)) = some (r1, r2) := h
 clear h
 by_cases c2 : (l0.length : Int) > 16000
 ·rw [if_pos c2] at H
  have c2b0 : decide (16000 < (l0.length : Int)) = true := decide_eq_true c2
  have c2b1 : decide (16000 < l0.length) = true := decide_eq_true (by omega)
  clear c2
  simp only [Option.some.injEq, Prod.mk.injEq] at H
  obtain ⟨rfl, rfl⟩ := H
  go_enter Tryz.func5, Tryz.ntmps5
  go_wp2
  go_ret2
  exact ⟨by first | rfl | (simp [errW_none, errW_some] <;> rfl) | (simp [*, errW_none, errW_some] <;> rfl), by repeat (first | (with_reducible first | exact HB.out | apply below_alloc | apply pw_below_drewN | apply below_drew1) | exact HB.out)⟩
 ·rw [if_neg c2] at H
  have c2b0 : decide (16000 < (l0.length : Int)) = false := decide_eq_false c2
  have c2b1 : decide (16000 < l0.length) = false := decide_eq_false (by omega)
  clear c2
  have H' := Aside0.mk H
  clear H
  go_enter Tryz.func5, Tryz.ntmps5
  go_wp2
  go_loopg [4, 5, 6] k (fun kq v4 v5 v6 w' => ∃ (x4_1 : ByteArray) (x5_1 : Bool) (x6_1 : Int), v4 = .string x4_1 ∧ v5 = .bool x5_1 ∧ v6 = .int .i64 x6_1 ∧ Aside0 (levyref4_Print.l0 kq l0 x4_1 x5_1 x6_1 = some (r1, r2)) ∧ Aside0 (kq ≤ k) ∧ Aside0 (Below w.heap.size w w'))
  case atStart => exact ⟨((⟨#[]⟩ : ByteArray)), (true), (0), (by first | rfl | (simp [*]; done)), (by first | rfl | (simp [*]; done)), (by first | rfl | (simp [*]; done)), H', ⟨Nat.le_refl _⟩, ⟨by repeat (first | (with_reducible first | exact HB.out | apply below_alloc | apply pw_below_drewN | apply below_drew1) | exact HB.out)⟩⟩
  case round =>
   clear H'
   try clear c2
   try clear c2b0
   try clear c2b1
   try clear p2
   obtain ⟨x4_1, x5_1, x6_1, rfl, rfl, rfl, HA, HK1, HB⟩ := hrel
   cases gk with
   | zero => exact absurd HA.out (by simp [levyref4_Print.l0])
   | succ k1 =>
    have H := HA.out
    clear HA
    simp only [levyref4_Print.l0] at H
    by_cases c3 : x6_1 < (l0.length : Int)
    ·rw [if_pos c3] at H
     have c3b0 : decide (x6_1 < (l0.length : Int)) = true := decide_eq_true c3
     clear c3
     by_cases c4 : 0 ≤ x6_1
     ·rw [if_pos c4] at H
      have c4b0 : decide (0 ≤ x6_1) = true := decide_eq_true c4
      clear c4
      by_cases c5 : ((rd_T57 l0 x6_1).f0) = 8
      ·rw [if_pos c5] at H
       have c5b0 : (((rd_T57 l0 x6_1).f0) == 8) = true := beq_iff_eq.mpr c5
       have c5b1 : (((rd_T57 l0 x6_1).f0) != 8) = false := bne_eq_false_iff_eq.mpr c5
       clear c5
       by_cases c6 : x5_1 = true
       ·subst c6
        have H1 : (some ((⟨#[]⟩ : ByteArray), 45)) = some (r1, r2) := by rw [if_pos rfl] at H; exact H
        clear H
        have H := H1
        clear H1
        simp only [Option.some.injEq, Prod.mk.injEq] at H
        obtain ⟨rfl, rfl⟩ := H
        have p241 : 0 ≤ (x6_1 : Int) := of_decide_eq_true (by assumption)
        have q241 : x6_1 < (l0.length : Int) := of_decide_eq_true (by assumption)
        obtain ⟨ad241, e241, hx241_0, hx241_1, hx241_2, hx241_3, hx241_4⟩ := at_T57 HR0.out x6_1 p241 q241
        cases e241
        replace hx241_0 := (HB.out.cell (World.block_lt_of_cell? w _ hx241_0)).trans hx241_0
        replace hx241_1 := (HB.out.cell (World.block_lt_of_cell? w _ hx241_1)).trans hx241_1
        replace hx241_2 := (HB.out.cell (World.block_lt_of_cell? w _ hx241_2)).trans hx241_2
        replace hx241_3 := (HB.out.cell (World.block_lt_of_cell? w _ hx241_3)).trans hx241_3
        replace hx241_4 := (HB.out.cell (World.block_lt_of_cell? w _ hx241_4)).trans hx241_4
        replace p241 := eq_true p241
        replace q241 := eq_true q241
        go_wp2
        go_ret2
        exact ⟨by first | rfl | (simp [errW_none, errW_some] <;> rfl) | (simp [*, errW_none, errW_some] <;> rfl), by repeat (first | (with_reducible first | exact HB.out | apply below_alloc | apply pw_below_drewN | apply below_drew1) | exact HB.out)⟩
       ·replace c6 := Bool.eq_false_iff.mpr c6
        subst c6
        have H1 : (if ((rd_T57 l0 x6_1).f2).toList = ([] : List UInt8) then (if ((rd_T57 l0 x6_1).f3) = 0 then (if ((rd_T57 l0 x6_1).f4) = 0 then (if x4_1.size + 1 ≤ 9223372036854775807 then (levyref4_Print.l0 k1 l0 (x4_1 ++ (⟨#[10]⟩ : ByteArray)) true (wrap64 (x6_1 + 1))) else (none)) else (some ((⟨#[]⟩ : ByteArray), 45))) else (some ((⟨#[]⟩ : ByteArray), 45))) else (some ((⟨#[]⟩ : ByteArray), 45))) = some (r1, r2) := by rw [if_neg (show ¬ (false = true) by decide)] at H; exact H
        clear H
        have H := H1
        clear H1
        by_cases c7 : ((rd_T57 l0 x6_1).f2).toList = ([] : List UInt8)
        ·rw [if_pos c7] at H
         have c7b0 : (((rd_T57 l0 x6_1).f2).toList == ([] : List UInt8)) = true := beq_iff_eq.mpr c7
         have c7b1 : (((rd_T57 l0 x6_1).f2).toList != ([] : List UInt8)) = false := bne_eq_false_iff_eq.mpr c7
         clear c7
         by_cases c8 : ((rd_T57 l0 x6_1).f3) = 0
         ·rw [if_pos c8] at H
          have c8b0 : (((rd_T57 l0 x6_1).f3) == 0) = true := beq_iff_eq.mpr c8
          have c8b1 : (((rd_T57 l0 x6_1).f3) != 0) = false := bne_eq_false_iff_eq.mpr c8
          clear c8
          by_cases c9 : ((rd_T57 l0 x6_1).f4) = 0
          ·rw [if_pos c9] at H
           have c9b0 : (((rd_T57 l0 x6_1).f4) == 0) = true := beq_iff_eq.mpr c9
           have c9b1 : (((rd_T57 l0 x6_1).f4) != 0) = false := bne_eq_false_iff_eq.mpr c9
           clear c9
           by_cases c10 : x4_1.size + 1 ≤ 9223372036854775807
           ·rw [if_pos c10] at H
            have c10b0 := eq_true c10
            have c10b1 : decide (x4_1.size + 1 ≤ 9223372036854775807) = true := decide_eq_true c10
            try have c10b2 : (9223372036854775807 < x4_1.size + 1) = False := eq_false (Nat.not_lt.2 c10)
            have H' := Aside0.mk H
            clear H
            have p241 : 0 ≤ (x6_1 : Int) := of_decide_eq_true (by assumption)
            have q241 : x6_1 < (l0.length : Int) := of_decide_eq_true (by assumption)
            obtain ⟨ad241, e241, hx241_0, hx241_1, hx241_2, hx241_3, hx241_4⟩ := at_T57 HR0.out x6_1 p241 q241
            cases e241
            replace hx241_0 := (HB.out.cell (World.block_lt_of_cell? w _ hx241_0)).trans hx241_0
            replace hx241_1 := (HB.out.cell (World.block_lt_of_cell? w _ hx241_1)).trans hx241_1
            replace hx241_2 := (HB.out.cell (World.block_lt_of_cell? w _ hx241_2)).trans hx241_2
            replace hx241_3 := (HB.out.cell (World.block_lt_of_cell? w _ hx241_3)).trans hx241_3
            replace hx241_4 := (HB.out.cell (World.block_lt_of_cell? w _ hx241_4)).trans hx241_4
            replace p241 := eq_true p241
            replace q241 := eq_true q241
            have p242 : 0 ≤ (x6_1 : Int) := of_decide_eq_true (by assumption)
            have q242 : x6_1 < (l0.length : Int) := of_decide_eq_true (by assumption)
            obtain ⟨ad242, e242, hx242_0, hx242_1, hx242_2, hx242_3, hx242_4⟩ := at_T57 HR0.out x6_1 p242 q242
            obtain rfl : ad241 = ad242 := (by injection e242)
            replace hx242_0 := (HB.out.cell (World.block_lt_of_cell? w _ hx242_0)).trans hx242_0
            replace hx242_1 := (HB.out.cell (World.block_lt_of_cell? w _ hx242_1)).trans hx242_1
            replace hx242_2 := (HB.out.cell (World.block_lt_of_cell? w _ hx242_2)).trans hx242_2
            replace hx242_3 := (HB.out.cell (World.block_lt_of_cell? w _ hx242_3)).trans hx242_3
            replace hx242_4 := (HB.out.cell (World.block_lt_of_cell? w _ hx242_4)).trans hx242_4
            replace p242 := eq_true p242
            replace q242 := eq_true q242
            have p243 : 0 ≤ (x6_1 : Int) := of_decide_eq_true (by assumption)
            have q243 : x6_1 < (l0.length : Int) := of_decide_eq_true (by assumption)
            obtain ⟨ad243, e243, hx243_0, hx243_1, hx243_2, hx243_3, hx243_4⟩ := at_T57 HR0.out x6_1 p243 q243
            obtain rfl : ad241 = ad243 := (by injection e243)
            replace hx243_0 := (HB.out.cell (World.block_lt_of_cell? w _ hx243_0)).trans hx243_0
            replace hx243_1 := (HB.out.cell (World.block_lt_of_cell? w _ hx243_1)).trans hx243_1
            replace hx243_2 := (HB.out.cell (World.block_lt_of_cell? w _ hx243_2)).trans hx243_2
            replace hx243_3 := (HB.out.cell (World.block_lt_of_cell? w _ hx243_3)).trans hx243_3
            replace hx243_4 := (HB.out.cell (World.block_lt_of_cell? w _ hx243_4)).trans hx243_4
            replace p243 := eq_true p243
            replace q243 := eq_true q243
            have p244 : 0 ≤ (x6_1 : Int) := of_decide_eq_true (by assumption)
            have q244 : x6_1 < (l0.length : Int) := of_decide_eq_true (by assumption)
            obtain ⟨ad244, e244, hx244_0, hx244_1, hx244_2, hx244_3, hx244_4⟩ := at_T57 HR0.out x6_1 p244 q244
            obtain rfl : ad241 = ad244 := (by injection e244)
            replace hx244_0 := (HB.out.cell (World.block_lt_of_cell? w _ hx244_0)).trans hx244_0
            replace hx244_1 := (HB.out.cell (World.block_lt_of_cell? w _ hx244_1)).trans hx244_1
            replace hx244_2 := (HB.out.cell (World.block_lt_of_cell? w _ hx244_2)).trans hx244_2
            replace hx244_3 := (HB.out.cell (World.block_lt_of_cell? w _ hx244_3)).trans hx244_3
            replace hx244_4 := (HB.out.cell (World.block_lt_of_cell? w _ hx244_4)).trans hx244_4
            replace p244 := eq_true p244
            replace q244 := eq_true q244
            go_wp2
            go_roundg k1
            case measure => have := HK1.out; omega
            case rel => exact ⟨(x4_1 ++ (⟨#[10]⟩ : ByteArray)), (true), (wrap64 (x6_1 + 1)), (by first | rfl | (simp [*]; done)), (by first | rfl | (simp [*]; done)), (by first | rfl | (simp [*]; done)), H', ⟨by have := HK1.out; omega⟩, ⟨by repeat (first | (with_reducible first | exact HB.out | apply below_alloc | apply pw_below_drewN | apply below_drew1) | exact HB.out)⟩⟩
           ·rw [if_neg c10] at H
            exact absurd H (by simp)
          ·rw [if_neg c9] at H
           have c9b0 : (((rd_T57 l0 x6_1).f4) == 0) = false := beq_eq_false_iff_ne.mpr c9
           have c9b1 : (((rd_T57 l0 x6_1).f4) != 0) = true := bne_iff_ne.mpr c9
           simp only [Option.some.injEq, Prod.mk.injEq] at H
           obtain ⟨rfl, rfl⟩ := H
           have p241 : 0 ≤ (x6_1 : Int) := of_decide_eq_true (by assumption)
           have q241 : x6_1 < (l0.length : Int) := of_decide_eq_true (by assumption)
           obtain ⟨ad241, e241, hx241_0, hx241_1, hx241_2, hx241_3, hx241_4⟩ := at_T57 HR0.out x6_1 p241 q241
           cases e241
           replace hx241_0 := (HB.out.cell (World.block_lt_of_cell? w _ hx241_0)).trans hx241_0
           replace hx241_1 := (HB.out.cell (World.block_lt_of_cell? w _ hx241_1)).trans hx241_1
           replace hx241_2 := (HB.out.cell (World.block_lt_of_cell? w _ hx241_2)).trans hx241_2
           replace hx241_3 := (HB.out.cell (World.block_lt_of_cell? w _ hx241_3)).trans hx241_3
           replace hx241_4 := (HB.out.cell (World.block_lt_of_cell? w _ hx241_4)).trans hx241_4
           replace p241 := eq_true p241
           replace q241 := eq_true q241
           have p242 : 0 ≤ (x6_1 : Int) := of_decide_eq_true (by assumption)
           have q242 : x6_1 < (l0.length : Int) := of_decide_eq_true (by assumption)
           obtain ⟨ad242, e242, hx242_0, hx242_1, hx242_2, hx242_3, hx242_4⟩ := at_T57 HR0.out x6_1 p242 q242
           obtain rfl : ad241 = ad242 := (by injection e242)
           replace hx242_0 := (HB.out.cell (World.block_lt_of_cell? w _ hx242_0)).trans hx242_0
           replace hx242_1 := (HB.out.cell (World.block_lt_of_cell? w _ hx242_1)).trans hx242_1
           replace hx242_2 := (HB.out.cell (World.block_lt_of_cell? w _ hx242_2)).trans hx242_2
           replace hx242_3 := (HB.out.cell (World.block_lt_of_cell? w _ hx242_3)).trans hx242_3
           replace hx242_4 := (HB.out.cell (World.block_lt_of_cell? w _ hx242_4)).trans hx242_4
           replace p242 := eq_true p242
           replace q242 := eq_true q242
           have p243 : 0 ≤ (x6_1 : Int) := of_decide_eq_true (by assumption)
           have q243 : x6_1 < (l0.length : Int) := of_decide_eq_true (by assumption)
           obtain ⟨ad243, e243, hx243_0, hx243_1, hx243_2, hx243_3, hx243_4⟩ := at_T57 HR0.out x6_1 p243 q243
           obtain rfl : ad241 = ad243 := (by injection e243)
           replace hx243_0 := (HB.out.cell (World.block_lt_of_cell? w _ hx243_0)).trans hx243_0
           replace hx243_1 := (HB.out.cell (World.block_lt_of_cell? w _ hx243_1)).trans hx243_1
           replace hx243_2 := (HB.out.cell (World.block_lt_of_cell? w _ hx243_2)).trans hx243_2
           replace hx243_3 := (HB.out.cell (World.block_lt_of_cell? w _ hx243_3)).trans hx243_3
           replace hx243_4 := (HB.out.cell (World.block_lt_of_cell? w _ hx243_4)).trans hx243_4
           replace p243 := eq_true p243
           replace q243 := eq_true q243
           have p244 : 0 ≤ (x6_1 : Int) := of_decide_eq_true (by assumption)
           have q244 : x6_1 < (l0.length : Int) := of_decide_eq_true (by assumption)
           obtain ⟨ad244, e244, hx244_0, hx244_1, hx244_2, hx244_3, hx244_4⟩ := at_T57 HR0.out x6_1 p244 q244
           obtain rfl : ad241 = ad244 := (by injection e244)
           replace hx244_0 := (HB.out.cell (World.block_lt_of_cell? w _ hx244_0)).trans hx244_0
           replace hx244_1 := (HB.out.cell (World.block_lt_of_cell? w _ hx244_1)).trans hx244_1
           replace hx244_2 := (HB.out.cell (World.block_lt_of_cell? w _ hx244_2)).trans hx244_2
           replace hx244_3 := (HB.out.cell (World.block_lt_of_cell? w _ hx244_3)).trans hx244_3
           replace hx244_4 := (HB.out.cell (World.block_lt_of_cell? w _ hx244_4)).trans hx244_4
           replace p244 := eq_true p244
           replace q244 := eq_true q244
           go_wp2
           go_ret2
           exact ⟨by first | rfl | (simp [errW_none, errW_some] <;> rfl) | (simp [*, errW_none, errW_some] <;> rfl), by repeat (first | (with_reducible first | exact HB.out | apply below_alloc | apply pw_below_drewN | apply below_drew1) | exact HB.out)⟩
         ·rw [if_neg c8] at H
          have c8b0 : (((rd_T57 l0 x6_1).f3) == 0) = false := beq_eq_false_iff_ne.mpr c8
          have c8b1 : (((rd_T57 l0 x6_1).f3) != 0) = true := bne_iff_ne.mpr c8
          simp only [Option.some.injEq, Prod.mk.injEq] at H
          obtain ⟨rfl, rfl⟩ := H
          have p241 : 0 ≤ (x6_1 : Int) := of_decide_eq_true (by assumption)
          have q241 : x6_1 < (l0.length : Int) := of_decide_eq_true (by assumption)
          obtain ⟨ad241, e241, hx241_0, hx241_1, hx241_2, hx241_3, hx241_4⟩ := at_T57 HR0.out x6_1 p241 q241
          cases e241
          replace hx241_0 := (HB.out.cell (World.block_lt_of_cell? w _ hx241_0)).trans hx241_0
          replace hx241_1 := (HB.out.cell (World.block_lt_of_cell? w _ hx241_1)).trans hx241_1
          replace hx241_2 := (HB.out.cell (World.block_lt_of_cell? w _ hx241_2)).trans hx241_2
          replace hx241_3 := (HB.out.cell (World.block_lt_of_cell? w _ hx241_3)).trans hx241_3
          replace hx241_4 := (HB.out.cell (World.block_lt_of_cell? w _ hx241_4)).trans hx241_4
          replace p241 := eq_true p241
          replace q241 := eq_true q241
          have p242 : 0 ≤ (x6_1 : Int) := of_decide_eq_true (by assumption)
          have q242 : x6_1 < (l0.length : Int) := of_decide_eq_true (by assumption)
          obtain ⟨ad242, e242, hx242_0, hx242_1, hx242_2, hx242_3, hx242_4⟩ := at_T57 HR0.out x6_1 p242 q242
          obtain rfl : ad241 = ad242 := (by injection e242)
          replace hx242_0 := (HB.out.cell (World.block_lt_of_cell? w _ hx242_0)).trans hx242_0
          replace hx242_1 := (HB.out.cell (World.block_lt_of_cell? w _ hx242_1)).trans hx242_1
          replace hx242_2 := (HB.out.cell (World.block_lt_of_cell? w _ hx242_2)).trans hx242_2
          replace hx242_3 := (HB.out.cell (World.block_lt_of_cell? w _ hx242_3)).trans hx242_3
          replace hx242_4 := (HB.out.cell (World.block_lt_of_cell? w _ hx242_4)).trans hx242_4
          replace p242 := eq_true p242
          replace q242 := eq_true q242
          have p243 : 0 ≤ (x6_1 : Int) := of_decide_eq_true (by assumption)
          have q243 : x6_1 < (l0.length : Int) := of_decide_eq_true (by assumption)
          obtain ⟨ad243, e243, hx243_0, hx243_1, hx243_2, hx243_3, hx243_4⟩ := at_T57 HR0.out x6_1 p243 q243
          obtain rfl : ad241 = ad243 := (by injection e243)
          replace hx243_0 := (HB.out.cell (World.block_lt_of_cell? w _ hx243_0)).trans hx243_0
          replace hx243_1 := (HB.out.cell (World.block_lt_of_cell? w _ hx243_1)).trans hx243_1
          replace hx243_2 := (HB.out.cell (World.block_lt_of_cell? w _ hx243_2)).trans hx243_2
          replace hx243_3 := (HB.out.cell (World.block_lt_of_cell? w _ hx243_3)).trans hx243_3
          replace hx243_4 := (HB.out.cell (World.block_lt_of_cell? w _ hx243_4)).trans hx243_4
          replace p243 := eq_true p243
          replace q243 := eq_true q243
          go_wp2
          go_ret2
          exact ⟨by first | rfl | (simp [errW_none, errW_some] <;> rfl) | (simp [*, errW_none, errW_some] <;> rfl), by repeat (first | (with_reducible first | exact HB.out | apply below_alloc | apply pw_below_drewN | apply below_drew1) | exact HB.out)⟩
        ·rw [if_neg c7] at H
         have c7b0 : (((rd_T57 l0 x6_1).f2).toList == ([] : List UInt8)) = false := beq_eq_false_iff_ne.mpr c7
         have c7b1 : (((rd_T57 l0 x6_1).f2).toList != ([] : List UInt8)) = true := bne_iff_ne.mpr c7
         simp only [Option.some.injEq, Prod.mk.injEq] at H
         obtain ⟨rfl, rfl⟩ := H
         have p241 : 0 ≤ (x6_1 : Int) := of_decide_eq_true (by assumption)
         have q241 : x6_1 < (l0.length : Int) := of_decide_eq_true (by assumption)
         obtain ⟨ad241, e241, hx241_0, hx241_1, hx241_2, hx241_3, hx241_4⟩ := at_T57 HR0.out x6_1 p241 q241
         cases e241
         replace hx241_0 := (HB.out.cell (World.block_lt_of_cell? w _ hx241_0)).trans hx241_0
         replace hx241_1 := (HB.out.cell (World.block_lt_of_cell? w _ hx241_1)).trans hx241_1
         replace hx241_2 := (HB.out.cell (World.block_lt_of_cell? w _ hx241_2)).trans hx241_2
         replace hx241_3 := (HB.out.cell (World.block_lt_of_cell? w _ hx241_3)).trans hx241_3
         replace hx241_4 := (HB.out.cell (World.block_lt_of_cell? w _ hx241_4)).trans hx241_4
         replace p241 := eq_true p241
         replace q241 := eq_true q241
         have p242 : 0 ≤ (x6_1 : Int) := of_decide_eq_true (by assumption)
         have q242 : x6_1 < (l0.length : Int) := of_decide_eq_true (by assumption)
         obtain ⟨ad242, e242, hx242_0, hx242_1, hx242_2, hx242_3, hx242_4⟩ := at_T57 HR0.out x6_1 p242 q242
         obtain rfl : ad241 = ad242 := (by injection e242)
         replace hx242_0 := (HB.out.cell (World.block_lt_of_cell? w _ hx242_0)).trans hx242_0
         replace hx242_1 := (HB.out.cell (World.block_lt_of_cell? w _ hx242_1)).trans hx242_1
         replace hx242_2 := (HB.out.cell (World.block_lt_of_cell? w _ hx242_2)).trans hx242_2
         replace hx242_3 := (HB.out.cell (World.block_lt_of_cell? w _ hx242_3)).trans hx242_3
         replace hx242_4 := (HB.out.cell (World.block_lt_of_cell? w _ hx242_4)).trans hx242_4
         replace p242 := eq_true p242
         replace q242 := eq_true q242
         go_wp2
         go_ret2
         exact ⟨by first | rfl | (simp [errW_none, errW_some] <;> rfl) | (simp [*, errW_none, errW_some] <;> rfl), by repeat (first | (with_reducible first | exact HB.out | apply below_alloc | apply pw_below_drewN | apply below_drew1) | exact HB.out)⟩
      ·rw [if_neg c5] at H
       have c5b0 : (((rd_T57 l0 x6_1).f0) == 8) = false := beq_eq_false_iff_ne.mpr c5
       have c5b1 : (((rd_T57 l0 x6_1).f0) != 8) = true := bne_iff_ne.mpr c5
       replace H := Option.bind_eq_some_iff.mp H
       obtain ⟨⟨t246, t247⟩, A110, H⟩ := H
       replace H : (if t247 = true then (if x5_1 = true then (if x4_1.size + t246.size ≤ 9223372036854775807 then (if ((x4_1 ++ t246).size : Int) > 8000 then (some ((⟨#[]⟩ : ByteArray), 45)) else (levyref4_Print.l0 k1 l0 (x4_1 ++ t246) false (wrap64 (x6_1 + 1)))) else (none)) else (if x4_1.size + 1 ≤ 9223372036854775807 then (if (x4_1 ++ (⟨#[32]⟩ : ByteArray)).size + t246.size ≤ 9223372036854775807 then (if (((x4_1 ++ (⟨#[32]⟩ : ByteArray)) ++ t246).size : Int) > 8000 then (some ((⟨#[]⟩ : ByteArray), 45)) else (levyref4_Print.l0 k1 l0 ((x4_1 ++ (⟨#[32]⟩ : ByteArray)) ++ t246) false (wrap64 (x6_1 + 1)))) else (none)) else (none))) else (some ((⟨#[]⟩ : ByteArray), 45))) = some (r1, r2) := H
       have A11 := Aside0.mk A110
       clear A110
       by_cases c12 : t247 = true
       ·subst c12
        have H1 : (if x5_1 = true then (if x4_1.size + t246.size ≤ 9223372036854775807 then (if ((x4_1 ++ t246).size : Int) > 8000 then (some ((⟨#[]⟩ : ByteArray), 45)) else (levyref4_Print.l0 k1 l0 (x4_1 ++ t246) false (wrap64 (x6_1 + 1)))) else (none)) else (if x4_1.size + 1 ≤ 9223372036854775807 then (if (x4_1 ++ (⟨#[32]⟩ : ByteArray)).size + t246.size ≤ 9223372036854775807 then (if (((x4_1 ++ (⟨#[32]⟩ : ByteArray)) ++ t246).size : Int) > 8000 then (some ((⟨#[]⟩ : ByteArray), 45)) else (levyref4_Print.l0 k1 l0 ((x4_1 ++ (⟨#[32]⟩ : ByteArray)) ++ t246) false (wrap64 (x6_1 + 1)))) else (none)) else (none))) = some (r1, r2) := by rw [if_pos rfl] at H; exact H
        clear H
        have H := H1
        clear H1
        by_cases c13 : x5_1 = true
        ·subst c13
         have H1 : (if x4_1.size + t246.size ≤ 9223372036854775807 then (if ((x4_1 ++ t246).size : Int) > 8000 then (some ((⟨#[]⟩ : ByteArray), 45)) else (levyref4_Print.l0 k1 l0 (x4_1 ++ t246) false (wrap64 (x6_1 + 1)))) else (none)) = some (r1, r2) := by rw [if_pos rfl] at H; exact H
         clear H
         have H := H1
         clear H1
         by_cases c14 : x4_1.size + t246.size ≤ 9223372036854775807
         ·rw [if_pos c14] at H
          have c14b0 := eq_true c14
          have c14b1 : decide (x4_1.size + t246.size ≤ 9223372036854775807) = true := decide_eq_true c14
          try have c14b2 : (9223372036854775807 < x4_1.size + t246.size) = False := eq_false (Nat.not_lt.2 c14)
          by_cases c15 : ((x4_1 ++ t246).size : Int) > 8000
          ·rw [if_pos c15] at H
           have c15b0 : decide (8000 < ((x4_1 ++ t246).size : Int)) = true := decide_eq_true c15
           have c15b1 : decide (8000 < (x4_1 ++ t246).size) = true := decide_eq_true (by omega)
           have c15b7 : decide ((8000 : Int) < (x4_1.size : Int) + (t246.size : Int)) = true := decide_eq_true (by have h_ := c15; have h1_ : (⟨#[32]⟩ : ByteArray).size = 1 := rfl; simp only [ByteArray.size_append, h1_] at h_; omega)
           clear c15
           simp only [Option.some.injEq, Prod.mk.injEq] at H
           obtain ⟨rfl, rfl⟩ := H
           have p241 : 0 ≤ (x6_1 : Int) := of_decide_eq_true (by assumption)
           have q241 : x6_1 < (l0.length : Int) := of_decide_eq_true (by assumption)
           obtain ⟨ad241, e241, hx241_0, hx241_1, hx241_2, hx241_3, hx241_4⟩ := at_T57 HR0.out x6_1 p241 q241
           cases e241
           replace hx241_0 := (HB.out.cell (World.block_lt_of_cell? w _ hx241_0)).trans hx241_0
           replace hx241_1 := (HB.out.cell (World.block_lt_of_cell? w _ hx241_1)).trans hx241_1
           replace hx241_2 := (HB.out.cell (World.block_lt_of_cell? w _ hx241_2)).trans hx241_2
           replace hx241_3 := (HB.out.cell (World.block_lt_of_cell? w _ hx241_3)).trans hx241_3
           replace hx241_4 := (HB.out.cell (World.block_lt_of_cell? w _ hx241_4)).trans hx241_4
           replace p241 := eq_true p241
           replace q241 := eq_true q241
           have p245 : 0 ≤ (x6_1 : Int) := of_decide_eq_true (by assumption)
           have q245 : x6_1 < (l0.length : Int) := of_decide_eq_true (by assumption)
           obtain ⟨ad245, e245, hx245_0, hx245_1, hx245_2, hx245_3, hx245_4⟩ := at_T57 HR0.out x6_1 p245 q245
           obtain rfl : ad241 = ad245 := (by injection e245)
           replace hx245_0 := (HB.out.cell (World.block_lt_of_cell? w _ hx245_0)).trans hx245_0
           replace hx245_1 := (HB.out.cell (World.block_lt_of_cell? w _ hx245_1)).trans hx245_1
           replace hx245_2 := (HB.out.cell (World.block_lt_of_cell? w _ hx245_2)).trans hx245_2
           replace hx245_3 := (HB.out.cell (World.block_lt_of_cell? w _ hx245_3)).trans hx245_3
           replace hx245_4 := (HB.out.cell (World.block_lt_of_cell? w _ hx245_4)).trans hx245_4
           replace p245 := eq_true p245
           replace q245 := eq_true q245
           go_wp2_with (first | ((with_reducible refine gate_callee (f := 15) rfl ?_); refine goesL_ (some 56) rfl rfl Tryz.func15 (by kernel_rfl) rfl #[.agg #[.int .i64 ((rd_T57 l0 x6_1).f0), .int .i64 ((rd_T57 l0 x6_1).f1), .string ((rd_T57 l0 x6_1).f2), .int .i64 ((rd_T57 l0 x6_1).f3), .int .i64 ((rd_T57 l0 x6_1).f4)]] rfl (by (try simp only [List.map_toArray, List.map_cons, List.map_nil]); first | done | rfl | (simp only [List.length_drop, List.length_take]; rfl)) ?_; (with_reducible refine (levyref4_written.calls k1 ((rd_T57 l0 x6_1).f0) ((rd_T57 l0 x6_1).f1) ((rd_T57 l0 x6_1).f2) ((rd_T57 l0 x6_1).f3) ((rd_T57 l0 x6_1).f4) t246 true _ ?side1 A11.out).mono ?_); (case side1 => first | (with_reducible exact HT.out) | (with_reducible exact HT.out.below HB.out) | (with_reducible refine Tabs.below HT.out ?_; repeat (first | (with_reducible first | exact HB.out | apply below_alloc | apply pw_below_drewN | apply below_drew1) | exact HB.out))); rintro e w16 ⟨rfl, hb⟩; refine ⟨_, rfl, ?_⟩; have n0_ := Aside0.mk (below_step (by repeat (first | (with_reducible first | exact HB.out | apply below_alloc | apply pw_below_drewN | apply below_drew1) | exact HB.out)) hb); clear HB; have HB := n0_; clear n0_; (try clear hb); (try clear hb2); (try clear hk); (try clear hi)))
           go_ret2
           exact ⟨by first | rfl | (simp [errW_none, errW_some] <;> rfl) | (simp [*, errW_none, errW_some] <;> rfl), by repeat (first | (with_reducible first | exact HB.out | apply below_alloc | apply pw_below_drewN | apply below_drew1) | exact HB.out)⟩
          ·rw [if_neg c15] at H
           have c15b0 : decide (8000 < ((x4_1 ++ t246).size : Int)) = false := decide_eq_false c15
           have c15b1 : decide (8000 < (x4_1 ++ t246).size) = false := decide_eq_false (by omega)
           have c15b7 : decide ((8000 : Int) < (x4_1.size : Int) + (t246.size : Int)) = false := decide_eq_false (by have h_ := c15; have h1_ : (⟨#[32]⟩ : ByteArray).size = 1 := rfl; simp only [ByteArray.size_append, h1_] at h_; omega)
           clear c15
           have H' := Aside0.mk H
           clear H
           have p241 : 0 ≤ (x6_1 : Int) := of_decide_eq_true (by assumption)
           have q241 : x6_1 < (l0.length : Int) := of_decide_eq_true (by assumption)
           obtain ⟨ad241, e241, hx241_0, hx241_1, hx241_2, hx241_3, hx241_4⟩ := at_T57 HR0.out x6_1 p241 q241
           cases e241
           replace hx241_0 := (HB.out.cell (World.block_lt_of_cell? w _ hx241_0)).trans hx241_0
           replace hx241_1 := (HB.out.cell (World.block_lt_of_cell? w _ hx241_1)).trans hx241_1
           replace hx241_2 := (HB.out.cell (World.block_lt_of_cell? w _ hx241_2)).trans hx241_2
           replace hx241_3 := (HB.out.cell (World.block_lt_of_cell? w _ hx241_3)).trans hx241_3
           replace hx241_4 := (HB.out.cell (World.block_lt_of_cell? w _ hx241_4)).trans hx241_4
           replace p241 := eq_true p241
           replace q241 := eq_true q241
           have p245 : 0 ≤ (x6_1 : Int) := of_decide_eq_true (by assumption)
           have q245 : x6_1 < (l0.length : Int) := of_decide_eq_true (by assumption)
           obtain ⟨ad245, e245, hx245_0, hx245_1, hx245_2, hx245_3, hx245_4⟩ := at_T57 HR0.out x6_1 p245 q245
           obtain rfl : ad241 = ad245 := (by injection e245)
           replace hx245_0 := (HB.out.cell (World.block_lt_of_cell? w _ hx245_0)).trans hx245_0
           replace hx245_1 := (HB.out.cell (World.block_lt_of_cell? w _ hx245_1)).trans hx245_1
           replace hx245_2 := (HB.out.cell (World.block_lt_of_cell? w _ hx245_2)).trans hx245_2
           replace hx245_3 := (HB.out.cell (World.block_lt_of_cell? w _ hx245_3)).trans hx245_3
           replace hx245_4 := (HB.out.cell (World.block_lt_of_cell? w _ hx245_4)).trans hx245_4
           replace p245 := eq_true p245
           replace q245 := eq_true q245
           go_wp2_with (first | ((with_reducible refine gate_callee (f := 15) rfl ?_); refine goesL_ (some 56) rfl rfl Tryz.func15 (by kernel_rfl) rfl #[.agg #[.int .i64 ((rd_T57 l0 x6_1).f0), .int .i64 ((rd_T57 l0 x6_1).f1), .string ((rd_T57 l0 x6_1).f2), .int .i64 ((rd_T57 l0 x6_1).f3), .int .i64 ((rd_T57 l0 x6_1).f4)]] rfl (by (try simp only [List.map_toArray, List.map_cons, List.map_nil]); first | done | rfl | (simp only [List.length_drop, List.length_take]; rfl)) ?_; (with_reducible refine (levyref4_written.calls k1 ((rd_T57 l0 x6_1).f0) ((rd_T57 l0 x6_1).f1) ((rd_T57 l0 x6_1).f2) ((rd_T57 l0 x6_1).f3) ((rd_T57 l0 x6_1).f4) t246 true _ ?side1 A11.out).mono ?_); (case side1 => first | (with_reducible exact HT.out) | (with_reducible exact HT.out.below HB.out) | (with_reducible refine Tabs.below HT.out ?_; repeat (first | (with_reducible first | exact HB.out | apply below_alloc | apply pw_below_drewN | apply below_drew1) | exact HB.out))); rintro e w17 ⟨rfl, hb⟩; refine ⟨_, rfl, ?_⟩; have n0_ := Aside0.mk (below_step (by repeat (first | (with_reducible first | exact HB.out | apply below_alloc | apply pw_below_drewN | apply below_drew1) | exact HB.out)) hb); clear HB; have HB := n0_; clear n0_; (try clear hb); (try clear hb2); (try clear hk); (try clear hi)))
           go_roundg k1
           case measure => have := HK1.out; omega
           case rel => exact ⟨(x4_1 ++ t246), (false), (wrap64 (x6_1 + 1)), (by first | rfl | (simp [*]; done)), (by first | rfl | (simp [*]; done)), (by first | rfl | (simp [*]; done)), H', ⟨by have := HK1.out; omega⟩, ⟨by repeat (first | (with_reducible first | exact HB.out | apply below_alloc | apply pw_below_drewN | apply below_drew1) | exact HB.out)⟩⟩
         ·rw [if_neg c14] at H
          exact absurd H (by simp)
        ·replace c13 := Bool.eq_false_iff.mpr c13
         subst c13
         have H1 : (if x4_1.size + 1 ≤ 9223372036854775807 then (if (x4_1 ++ (⟨#[32]⟩ : ByteArray)).size + t246.size ≤ 9223372036854775807 then (if (((x4_1 ++ (⟨#[32]⟩ : ByteArray)) ++ t246).size : Int) > 8000 then (some ((⟨#[]⟩ : ByteArray), 45)) else (levyref4_Print.l0 k1 l0 ((x4_1 ++ (⟨#[32]⟩ : ByteArray)) ++ t246) false (wrap64 (x6_1 + 1)))) else (none)) else (none)) = some (r1, r2) := by rw [if_neg (show ¬ (false = true) by decide)] at H; exact H
         clear H
         have H := H1
         clear H1
         by_cases c18 : x4_1.size + 1 ≤ 9223372036854775807
         ·rw [if_pos c18] at H
          have c18b0 := eq_true c18
          have c18b1 : decide (x4_1.size + 1 ≤ 9223372036854775807) = true := decide_eq_true c18
          try have c18b2 : (9223372036854775807 < x4_1.size + 1) = False := eq_false (Nat.not_lt.2 c18)
          by_cases c19 : (x4_1 ++ (⟨#[32]⟩ : ByteArray)).size + t246.size ≤ 9223372036854775807
          ·rw [if_pos c19] at H
           have c19b0 := eq_true c19
           have c19b1 : decide ((x4_1 ++ (⟨#[32]⟩ : ByteArray)).size + t246.size ≤ 9223372036854775807) = true := decide_eq_true c19
           try have c19b2 : (9223372036854775807 < (x4_1 ++ (⟨#[32]⟩ : ByteArray)).size + t246.size) = False := eq_false (Nat.not_lt.2 c19)
           (try have c19b3 : (9223372036854775807 < x4_1.size + 1 + t246.size) = False := eq_false (Nat.not_lt.2 (Nat.le_trans (Nat.le_of_eq (by simp only [ByteArray.size_append] <;> first | rfl | exact Nat.add_assoc _ _ _ | exact congrArg (· + 1) (Nat.add_assoc _ _ _))) c19)))
           (try have c19b4 : (x4_1.size + 1 + t246.size ≤ 9223372036854775807) = True := eq_true (Nat.le_trans (Nat.le_of_eq (by simp only [ByteArray.size_append] <;> first | rfl | exact Nat.add_assoc _ _ _ | exact congrArg (· + 1) (Nat.add_assoc _ _ _))) c19))
           by_cases c20 : (((x4_1 ++ (⟨#[32]⟩ : ByteArray)) ++ t246).size : Int) > 8000
           ·rw [if_pos c20] at H
            have c20b0 : decide (8000 < (((x4_1 ++ (⟨#[32]⟩ : ByteArray)) ++ t246).size : Int)) = true := decide_eq_true c20
            have c20b1 : decide (8000 < ((x4_1 ++ (⟨#[32]⟩ : ByteArray)) ++ t246).size) = true := decide_eq_true (by omega)
            have c20b7 : decide ((8000 : Int) < (x4_1.size : Int) + 1 + (t246.size : Int)) = true := decide_eq_true (by have h_ := c20; have h1_ : (⟨#[32]⟩ : ByteArray).size = 1 := rfl; simp only [ByteArray.size_append, h1_] at h_; omega)
            clear c20
            simp only [Option.some.injEq, Prod.mk.injEq] at H
            obtain ⟨rfl, rfl⟩ := H
            have p241 : 0 ≤ (x6_1 : Int) := of_decide_eq_true (by assumption)
            have q241 : x6_1 < (l0.length : Int) := of_decide_eq_true (by assumption)
            obtain ⟨ad241, e241, hx241_0, hx241_1, hx241_2, hx241_3, hx241_4⟩ := at_T57 HR0.out x6_1 p241 q241
            cases e241
            replace hx241_0 := (HB.out.cell (World.block_lt_of_cell? w _ hx241_0)).trans hx241_0
            replace hx241_1 := (HB.out.cell (World.block_lt_of_cell? w _ hx241_1)).trans hx241_1
            replace hx241_2 := (HB.out.cell (World.block_lt_of_cell? w _ hx241_2)).trans hx241_2
            replace hx241_3 := (HB.out.cell (World.block_lt_of_cell? w _ hx241_3)).trans hx241_3
            replace hx241_4 := (HB.out.cell (World.block_lt_of_cell? w _ hx241_4)).trans hx241_4
            replace p241 := eq_true p241
            replace q241 := eq_true q241
            have p245 : 0 ≤ (x6_1 : Int) := of_decide_eq_true (by assumption)
            have q245 : x6_1 < (l0.length : Int) := of_decide_eq_true (by assumption)
            obtain ⟨ad245, e245, hx245_0, hx245_1, hx245_2, hx245_3, hx245_4⟩ := at_T57 HR0.out x6_1 p245 q245
            obtain rfl : ad241 = ad245 := (by injection e245)
            replace hx245_0 := (HB.out.cell (World.block_lt_of_cell? w _ hx245_0)).trans hx245_0
            replace hx245_1 := (HB.out.cell (World.block_lt_of_cell? w _ hx245_1)).trans hx245_1
            replace hx245_2 := (HB.out.cell (World.block_lt_of_cell? w _ hx245_2)).trans hx245_2
            replace hx245_3 := (HB.out.cell (World.block_lt_of_cell? w _ hx245_3)).trans hx245_3
            replace hx245_4 := (HB.out.cell (World.block_lt_of_cell? w _ hx245_4)).trans hx245_4
            replace p245 := eq_true p245
            replace q245 := eq_true q245
            go_wp2_with (first | ((with_reducible refine gate_callee (f := 15) rfl ?_); refine goesL_ (some 56) rfl rfl Tryz.func15 (by kernel_rfl) rfl #[.agg #[.int .i64 ((rd_T57 l0 x6_1).f0), .int .i64 ((rd_T57 l0 x6_1).f1), .string ((rd_T57 l0 x6_1).f2), .int .i64 ((rd_T57 l0 x6_1).f3), .int .i64 ((rd_T57 l0 x6_1).f4)]] rfl (by (try simp only [List.map_toArray, List.map_cons, List.map_nil]); first | done | rfl | (simp only [List.length_drop, List.length_take]; rfl)) ?_; (with_reducible refine (levyref4_written.calls k1 ((rd_T57 l0 x6_1).f0) ((rd_T57 l0 x6_1).f1) ((rd_T57 l0 x6_1).f2) ((rd_T57 l0 x6_1).f3) ((rd_T57 l0 x6_1).f4) t246 true _ ?side1 A11.out).mono ?_); (case side1 => first | (with_reducible exact HT.out) | (with_reducible exact HT.out.below HB.out) | (with_reducible refine Tabs.below HT.out ?_; repeat (first | (with_reducible first | exact HB.out | apply below_alloc | apply pw_below_drewN | apply below_drew1) | exact HB.out))); rintro e w21 ⟨rfl, hb⟩; refine ⟨_, rfl, ?_⟩; have n0_ := Aside0.mk (below_step (by repeat (first | (with_reducible first | exact HB.out | apply below_alloc | apply pw_below_drewN | apply below_drew1) | exact HB.out)) hb); clear HB; have HB := n0_; clear n0_; (try clear hb); (try clear hb2); (try clear hk); (try clear hi)))
            go_ret2
            exact ⟨by first | rfl | (simp [errW_none, errW_some] <;> rfl) | (simp [*, errW_none, errW_some] <;> rfl), by repeat (first | (with_reducible first | exact HB.out | apply below_alloc | apply pw_below_drewN | apply below_drew1) | exact HB.out)⟩
           ·rw [if_neg c20] at H
            have c20b0 : decide (8000 < (((x4_1 ++ (⟨#[32]⟩ : ByteArray)) ++ t246).size : Int)) = false := decide_eq_false c20
            have c20b1 : decide (8000 < ((x4_1 ++ (⟨#[32]⟩ : ByteArray)) ++ t246).size) = false := decide_eq_false (by omega)
            have c20b7 : decide ((8000 : Int) < (x4_1.size : Int) + 1 + (t246.size : Int)) = false := decide_eq_false (by have h_ := c20; have h1_ : (⟨#[32]⟩ : ByteArray).size = 1 := rfl; simp only [ByteArray.size_append, h1_] at h_; omega)
            clear c20
            have H' := Aside0.mk H
            clear H
            have p241 : 0 ≤ (x6_1 : Int) := of_decide_eq_true (by assumption)
            have q241 : x6_1 < (l0.length : Int) := of_decide_eq_true (by assumption)
            obtain ⟨ad241, e241, hx241_0, hx241_1, hx241_2, hx241_3, hx241_4⟩ := at_T57 HR0.out x6_1 p241 q241
            cases e241
            replace hx241_0 := (HB.out.cell (World.block_lt_of_cell? w _ hx241_0)).trans hx241_0
            replace hx241_1 := (HB.out.cell (World.block_lt_of_cell? w _ hx241_1)).trans hx241_1
            replace hx241_2 := (HB.out.cell (World.block_lt_of_cell? w _ hx241_2)).trans hx241_2
            replace hx241_3 := (HB.out.cell (World.block_lt_of_cell? w _ hx241_3)).trans hx241_3
            replace hx241_4 := (HB.out.cell (World.block_lt_of_cell? w _ hx241_4)).trans hx241_4
            replace p241 := eq_true p241
            replace q241 := eq_true q241
            have p245 : 0 ≤ (x6_1 : Int) := of_decide_eq_true (by assumption)
            have q245 : x6_1 < (l0.length : Int) := of_decide_eq_true (by assumption)
            obtain ⟨ad245, e245, hx245_0, hx245_1, hx245_2, hx245_3, hx245_4⟩ := at_T57 HR0.out x6_1 p245 q245
            obtain rfl : ad241 = ad245 := (by injection e245)
            replace hx245_0 := (HB.out.cell (World.block_lt_of_cell? w _ hx245_0)).trans hx245_0
            replace hx245_1 := (HB.out.cell (World.block_lt_of_cell? w _ hx245_1)).trans hx245_1
            replace hx245_2 := (HB.out.cell (World.block_lt_of_cell? w _ hx245_2)).trans hx245_2
            replace hx245_3 := (HB.out.cell (World.block_lt_of_cell? w _ hx245_3)).trans hx245_3
            replace hx245_4 := (HB.out.cell (World.block_lt_of_cell? w _ hx245_4)).trans hx245_4
            replace p245 := eq_true p245
            replace q245 := eq_true q245
            go_wp2_with (first | ((with_reducible refine gate_callee (f := 15) rfl ?_); refine goesL_ (some 56) rfl rfl Tryz.func15 (by kernel_rfl) rfl #[.agg #[.int .i64 ((rd_T57 l0 x6_1).f0), .int .i64 ((rd_T57 l0 x6_1).f1), .string ((rd_T57 l0 x6_1).f2), .int .i64 ((rd_T57 l0 x6_1).f3), .int .i64 ((rd_T57 l0 x6_1).f4)]] rfl (by (try simp only [List.map_toArray, List.map_cons, List.map_nil]); first | done | rfl | (simp only [List.length_drop, List.length_take]; rfl)) ?_; (with_reducible refine (levyref4_written.calls k1 ((rd_T57 l0 x6_1).f0) ((rd_T57 l0 x6_1).f1) ((rd_T57 l0 x6_1).f2) ((rd_T57 l0 x6_1).f3) ((rd_T57 l0 x6_1).f4) t246 true _ ?side1 A11.out).mono ?_); (case side1 => first | (with_reducible exact HT.out) | (with_reducible exact HT.out.below HB.out) | (with_reducible refine Tabs.below HT.out ?_; repeat (first | (with_reducible first | exact HB.out | apply below_alloc | apply pw_below_drewN | apply below_drew1) | exact HB.out))); rintro e w22 ⟨rfl, hb⟩; refine ⟨_, rfl, ?_⟩; have n0_ := Aside0.mk (below_step (by repeat (first | (with_reducible first | exact HB.out | apply below_alloc | apply pw_below_drewN | apply below_drew1) | exact HB.out)) hb); clear HB; have HB := n0_; clear n0_; (try clear hb); (try clear hb2); (try clear hk); (try clear hi)))
            go_roundg k1
            case measure => have := HK1.out; omega
            case rel => exact ⟨((x4_1 ++ (⟨#[32]⟩ : ByteArray)) ++ t246), (false), (wrap64 (x6_1 + 1)), (by first | rfl | (simp [*]; done)), (by first | rfl | (simp [*]; done)), (by first | rfl | (simp [*]; done)), H', ⟨by have := HK1.out; omega⟩, ⟨by repeat (first | (with_reducible first | exact HB.out | apply below_alloc | apply pw_below_drewN | apply below_drew1) | exact HB.out)⟩⟩
          ·rw [if_neg c19] at H
           exact absurd H (by simp)
         ·rw [if_neg c18] at H
          exact absurd H (by simp)
       ·replace c12 := Bool.eq_false_iff.mpr c12
        subst c12
        have H1 : (some ((⟨#[]⟩ : ByteArray), 45)) = some (r1, r2) := by rw [if_neg (show ¬ (false = true) by decide)] at H; exact H
        clear H
        have H := H1
        clear H1
        simp only [Option.some.injEq, Prod.mk.injEq] at H
        obtain ⟨rfl, rfl⟩ := H
        have p241 : 0 ≤ (x6_1 : Int) := of_decide_eq_true (by assumption)
        have q241 : x6_1 < (l0.length : Int) := of_decide_eq_true (by assumption)
        obtain ⟨ad241, e241, hx241_0, hx241_1, hx241_2, hx241_3, hx241_4⟩ := at_T57 HR0.out x6_1 p241 q241
        cases e241
        replace hx241_0 := (HB.out.cell (World.block_lt_of_cell? w _ hx241_0)).trans hx241_0
        replace hx241_1 := (HB.out.cell (World.block_lt_of_cell? w _ hx241_1)).trans hx241_1
        replace hx241_2 := (HB.out.cell (World.block_lt_of_cell? w _ hx241_2)).trans hx241_2
        replace hx241_3 := (HB.out.cell (World.block_lt_of_cell? w _ hx241_3)).trans hx241_3
        replace hx241_4 := (HB.out.cell (World.block_lt_of_cell? w _ hx241_4)).trans hx241_4
        replace p241 := eq_true p241
        replace q241 := eq_true q241
        have p245 : 0 ≤ (x6_1 : Int) := of_decide_eq_true (by assumption)
        have q245 : x6_1 < (l0.length : Int) := of_decide_eq_true (by assumption)
        obtain ⟨ad245, e245, hx245_0, hx245_1, hx245_2, hx245_3, hx245_4⟩ := at_T57 HR0.out x6_1 p245 q245
        obtain rfl : ad241 = ad245 := (by injection e245)
        replace hx245_0 := (HB.out.cell (World.block_lt_of_cell? w _ hx245_0)).trans hx245_0
        replace hx245_1 := (HB.out.cell (World.block_lt_of_cell? w _ hx245_1)).trans hx245_1
        replace hx245_2 := (HB.out.cell (World.block_lt_of_cell? w _ hx245_2)).trans hx245_2
        replace hx245_3 := (HB.out.cell (World.block_lt_of_cell? w _ hx245_3)).trans hx245_3
        replace hx245_4 := (HB.out.cell (World.block_lt_of_cell? w _ hx245_4)).trans hx245_4
        replace p245 := eq_true p245
        replace q245 := eq_true q245
        go_wp2_with (first | ((with_reducible refine gate_callee (f := 15) rfl ?_); refine goesL_ (some 56) rfl rfl Tryz.func15 (by kernel_rfl) rfl #[.agg #[.int .i64 ((rd_T57 l0 x6_1).f0), .int .i64 ((rd_T57 l0 x6_1).f1), .string ((rd_T57 l0 x6_1).f2), .int .i64 ((rd_T57 l0 x6_1).f3), .int .i64 ((rd_T57 l0 x6_1).f4)]] rfl (by (try simp only [List.map_toArray, List.map_cons, List.map_nil]); first | done | rfl | (simp only [List.length_drop, List.length_take]; rfl)) ?_; (with_reducible refine (levyref4_written.calls k1 ((rd_T57 l0 x6_1).f0) ((rd_T57 l0 x6_1).f1) ((rd_T57 l0 x6_1).f2) ((rd_T57 l0 x6_1).f3) ((rd_T57 l0 x6_1).f4) t246 false _ ?side1 A11.out).mono ?_); (case side1 => first | (with_reducible exact HT.out) | (with_reducible exact HT.out.below HB.out) | (with_reducible refine Tabs.below HT.out ?_; repeat (first | (with_reducible first | exact HB.out | apply below_alloc | apply pw_below_drewN | apply below_drew1) | exact HB.out))); rintro e w23 ⟨rfl, hb⟩; refine ⟨_, rfl, ?_⟩; have n0_ := Aside0.mk (below_step (by repeat (first | (with_reducible first | exact HB.out | apply below_alloc | apply pw_below_drewN | apply below_drew1) | exact HB.out)) hb); clear HB; have HB := n0_; clear n0_; (try clear hb); (try clear hb2); (try clear hk); (try clear hi)))
        go_ret2
        exact ⟨by first | rfl | (simp [errW_none, errW_some] <;> rfl) | (simp [*, errW_none, errW_some] <;> rfl), by repeat (first | (with_reducible first | exact HB.out | apply below_alloc | apply pw_below_drewN | apply below_drew1) | exact HB.out)⟩
     ·rw [if_neg c4] at H
      exact absurd H (by simp)
    ·rw [if_neg c3] at H
     have c3b0 : decide (x6_1 < (l0.length : Int)) = false := decide_eq_false c3
     clear c3
     by_cases c24 : x5_1 = true
     ·subst c24
      have H1 : (if (x4_1.size : Int) > 8000 then (some ((⟨#[]⟩ : ByteArray), 45)) else (some (x4_1, 0))) = some (r1, r2) := by rw [if_pos rfl] at H; exact H
      clear H
      have H := H1
      clear H1
      by_cases c25 : (x4_1.size : Int) > 8000
      ·rw [if_pos c25] at H
       have c25b0 : decide (8000 < (x4_1.size : Int)) = true := decide_eq_true c25
       have c25b1 : decide (8000 < x4_1.size) = true := decide_eq_true (by omega)
       clear c25
       simp only [Option.some.injEq, Prod.mk.injEq] at H
       obtain ⟨rfl, rfl⟩ := H
       go_wp2
       go_ret2
       exact ⟨by first | rfl | (simp [errW_none, errW_some] <;> rfl) | (simp [*, errW_none, errW_some] <;> rfl), by repeat (first | (with_reducible first | exact HB.out | apply below_alloc | apply pw_below_drewN | apply below_drew1) | exact HB.out)⟩
      ·rw [if_neg c25] at H
       have c25b0 : decide (8000 < (x4_1.size : Int)) = false := decide_eq_false c25
       have c25b1 : decide (8000 < x4_1.size) = false := decide_eq_false (by omega)
       clear c25
       simp only [Option.some.injEq, Prod.mk.injEq] at H
       obtain ⟨rfl, rfl⟩ := H
       go_wp2
       go_ret2
       exact ⟨by first | rfl | (simp [errW_none, errW_some] <;> rfl) | (simp [*, errW_none, errW_some] <;> rfl), by repeat (first | (with_reducible first | exact HB.out | apply below_alloc | apply pw_below_drewN | apply below_drew1) | exact HB.out)⟩
     ·replace c24 := Bool.eq_false_iff.mpr c24
      subst c24
      have H1 : (some ((⟨#[]⟩ : ByteArray), 45)) = some (r1, r2) := by rw [if_neg (show ¬ (false = true) by decide)] at H; exact H
      clear H
      have H := H1
      clear H1
      simp only [Option.some.injEq, Prod.mk.injEq] at H
      obtain ⟨rfl, rfl⟩ := H
      go_wp2
      go_ret2
      exact ⟨by first | rfl | (simp [errW_none, errW_some] <;> rfl) | (simp [*, errW_none, errW_some] <;> rfl), by repeat (first | (with_reducible first | exact HB.out | apply below_alloc | apply pw_below_drewN | apply below_drew1) | exact HB.out)⟩
end Go.Proofs.YtjlclkenfmbahaaGreatDoor.PA
