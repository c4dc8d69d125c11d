/- The Go functions of this seat that the laws of part A come to, each as a plain Lean function ('f', its loops 'l0' ..) with a proof that the call comes to its answer. Conditions: where a function comes to a package-level table, the world holds that table ('Tabs'). Written by a program of this session (a changed copy of the print). -/
import Derived.Test.YtjlclkenfmbahaaGreatDoorMPAx0
import Derived.Test.YtjlclkenfmbahaaGreatDoorMWFmt
namespace Go.Proofs.YtjlclkenfmbahaaGreatDoor.PA
open Go.RowKit Go.Proofs.YtjlclkenfmbahaaGreatDoorW.PrintWords Go.Proofs.YtjlclkenfmbahaaGreatDoorW.PrintLast Go.Proofs.YtjlclkenfmbahaaGreatDoorW.PrintMore
attribute [local go_sem] max2_int min2_int max_two min_two max_three min_three max_four min_four
set_option linter.unusedVariables false
set_option linter.unusedSimpArgs false
def words_Percent.j0 : Nat → Int → Int → Bool → Option (ByteArray × Bool)
 | 0, _, _, _ => none
 | k + 1, x0, x1, x30 => if x30 = true then (some ((⟨#[]⟩ : ByteArray), false)) else (if x1 = 0 then (none) else ((strconv_FormatInt_77.f (wrap64 (Int.tdiv (wrap64 (Int.tdiv (wrap64 ((wrap64 (x0 * 100)) * 1000000)) x1)) 1000000)) 10).bind fun t274 => (if (Int.tmod (wrap64 (Int.tdiv (wrap64 ((wrap64 (x0 * 100)) * 1000000)) x1)) 1000000) > 0 then ((strconv_FormatInt_77.f (wrap64 (1000000 + (Int.tmod (wrap64 (Int.tdiv (wrap64 ((wrap64 (x0 * 100)) * 1000000)) x1)) 1000000))) 10).bind fun t275 => (if 1 ≤ (t275.size : Int) then ((strings_TrimRight.f (t275.extract 1 t275.size) (⟨#[48]⟩ : ByteArray)).bind fun t276 => (if 1 + t276.size ≤ 9223372036854775807 then (if t274.size + ((⟨#[46]⟩ : ByteArray) ++ t276).size ≤ 9223372036854775807 then (if (t274 ++ ((⟨#[46]⟩ : ByteArray) ++ t276)).size + 1 ≤ 9223372036854775807 then (some ((t274 ++ ((⟨#[46]⟩ : ByteArray) ++ t276)) ++ (⟨#[37]⟩ : ByteArray), true)) else (none)) else (none)) else (none))) else (none))) else (if t274.size + 1 ≤ 9223372036854775807 then (some (t274 ++ (⟨#[37]⟩ : ByteArray), true)) else (none)))))
def words_Percent.f (k : Nat) (a0 : Int) (a1 : Int) : Option (ByteArray × Bool) := if a0 < 0 then (words_Percent.j0 k a0 a1 true) else (if a0 > 1000000000 then (words_Percent.j0 k a0 a1 true) else (if a1 < 1 then (words_Percent.j0 k a0 a1 true) else (if a1 > 1000000000 then (words_Percent.j0 k a0 a1 true) else (if a1 = 0 then (none) else (words_Percent.j0 k a0 a1 ((Int.tmod (wrap64 ((wrap64 (a0 * 100)) * 1000000)) a1) != 0))))))
set_option maxHeartbeats 8000000 in
set_option maxRecDepth 100000 in
theorem words_Percent.calls (k : Nat) (a0 : Int) (a1 : Int) (r1 : ByteArray) (r2 : Bool) (w : World) (hT : Tabs w) (h : words_Percent.f k a0 a1 = some (r1, r2)) :
  Calls Tryz.prog 78 #[.int .i64 a0, .int .i64 a1] w fun e w' => e = .returned (.tuple #[.string r1, .bool r2]) ∧ Below w.heap.size w w' := by
 have HB := Aside0.mk (Below.refl w.heap.size w)
 have HT := Aside0.mk hT
 clear hT
 have H : (if a0 < 0 then (words_Percent.j0 k a0 a1 true) else (if a0 > 1000000000 then (words_Percent.j0 k a0 a1 true) else (if a1 < 1 then (words_Percent.j0 k a0 a1 true) else (if a1 > 1000000000 then (words_Percent.j0 k a0 a1 true) else (if a1 = 0 then (none) else (words_Percent.j0 k a0 a1 ((Int.tmod (wrap64 ((wrap64 (a0 * 100)) * 1000000)) a1) != 0))))))) = some (r1, r2) := h
 clear h
 have HC3 := Aside0.mk H
 clear H
 go_enter Tryz.func78, Tryz.ntmps78
 go_upto_region 1 with (fail)
 go_cut [30] (fun v30 wc => ∃ (kq : Nat) (x30_2 : Bool), v30 = .bool x30_2 ∧ Aside0 (words_Percent.j0 kq a0 a1 x30_2 = some (r1, r2)) ∧ Aside0 (kq ≤ k) ∧ Aside0 (Below w.heap.size w wc))
 case first =>
  have H := HC3.out
  clear HC3
  by_cases c4 : a0 < 0
  ·rw [if_pos c4] at H
   have c4b0 : decide (a0 < 0) = true := decide_eq_true c4
   clear c4
   (first | rw [c4b0] | (simp only [i64_w, i32_w]; rw [c4b0]) | skip)
   have H' := Aside0.mk H
   clear H
   go_wp2
   go_meet
   case rel => exact ⟨_, (true), (by first | rfl | (simp [*]; done)), H', ⟨by first | omega | exact Nat.le_refl _⟩, ⟨by repeat (first | (with_reducible first | exact HB.out | apply below_alloc | apply pw_below_drewN | apply below_drew1) | exact HB.out)⟩⟩
  ·rw [if_neg c4] at H
   have c4b0 : decide (a0 < 0) = false := decide_eq_false c4
   clear c4
   (first | rw [c4b0] | (simp only [i64_w, i32_w]; rw [c4b0]) | skip)
   by_cases c5 : a0 > 1000000000
   ·rw [if_pos c5] at H
    have c5b0 : decide (1000000000 < a0) = true := decide_eq_true c5
    clear c5
    have H' := Aside0.mk H
    clear H
    go_wp2
    go_meet
    case rel => exact ⟨_, (true), (by first | rfl | (simp [*]; done)), H', ⟨by first | omega | exact Nat.le_refl _⟩, ⟨by repeat (first | (with_reducible first | exact HB.out | apply below_alloc | apply pw_below_drewN | apply below_drew1) | exact HB.out)⟩⟩
   ·rw [if_neg c5] at H
    have c5b0 : decide (1000000000 < a0) = false := decide_eq_false c5
    clear c5
    by_cases c6 : a1 < 1
    ·rw [if_pos c6] at H
     have c6b0 : decide (a1 < 1) = true := decide_eq_true c6
     clear c6
     have H' := Aside0.mk H
     clear H
     go_wp2
     go_meet
     case rel => exact ⟨_, (true), (by first | rfl | (simp [*]; done)), H', ⟨by first | omega | exact Nat.le_refl _⟩, ⟨by repeat (first | (with_reducible first | exact HB.out | apply below_alloc | apply pw_below_drewN | apply below_drew1) | exact HB.out)⟩⟩
    ·rw [if_neg c6] at H
     have c6b0 : decide (a1 < 1) = false := decide_eq_false c6
     clear c6
     by_cases c7 : a1 > 1000000000
     ·rw [if_pos c7] at H
      have c7b0 : decide (1000000000 < a1) = true := decide_eq_true c7
      clear c7
      have H' := Aside0.mk H
      clear H
      go_wp2
      go_meet
      case rel => exact ⟨_, (true), (by first | rfl | (simp [*]; done)), H', ⟨by first | omega | exact Nat.le_refl _⟩, ⟨by repeat (first | (with_reducible first | exact HB.out | apply below_alloc | apply pw_below_drewN | apply below_drew1) | exact HB.out)⟩⟩
     ·rw [if_neg c7] at H
      have c7b0 : decide (1000000000 < a1) = false := decide_eq_false c7
      clear c7
      by_cases c8 : a1 = 0
      ·rw [if_pos c8] at H
       exact absurd H (by simp)
      ·rw [if_neg c8] at H
       have c8b0 : (a1 == 0) = false := beq_eq_false_iff_ne.mpr c8
       have c8b1 : (a1 != 0) = true := bne_iff_ne.mpr c8
       have H' := Aside0.mk H
       clear H
       go_wp2
       go_meet
       case rel => exact ⟨_, (((Int.tmod (wrap64 ((wrap64 (a0 * 100)) * 1000000)) a1) != 0)), (by first | rfl | (simp [*]; done)), H', ⟨by first | omega | exact Nat.le_refl _⟩, ⟨by repeat (first | (with_reducible first | exact HB.out | apply below_alloc | apply pw_below_drewN | apply below_drew1) | exact HB.out)⟩⟩
 case rest =>
  clear HC3
  try clear p2
  try clear c4
  try clear c4b0
  try clear c5
  try clear c5b0
  try clear c6
  try clear c6b0
  try clear p6
  try clear c7
  try clear c7b0
  try clear c8
  try clear c8b0
  try clear c8b1
  obtain ⟨kq, x30_2, rfl, HA, HJ2, HB⟩ := hcut
  cases kq with
  | zero => exact absurd HA.out (by simp [words_Percent.j0])
  | succ kj2 =>
   have H := HA.out
   clear HA
   simp only [words_Percent.j0] at H
   by_cases c9 : x30_2 = true
   ·subst c9
    have H1 : (some ((⟨#[]⟩ : ByteArray), false)) = some (r1, r2) := by rw [if_pos rfl] at H; exact H
    clear H
    have H := H1
    clear H1
    simp only [Option.some.injEq, Prod.mk.injEq] at H
    obtain ⟨rfl, rfl⟩ := H
    go_wp2
    go_ret2
    exact ⟨by first | rfl | (simp [errW_none, errW_some] <;> rfl) | (simp [*, errW_none, errW_some] <;> rfl), by repeat (first | (with_reducible first | exact HB.out | apply below_alloc | apply pw_below_drewN | apply below_drew1) | exact HB.out)⟩
   ·replace c9 := Bool.eq_false_iff.mpr c9
    subst c9
    have H1 : (if a1 = 0 then (none) else ((strconv_FormatInt_77.f (wrap64 (Int.tdiv (wrap64 (Int.tdiv (wrap64 ((wrap64 (a0 * 100)) * 1000000)) a1)) 1000000)) 10).bind fun t274 => (if (Int.tmod (wrap64 (Int.tdiv (wrap64 ((wrap64 (a0 * 100)) * 1000000)) a1)) 1000000) > 0 then ((strconv_FormatInt_77.f (wrap64 (1000000 + (Int.tmod (wrap64 (Int.tdiv (wrap64 ((wrap64 (a0 * 100)) * 1000000)) a1)) 1000000))) 10).bind fun t275 => (if 1 ≤ (t275.size : Int) then ((strings_TrimRight.f (t275.extract 1 t275.size) (⟨#[48]⟩ : ByteArray)).bind fun t276 => (if 1 + t276.size ≤ 9223372036854775807 then (if t274.size + ((⟨#[46]⟩ : ByteArray) ++ t276).size ≤ 9223372036854775807 then (if (t274 ++ ((⟨#[46]⟩ : ByteArray) ++ t276)).size + 1 ≤ 9223372036854775807 then (some ((t274 ++ ((⟨#[46]⟩ : ByteArray) ++ t276)) ++ (⟨#[37]⟩ : ByteArray), true)) else (none)) else (none)) else (none))) else (none))) else (if t274.size + 1 ≤ 9223372036854775807 then (some (t274 ++ (⟨#[37]⟩ : ByteArray), true)) else (none))))) = some (r1, r2) := by rw [if_neg (show ¬ (false = true) by decide)] at H; exact H
    clear H
    have H := H1
    clear H1
    by_cases c10 : a1 = 0
    ·rw [if_pos c10] at H
     exact absurd H (by simp)
    ·rw [if_neg c10] at H
     have c10b0 : (a1 == 0) = false := beq_eq_false_iff_ne.mpr c10
     have c10b1 : (a1 != 0) = true := bne_iff_ne.mpr c10
     replace H := Option.bind_eq_some_iff.mp H
     obtain ⟨t274, A110, H⟩ := H
     replace H : (if (Int.tmod (wrap64 (Int.tdiv (wrap64 ((wrap64 (a0 * 100)) * 1000000)) a1)) 1000000) > 0 then ((strconv_FormatInt_77.f (wrap64 (1000000 + (Int.tmod (wrap64 (Int.tdiv (wrap64 ((wrap64 (a0 * 100)) * 1000000)) a1)) 1000000))) 10).bind fun t275 => (if 1 ≤ (t275.size : Int) then ((strings_TrimRight.f (t275.extract 1 t275.size) (⟨#[48]⟩ : ByteArray)).bind fun t276 => (if 1 + t276.size ≤ 9223372036854775807 then (if t274.size + ((⟨#[46]⟩ : ByteArray) ++ t276).size ≤ 9223372036854775807 then (if (t274 ++ ((⟨#[46]⟩ : ByteArray) ++ t276)).size + 1 ≤ 9223372036854775807 then (some ((t274 ++ ((⟨#[46]⟩ : ByteArray) ++ t276)) ++ (⟨#[37]⟩ : ByteArray), true)) else (none)) else (none)) else (none))) else (none))) else (if t274.size + 1 ≤ 9223372036854775807 then (some (t274 ++ (⟨#[37]⟩ : ByteArray), true)) else (none))) = some (r1, r2) := H
     have A11 := Aside0.mk A110
     clear A110
     by_cases c12 : (Int.tmod (wrap64 (Int.tdiv (wrap64 ((wrap64 (a0 * 100)) * 1000000)) a1)) 1000000) > 0
     ·rw [if_pos c12] at H
      have c12b0 : decide (0 < (Int.tmod (wrap64 (Int.tdiv (wrap64 ((wrap64 (a0 * 100)) * 1000000)) a1)) 1000000)) = true := decide_eq_true c12
      clear c12
      replace H := Option.bind_eq_some_iff.mp H
      obtain ⟨t275, A130, H⟩ := H
      replace H : (if 1 ≤ (t275.size : Int) then ((strings_TrimRight.f (t275.extract 1 t275.size) (⟨#[48]⟩ : ByteArray)).bind fun t276 => (if 1 + t276.size ≤ 9223372036854775807 then (if t274.size + ((⟨#[46]⟩ : ByteArray) ++ t276).size ≤ 9223372036854775807 then (if (t274 ++ ((⟨#[46]⟩ : ByteArray) ++ t276)).size + 1 ≤ 9223372036854775807 then (some ((t274 ++ ((⟨#[46]⟩ : ByteArray) ++ t276)) ++ (⟨#[37]⟩ : ByteArray), true)) else (none)) else (none)) else (none))) else (none)) = some (r1, r2) := H
      have A13 := Aside0.mk A130
      clear A130
      by_cases c14 : 1 ≤ (t275.size : Int)
      ·rw [if_pos c14] at H
       have c14b0 := eq_true c14
       have c14b1 : decide (1 ≤ (t275.size : Int)) = true := decide_eq_true c14
       clear c14
       replace H := Option.bind_eq_some_iff.mp H
       obtain ⟨t276, A150, H⟩ := H
       replace H : (if 1 + t276.size ≤ 9223372036854775807 then (if t274.size + ((⟨#[46]⟩ : ByteArray) ++ t276).size ≤ 9223372036854775807 then (if (t274 ++ ((⟨#[46]⟩ : ByteArray) ++ t276)).size + 1 ≤ 9223372036854775807 then (some ((t274 ++ ((⟨#[46]⟩ : ByteArray) ++ t276)) ++ (⟨#[37]⟩ : ByteArray), true)) else (none)) else (none)) else (none)) = some (r1, r2) := H
       have A15 := Aside0.mk A150
       clear A150
       by_cases c16 : 1 + t276.size ≤ 9223372036854775807
       ·rw [if_pos c16] at H
        have c16b0 := eq_true c16
        have c16b1 : decide (1 + t276.size ≤ 9223372036854775807) = true := decide_eq_true c16
        try have c16b2 : (9223372036854775807 < 1 + t276.size) = False := eq_false (Nat.not_lt.2 c16)
        by_cases c17 : t274.size + ((⟨#[46]⟩ : ByteArray) ++ t276).size ≤ 9223372036854775807
        ·rw [if_pos c17] at H
         have c17b0 := eq_true c17
         have c17b1 : decide (t274.size + ((⟨#[46]⟩ : ByteArray) ++ t276).size ≤ 9223372036854775807) = true := decide_eq_true c17
         try have c17b2 : (9223372036854775807 < t274.size + ((⟨#[46]⟩ : ByteArray) ++ t276).size) = False := eq_false (Nat.not_lt.2 c17)
         (try have c17b3 : (9223372036854775807 < t274.size + 1 + t276.size) = False := eq_false (Nat.not_lt.2 (Nat.le_trans (Nat.le_of_eq (by simp only [ByteArray.size_append] <;> first | rfl | exact Nat.add_assoc _ _ _ | exact congrArg (· + 1) (Nat.add_assoc _ _ _))) c17)))
         (try have c17b4 : (t274.size + 1 + t276.size ≤ 9223372036854775807) = True := eq_true (Nat.le_trans (Nat.le_of_eq (by simp only [ByteArray.size_append] <;> first | rfl | exact Nat.add_assoc _ _ _ | exact congrArg (· + 1) (Nat.add_assoc _ _ _))) c17))
         (try have c17b5 : (9223372036854775807 < t274.size + (1 + t276.size)) = False := eq_false (Nat.not_lt.2 (Nat.le_trans (Nat.le_of_eq (by simp only [ByteArray.size_append] <;> rfl)) c17)))
         (try have c17b6 : (t274.size + (1 + t276.size) ≤ 9223372036854775807) = True := eq_true (Nat.le_trans (Nat.le_of_eq (by simp only [ByteArray.size_append] <;> rfl)) c17))
         by_cases c18 : (t274 ++ ((⟨#[46]⟩ : ByteArray) ++ t276)).size + 1 ≤ 9223372036854775807
         ·rw [if_pos c18] at H
          have c18b0 := eq_true c18
          have c18b1 : decide ((t274 ++ ((⟨#[46]⟩ : ByteArray) ++ t276)).size + 1 ≤ 9223372036854775807) = true := decide_eq_true c18
          try have c18b2 : (9223372036854775807 < (t274 ++ ((⟨#[46]⟩ : ByteArray) ++ t276)).size + 1) = False := eq_false (Nat.not_lt.2 c18)
          (try have c18b3 : (9223372036854775807 < t274.size + 1 + t276.size + 1) = False := eq_false (Nat.not_lt.2 (Nat.le_trans (Nat.le_of_eq (by simp only [ByteArray.size_append] <;> first | rfl | exact Nat.add_assoc _ _ _ | exact congrArg (· + 1) (Nat.add_assoc _ _ _))) c18)))
          (try have c18b4 : (t274.size + 1 + t276.size + 1 ≤ 9223372036854775807) = True := eq_true (Nat.le_trans (Nat.le_of_eq (by simp only [ByteArray.size_append] <;> first | rfl | exact Nat.add_assoc _ _ _ | exact congrArg (· + 1) (Nat.add_assoc _ _ _))) c18))
          (try have c18b5 : (9223372036854775807 < t274.size + (1 + t276.size) + 1) = False := eq_false (Nat.not_lt.2 (Nat.le_trans (Nat.le_of_eq (by simp only [ByteArray.size_append] <;> rfl)) c18)))
          (try have c18b6 : (t274.size + (1 + t276.size) + 1 ≤ 9223372036854775807) = True := eq_true (Nat.le_trans (Nat.le_of_eq (by simp only [ByteArray.size_append] <;> rfl)) c18))
          simp only [Option.some.injEq, Prod.mk.injEq] at H
          obtain ⟨rfl, rfl⟩ := H
          go_wp2_with (first | ((with_reducible refine gate_callee (f := 77) rfl ?_); refine goesL_ (some 38) rfl rfl Tryz.func77 (by kernel_rfl) rfl #[.int .i64 (wrap64 (Int.tdiv (wrap64 (Int.tdiv (wrap64 ((wrap64 (a0 * 100)) * 1000000)) a1)) 1000000)), .int .i64 10] rfl (by (try simp only [List.map_toArray, List.map_cons, List.map_nil]); first | done | rfl | (simp only [List.length_drop, List.length_take]; rfl)) ?_; (with_reducible refine (strconv_FormatInt_77.calls (wrap64 (Int.tdiv (wrap64 (Int.tdiv (wrap64 ((wrap64 (a0 * 100)) * 1000000)) a1)) 1000000)) 10 t274 _ ?side1 A11.out).mono ?_); (case side1 => first | (with_reducible exact HT.out) | (with_reducible exact HT.out.below HB.out) | (with_reducible refine Tabs.below HT.out ?_; repeat (first | (with_reducible first | exact HB.out | apply below_alloc | apply pw_below_drewN | apply below_drew1) | exact HB.out))); rintro e w19 ⟨rfl, hb⟩; refine ⟨_, rfl, ?_⟩; have n0_ := Aside0.mk (below_step (by repeat (first | (with_reducible first | exact HB.out | apply below_alloc | apply pw_below_drewN | apply below_drew1) | exact HB.out)) hb); clear HB; have HB := n0_; clear n0_; (try clear hb); (try clear hb2); (try clear hk); (try clear hi)) | ((with_reducible refine gate_callee (f := 77) rfl ?_); refine goesL_ (some 46) rfl rfl Tryz.func77 (by kernel_rfl) rfl #[.int .i64 (wrap64 (1000000 + (Int.tmod (wrap64 (Int.tdiv (wrap64 ((wrap64 (a0 * 100)) * 1000000)) a1)) 1000000))), .int .i64 10] rfl (by (try simp only [List.map_toArray, List.map_cons, List.map_nil]); first | done | rfl | (simp only [List.length_drop, List.length_take]; rfl)) ?_; (with_reducible refine (strconv_FormatInt_77.calls (wrap64 (1000000 + (Int.tmod (wrap64 (Int.tdiv (wrap64 ((wrap64 (a0 * 100)) * 1000000)) a1)) 1000000))) 10 t275 _ ?side1 A13.out).mono ?_); (case side1 => first | (with_reducible exact HT.out) | (with_reducible exact HT.out.below HB.out) | (with_reducible refine Tabs.below HT.out ?_; repeat (first | (with_reducible first | exact HB.out | apply below_alloc | apply pw_below_drewN | apply below_drew1) | exact HB.out))); rintro e w20 ⟨rfl, hb⟩; refine ⟨_, rfl, ?_⟩; have n0_ := Aside0.mk (below_step (by repeat (first | (with_reducible first | exact HB.out | apply below_alloc | apply pw_below_drewN | apply below_drew1) | exact HB.out)) hb); clear HB; have HB := n0_; clear n0_; (try clear hb); (try clear hb2); (try clear hk); (try clear hi)) | ((with_reducible refine gate_callee (f := 118) rfl ?_); refine goesL_ (some 48) rfl rfl Tryz.func118 (by kernel_rfl) rfl #[.string (t275.extract 1 t275.size), .string (⟨#[48]⟩ : ByteArray)] rfl (by (try simp only [List.map_toArray, List.map_cons, List.map_nil]); first | done | rfl | (simp only [List.length_drop, List.length_take]; rfl)) ?_; (with_reducible refine (strings_TrimRight.calls (t275.extract 1 t275.size) (⟨#[48]⟩ : ByteArray) t276 _ A15.out).mono ?_); rintro e w21 ⟨rfl, hb⟩; refine ⟨_, rfl, ?_⟩; have n0_ := Aside0.mk (below_step (by repeat (first | (with_reducible first | exact HB.out | apply below_alloc | apply pw_below_drewN | apply below_drew1) | exact HB.out)) hb); clear HB; have HB := n0_; clear n0_; (try clear hb); (try clear hb2); (try clear hk); (try clear hi)))
          go_ret2
          exact ⟨by first | rfl | (simp [errW_none, errW_some] <;> rfl) | (simp [*, errW_none, errW_some] <;> rfl), by repeat (first | (with_reducible first | exact HB.out | apply below_alloc | apply pw_below_drewN | apply below_drew1) | exact HB.out)⟩
         ·rw [if_neg c18] at H
          exact absurd H (by simp)
        ·rw [if_neg c17] at H
         exact absurd H (by simp)
       ·rw [if_neg c16] at H
        exact absurd H (by simp)
      ·rw [if_neg c14] at H
       exact absurd H (by simp)
     ·rw [if_neg c12] at H
      have c12b0 : decide (0 < (Int.tmod (wrap64 (Int.tdiv (wrap64 ((wrap64 (a0 * 100)) * 1000000)) a1)) 1000000)) = false := decide_eq_false c12
      clear c12
      by_cases c22 : t274.size + 1 ≤ 9223372036854775807
      ·rw [if_pos c22] at H
       have c22b0 := eq_true c22
       have c22b1 : decide (t274.size + 1 ≤ 9223372036854775807) = true := decide_eq_true c22
       try have c22b2 : (9223372036854775807 < t274.size + 1) = False := eq_false (Nat.not_lt.2 c22)
       simp only [Option.some.injEq, Prod.mk.injEq] at H
       obtain ⟨rfl, rfl⟩ := H
       go_wp2_with (first | ((with_reducible refine gate_callee (f := 77) rfl ?_); refine goesL_ (some 38) rfl rfl Tryz.func77 (by kernel_rfl) rfl #[.int .i64 (wrap64 (Int.tdiv (wrap64 (Int.tdiv (wrap64 ((wrap64 (a0 * 100)) * 1000000)) a1)) 1000000)), .int .i64 10] rfl (by (try simp only [List.map_toArray, List.map_cons, List.map_nil]); first | done | rfl | (simp only [List.length_drop, List.length_take]; rfl)) ?_; (with_reducible refine (strconv_FormatInt_77.calls (wrap64 (Int.tdiv (wrap64 (Int.tdiv (wrap64 ((wrap64 (a0 * 100)) * 1000000)) a1)) 1000000)) 10 t274 _ ?side1 A11.out).mono ?_); (case side1 => first | (with_reducible exact HT.out) | (with_reducible exact HT.out.below HB.out) | (with_reducible refine Tabs.below HT.out ?_; repeat (first | (with_reducible first | exact HB.out | apply below_alloc | apply pw_below_drewN | apply below_drew1) | exact HB.out))); rintro e w23 ⟨rfl, hb⟩; refine ⟨_, rfl, ?_⟩; have n0_ := Aside0.mk (below_step (by repeat (first | (with_reducible first | exact HB.out | apply below_alloc | apply pw_below_drewN | apply below_drew1) | exact HB.out)) hb); clear HB; have HB := n0_; clear n0_; (try clear hb); (try clear hb2); (try clear hk); (try clear hi)))
       go_ret2
       exact ⟨by first | rfl | (simp [errW_none, errW_some] <;> rfl) | (simp [*, errW_none, errW_some] <;> rfl), by repeat (first | (with_reducible first | exact HB.out | apply below_alloc | apply pw_below_drewN | apply below_drew1) | exact HB.out)⟩
      ·rw [if_neg c22] at H
       exact absurd H (by simp)
end Go.Proofs.YtjlclkenfmbahaaGreatDoor.PA
