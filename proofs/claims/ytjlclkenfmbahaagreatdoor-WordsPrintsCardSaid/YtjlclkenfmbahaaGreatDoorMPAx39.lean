/- The Go functions of this seat that the laws of part A come to, each as a plain Lean function ('f', its loops 'l0' ..) with a proof that the call comes to its answer. Conditions: where a function comes to a package-level table, the world holds that table ('Tabs'). Written by a program of this session (a changed copy of the print). -/
import Derived.Test.YtjlclkenfmbahaaGreatDoorMPAx0
import Derived.Test.YtjlclkenfmbahaaGreatDoorMWFmt
namespace Go.Proofs.YtjlclkenfmbahaaGreatDoor.PA
open Go.RowKit Go.Proofs.YtjlclkenfmbahaaGreatDoorW.PrintWords Go.Proofs.YtjlclkenfmbahaaGreatDoorW.PrintLast Go.Proofs.YtjlclkenfmbahaaGreatDoorW.PrintMore
attribute [local go_sem] max2_int min2_int max_two min_two max_three min_three max_four min_four
set_option linter.unusedVariables false
set_option linter.unusedSimpArgs false
def words_Amount.j0 : Nat → ByteArray → Int → Option (ByteArray)
 | 0, _, _ => none
 | k + 1, x3, x4 => (strconv_FormatUint_116.f (Int.tmod x4 100) 10).bind fun t269 => (if (Int.tmod x4 100) < 10 then (if 1 + t269.size ≤ 9223372036854775807 then ((strconv_FormatUint_116.f (IntKind.u64.wrap (Int.tdiv x4 100)) 10).bind fun t270 => (if x3.size + t270.size ≤ 9223372036854775807 then (if (x3 ++ t270).size + 1 ≤ 9223372036854775807 then (if ((x3 ++ t270) ++ (⟨#[46]⟩ : ByteArray)).size + ((⟨#[48]⟩ : ByteArray) ++ t269).size ≤ 9223372036854775807 then (some (((x3 ++ t270) ++ (⟨#[46]⟩ : ByteArray)) ++ ((⟨#[48]⟩ : ByteArray) ++ t269))) else (none)) else (none)) else (none))) else (none)) else ((strconv_FormatUint_116.f (IntKind.u64.wrap (Int.tdiv x4 100)) 10).bind fun t271 => (if x3.size + t271.size ≤ 9223372036854775807 then (if (x3 ++ t271).size + 1 ≤ 9223372036854775807 then (if ((x3 ++ t271) ++ (⟨#[46]⟩ : ByteArray)).size + t269.size ≤ 9223372036854775807 then (some (((x3 ++ t271) ++ (⟨#[46]⟩ : ByteArray)) ++ t269)) else (none)) else (none)) else (none))))
def words_Amount.f (k : Nat) (a0 : Int) : Option (ByteArray) := if a0 < 0 then (words_Amount.j0 k (⟨#[45]⟩ : ByteArray) (IntKind.u64.wrap (-(IntKind.u64.wrap (a0))))) else (words_Amount.j0 k (⟨#[]⟩ : ByteArray) (IntKind.u64.wrap (a0)))
set_option maxHeartbeats 8000000 in
set_option maxRecDepth 100000 in
theorem words_Amount.calls (k : Nat) (a0 : Int) (r : ByteArray) (w : World) (hT : Tabs w) (h : words_Amount.f k a0 = some r) :
  Calls Tryz.prog 76 #[.int .i64 a0] w fun e w' => e = .returned (.string r) ∧ Below w.heap.size w w' := by
 have HB := Aside0.mk (Below.refl w.heap.size w)
 have HT := Aside0.mk hT
 clear hT
 have H : (if a0 < 0 then (words_Amount.j0 k (⟨#[45]⟩ : ByteArray) (IntKind.u64.wrap (-(IntKind.u64.wrap (a0))))) else (words_Amount.j0 k (⟨#[]⟩ : ByteArray) (IntKind.u64.wrap (a0)))) = some r := h
 clear h
 have HC2 := Aside0.mk H
 clear H
 go_enter Tryz.func76, Tryz.ntmps76
 go_upto_if 9 with (fail)
 go_cut [3, 4] (fun v3 v4 wc => ∃ (kq : Nat) (x3_1 : ByteArray) (x4_1 : Int), v3 = .string x3_1 ∧ v4 = .int .u64 x4_1 ∧ Aside0 (words_Amount.j0 kq x3_1 x4_1 = some r) ∧ Aside0 (kq ≤ k) ∧ Aside0 (Below w.heap.size w wc))
 case first =>
  have H := HC2.out
  clear HC2
  by_cases c3 : a0 < 0
  ·rw [if_pos c3] at H
   have c3b0 : decide (a0 < 0) = true := decide_eq_true c3
   clear c3
   (first | rw [c3b0] | (simp only [i64_w, i32_w]; rw [c3b0]) | skip)
   have H' := Aside0.mk H
   clear H
   go_wp2
   go_meet
   case rel => exact ⟨_, ((⟨#[45]⟩ : ByteArray)), (IntKind.u64.wrap (-(IntKind.u64.wrap (a0)))), (by first | rfl | (simp [*]; done)), (by first | rfl | (simp [*]; done)), H', ⟨by first | omega | exact Nat.le_refl _⟩, ⟨by repeat (first | (with_reducible first | exact HB.out | apply below_alloc | apply pw_below_drewN | apply below_drew1) | exact HB.out)⟩⟩
  ·rw [if_neg c3] at H
   have c3b0 : decide (a0 < 0) = false := decide_eq_false c3
   clear c3
   (first | rw [c3b0] | (simp only [i64_w, i32_w]; rw [c3b0]) | skip)
   have H' := Aside0.mk H
   clear H
   go_wp2
   go_meet
   case rel => exact ⟨_, ((⟨#[]⟩ : ByteArray)), (IntKind.u64.wrap (a0)), (by first | rfl | (simp [*]; done)), (by first | rfl | (simp [*]; done)), H', ⟨by first | omega | exact Nat.le_refl _⟩, ⟨by repeat (first | (with_reducible first | exact HB.out | apply below_alloc | apply pw_below_drewN | apply below_drew1) | exact HB.out)⟩⟩
 case rest =>
  clear HC2
  try clear p2
  try clear c3
  try clear c3b0
  obtain ⟨kq, x3_1, x4_1, rfl, rfl, HA, HJ1, HB⟩ := hcut
  cases kq with
  | zero => exact absurd HA.out (by simp [words_Amount.j0])
  | succ kj1 =>
   have H := HA.out
   clear HA
   simp only [words_Amount.j0] at H
   replace H := Option.bind_eq_some_iff.mp H
   obtain ⟨t269, A40, H⟩ := H
   replace H : (if (Int.tmod x4_1 100) < 10 then (if 1 + t269.size ≤ 9223372036854775807 then ((strconv_FormatUint_116.f (IntKind.u64.wrap (Int.tdiv x4_1 100)) 10).bind fun t270 => (if x3_1.size + t270.size ≤ 9223372036854775807 then (if (x3_1 ++ t270).size + 1 ≤ 9223372036854775807 then (if ((x3_1 ++ t270) ++ (⟨#[46]⟩ : ByteArray)).size + ((⟨#[48]⟩ : ByteArray) ++ t269).size ≤ 9223372036854775807 then (some (((x3_1 ++ t270) ++ (⟨#[46]⟩ : ByteArray)) ++ ((⟨#[48]⟩ : ByteArray) ++ t269))) else (none)) else (none)) else (none))) else (none)) else ((strconv_FormatUint_116.f (IntKind.u64.wrap (Int.tdiv x4_1 100)) 10).bind fun t271 => (if x3_1.size + t271.size ≤ 9223372036854775807 then (if (x3_1 ++ t271).size + 1 ≤ 9223372036854775807 then (if ((x3_1 ++ t271) ++ (⟨#[46]⟩ : ByteArray)).size + t269.size ≤ 9223372036854775807 then (some (((x3_1 ++ t271) ++ (⟨#[46]⟩ : ByteArray)) ++ t269)) else (none)) else (none)) else (none)))) = some r := H
   have A4 := Aside0.mk A40
   clear A40
   by_cases c5 : (Int.tmod x4_1 100) < 10
   ·rw [if_pos c5] at H
    have c5b0 : decide ((Int.tmod x4_1 100) < 10) = true := decide_eq_true c5
    clear c5
    by_cases c6 : 1 + t269.size ≤ 9223372036854775807
    ·rw [if_pos c6] at H
     have c6b0 := eq_true c6
     have c6b1 : decide (1 + t269.size ≤ 9223372036854775807) = true := decide_eq_true c6
     try have c6b2 : (9223372036854775807 < 1 + t269.size) = False := eq_false (Nat.not_lt.2 c6)
     replace H := Option.bind_eq_some_iff.mp H
     obtain ⟨t270, A70, H⟩ := H
     replace H : (if x3_1.size + t270.size ≤ 9223372036854775807 then (if (x3_1 ++ t270).size + 1 ≤ 9223372036854775807 then (if ((x3_1 ++ t270) ++ (⟨#[46]⟩ : ByteArray)).size + ((⟨#[48]⟩ : ByteArray) ++ t269).size ≤ 9223372036854775807 then (some (((x3_1 ++ t270) ++ (⟨#[46]⟩ : ByteArray)) ++ ((⟨#[48]⟩ : ByteArray) ++ t269))) else (none)) else (none)) else (none)) = some r := H
     have A7 := Aside0.mk A70
     clear A70
     by_cases c8 : x3_1.size + t270.size ≤ 9223372036854775807
     ·rw [if_pos c8] at H
      have c8b0 := eq_true c8
      have c8b1 : decide (x3_1.size + t270.size ≤ 9223372036854775807) = true := decide_eq_true c8
      try have c8b2 : (9223372036854775807 < x3_1.size + t270.size) = False := eq_false (Nat.not_lt.2 c8)
      by_cases c9 : (x3_1 ++ t270).size + 1 ≤ 9223372036854775807
      ·rw [if_pos c9] at H
       have c9b0 := eq_true c9
       have c9b1 : decide ((x3_1 ++ t270).size + 1 ≤ 9223372036854775807) = true := decide_eq_true c9
       try have c9b2 : (9223372036854775807 < (x3_1 ++ t270).size + 1) = False := eq_false (Nat.not_lt.2 c9)
       (try have c9b3 : (9223372036854775807 < x3_1.size + t270.size + 1) = False := eq_false (Nat.not_lt.2 (Nat.le_trans (Nat.le_of_eq (by simp only [ByteArray.size_append] <;> first | rfl | exact Nat.add_assoc _ _ _ | exact congrArg (· + 1) (Nat.add_assoc _ _ _))) c9)))
       (try have c9b4 : (x3_1.size + t270.size + 1 ≤ 9223372036854775807) = True := eq_true (Nat.le_trans (Nat.le_of_eq (by simp only [ByteArray.size_append] <;> first | rfl | exact Nat.add_assoc _ _ _ | exact congrArg (· + 1) (Nat.add_assoc _ _ _))) c9))
       by_cases c10 : ((x3_1 ++ t270) ++ (⟨#[46]⟩ : ByteArray)).size + ((⟨#[48]⟩ : ByteArray) ++ t269).size ≤ 9223372036854775807
       ·rw [if_pos c10] at H
        have c10b0 := eq_true c10
        have c10b1 : decide (((x3_1 ++ t270) ++ (⟨#[46]⟩ : ByteArray)).size + ((⟨#[48]⟩ : ByteArray) ++ t269).size ≤ 9223372036854775807) = true := decide_eq_true c10
        try have c10b2 : (9223372036854775807 < ((x3_1 ++ t270) ++ (⟨#[46]⟩ : ByteArray)).size + ((⟨#[48]⟩ : ByteArray) ++ t269).size) = False := eq_false (Nat.not_lt.2 c10)
        (try have c10b3 : (9223372036854775807 < x3_1.size + t270.size + 1 + 1 + t269.size) = False := eq_false (Nat.not_lt.2 (Nat.le_trans (Nat.le_of_eq (by simp only [ByteArray.size_append] <;> first | rfl | exact Nat.add_assoc _ _ _ | exact congrArg (· + 1) (Nat.add_assoc _ _ _))) c10)))
        (try have c10b4 : (x3_1.size + t270.size + 1 + 1 + t269.size ≤ 9223372036854775807) = True := eq_true (Nat.le_trans (Nat.le_of_eq (by simp only [ByteArray.size_append] <;> first | rfl | exact Nat.add_assoc _ _ _ | exact congrArg (· + 1) (Nat.add_assoc _ _ _))) c10))
        (try have c10b5 : (9223372036854775807 < x3_1.size + t270.size + 1 + (1 + t269.size)) = False := eq_false (Nat.not_lt.2 (Nat.le_trans (Nat.le_of_eq (by simp only [ByteArray.size_append] <;> rfl)) c10)))
        (try have c10b6 : (x3_1.size + t270.size + 1 + (1 + t269.size) ≤ 9223372036854775807) = True := eq_true (Nat.le_trans (Nat.le_of_eq (by simp only [ByteArray.size_append] <;> rfl)) c10))
        obtain rfl := Option.some.inj H
        go_wp2_with (first | ((with_reducible refine gate_callee (f := 116) rfl ?_); refine goesL_ (some 14) rfl rfl Tryz.func116 (by kernel_rfl) rfl #[.int .u64 (Int.tmod x4_1 100), .int .i64 10] rfl (by (try simp only [List.map_toArray, List.map_cons, List.map_nil]); first | done | rfl | (simp only [List.length_drop, List.length_take]; rfl)) ?_; (with_reducible refine (strconv_FormatUint_116.calls (Int.tmod x4_1 100) 10 t269 _ ?side1 A4.out).mono ?_); (case side1 => first | (with_reducible exact HT.out) | (with_reducible exact HT.out.below HB.out) | (with_reducible refine Tabs.below HT.out ?_; repeat (first | (with_reducible first | exact HB.out | apply below_alloc | apply pw_below_drewN | apply below_drew1) | exact HB.out))); rintro e w11 ⟨rfl, hb⟩; refine ⟨_, rfl, ?_⟩; have n0_ := Aside0.mk (below_step (by repeat (first | (with_reducible first | exact HB.out | apply below_alloc | apply pw_below_drewN | apply below_drew1) | exact HB.out)) hb); clear HB; have HB := n0_; clear n0_; (try clear hb); (try clear hb2); (try clear hk); (try clear hi)) | ((with_reducible refine gate_callee (f := 116) rfl ?_); refine goesL_ (some 23) rfl rfl Tryz.func116 (by kernel_rfl) rfl #[.int .u64 (IntKind.u64.wrap (Int.tdiv x4_1 100)), .int .i64 10] rfl (by (try simp only [List.map_toArray, List.map_cons, List.map_nil]); first | done | rfl | (simp only [List.length_drop, List.length_take]; rfl)) ?_; (with_reducible refine (strconv_FormatUint_116.calls (IntKind.u64.wrap (Int.tdiv x4_1 100)) 10 t270 _ ?side1 A7.out).mono ?_); (case side1 => first | (with_reducible exact HT.out) | (with_reducible exact HT.out.below HB.out) | (with_reducible refine Tabs.below HT.out ?_; repeat (first | (with_reducible first | exact HB.out | apply below_alloc | apply pw_below_drewN | apply below_drew1) | exact HB.out))); rintro e w12 ⟨rfl, hb⟩; refine ⟨_, rfl, ?_⟩; have n0_ := Aside0.mk (below_step (by repeat (first | (with_reducible first | exact HB.out | apply below_alloc | apply pw_below_drewN | apply below_drew1) | exact HB.out)) hb); clear HB; have HB := n0_; clear n0_; (try clear hb); (try clear hb2); (try clear hk); (try clear hi)))
        go_ret
        exact ⟨by first | rfl | (simp [errW_none, errW_some] <;> rfl) | (simp [*, errW_none, errW_some] <;> rfl), by repeat (first | (with_reducible first | exact HB.out | apply below_alloc | apply pw_below_drewN | apply below_drew1) | exact HB.out)⟩
       ·rw [if_neg c10] at H
        exact absurd H (by simp)
      ·rw [if_neg c9] at H
       exact absurd H (by simp)
     ·rw [if_neg c8] at H
      exact absurd H (by simp)
    ·rw [if_neg c6] at H
     exact absurd H (by simp)
   ·rw [if_neg c5] at H
    have c5b0 : decide ((Int.tmod x4_1 100) < 10) = false := decide_eq_false c5
    clear c5
    replace H := Option.bind_eq_some_iff.mp H
    obtain ⟨t271, A130, H⟩ := H
    replace H : (if x3_1.size + t271.size ≤ 9223372036854775807 then (if (x3_1 ++ t271).size + 1 ≤ 9223372036854775807 then (if ((x3_1 ++ t271) ++ (⟨#[46]⟩ : ByteArray)).size + t269.size ≤ 9223372036854775807 then (some (((x3_1 ++ t271) ++ (⟨#[46]⟩ : ByteArray)) ++ t269)) else (none)) else (none)) else (none)) = some r := H
    have A13 := Aside0.mk A130
    clear A130
    by_cases c14 : x3_1.size + t271.size ≤ 9223372036854775807
    ·rw [if_pos c14] at H
     have c14b0 := eq_true c14
     have c14b1 : decide (x3_1.size + t271.size ≤ 9223372036854775807) = true := decide_eq_true c14
     try have c14b2 : (9223372036854775807 < x3_1.size + t271.size) = False := eq_false (Nat.not_lt.2 c14)
     by_cases c15 : (x3_1 ++ t271).size + 1 ≤ 9223372036854775807
     ·rw [if_pos c15] at H
      have c15b0 := eq_true c15
      have c15b1 : decide ((x3_1 ++ t271).size + 1 ≤ 9223372036854775807) = true := decide_eq_true c15
      try have c15b2 : (9223372036854775807 < (x3_1 ++ t271).size + 1) = False := eq_false (Nat.not_lt.2 c15)
      (try have c15b3 : (9223372036854775807 < x3_1.size + t271.size + 1) = False := eq_false (Nat.not_lt.2 (Nat.le_trans (Nat.le_of_eq (by simp only [ByteArray.size_append] <;> first | rfl | exact Nat.add_assoc _ _ _ | exact congrArg (· + 1) (Nat.add_assoc _ _ _))) c15)))
      (try have c15b4 : (x3_1.size + t271.size + 1 ≤ 9223372036854775807) = True := eq_true (Nat.le_trans (Nat.le_of_eq (by simp only [ByteArray.size_append] <;> first | rfl | exact Nat.add_assoc _ _ _ | exact congrArg (· + 1) (Nat.add_assoc _ _ _))) c15))
      by_cases c16 : ((x3_1 ++ t271) ++ (⟨#[46]⟩ : ByteArray)).size + t269.size ≤ 9223372036854775807
      ·rw [if_pos c16] at H
       have c16b0 := eq_true c16
       have c16b1 : decide (((x3_1 ++ t271) ++ (⟨#[46]⟩ : ByteArray)).size + t269.size ≤ 9223372036854775807) = true := decide_eq_true c16
       try have c16b2 : (9223372036854775807 < ((x3_1 ++ t271) ++ (⟨#[46]⟩ : ByteArray)).size + t269.size) = False := eq_false (Nat.not_lt.2 c16)
       (try have c16b3 : (9223372036854775807 < x3_1.size + t271.size + 1 + t269.size) = False := eq_false (Nat.not_lt.2 (Nat.le_trans (Nat.le_of_eq (by simp only [ByteArray.size_append] <;> first | rfl | exact Nat.add_assoc _ _ _ | exact congrArg (· + 1) (Nat.add_assoc _ _ _))) c16)))
       (try have c16b4 : (x3_1.size + t271.size + 1 + t269.size ≤ 9223372036854775807) = True := eq_true (Nat.le_trans (Nat.le_of_eq (by simp only [ByteArray.size_append] <;> first | rfl | exact Nat.add_assoc _ _ _ | exact congrArg (· + 1) (Nat.add_assoc _ _ _))) c16))
       obtain rfl := Option.some.inj H
       go_wp2_with (first | ((with_reducible refine gate_callee (f := 116) rfl ?_); refine goesL_ (some 14) rfl rfl Tryz.func116 (by kernel_rfl) rfl #[.int .u64 (Int.tmod x4_1 100), .int .i64 10] rfl (by (try simp only [List.map_toArray, List.map_cons, List.map_nil]); first | done | rfl | (simp only [List.length_drop, List.length_take]; rfl)) ?_; (with_reducible refine (strconv_FormatUint_116.calls (Int.tmod x4_1 100) 10 t269 _ ?side1 A4.out).mono ?_); (case side1 => first | (with_reducible exact HT.out) | (with_reducible exact HT.out.below HB.out) | (with_reducible refine Tabs.below HT.out ?_; repeat (first | (with_reducible first | exact HB.out | apply below_alloc | apply pw_below_drewN | apply below_drew1) | exact HB.out))); rintro e w17 ⟨rfl, hb⟩; refine ⟨_, rfl, ?_⟩; have n0_ := Aside0.mk (below_step (by repeat (first | (with_reducible first | exact HB.out | apply below_alloc | apply pw_below_drewN | apply below_drew1) | exact HB.out)) hb); clear HB; have HB := n0_; clear n0_; (try clear hb); (try clear hb2); (try clear hk); (try clear hi)) | ((with_reducible refine gate_callee (f := 116) rfl ?_); refine goesL_ (some 23) rfl rfl Tryz.func116 (by kernel_rfl) rfl #[.int .u64 (IntKind.u64.wrap (Int.tdiv x4_1 100)), .int .i64 10] rfl (by (try simp only [List.map_toArray, List.map_cons, List.map_nil]); first | done | rfl | (simp only [List.length_drop, List.length_take]; rfl)) ?_; (with_reducible refine (strconv_FormatUint_116.calls (IntKind.u64.wrap (Int.tdiv x4_1 100)) 10 t271 _ ?side1 A13.out).mono ?_); (case side1 => first | (with_reducible exact HT.out) | (with_reducible exact HT.out.below HB.out) | (with_reducible refine Tabs.below HT.out ?_; repeat (first | (with_reducible first | exact HB.out | apply below_alloc | apply pw_below_drewN | apply below_drew1) | exact HB.out))); rintro e w18 ⟨rfl, hb⟩; refine ⟨_, rfl, ?_⟩; have n0_ := Aside0.mk (below_step (by repeat (first | (with_reducible first | exact HB.out | apply below_alloc | apply pw_below_drewN | apply below_drew1) | exact HB.out)) hb); clear HB; have HB := n0_; clear n0_; (try clear hb); (try clear hb2); (try clear hk); (try clear hi)))
       go_ret
       exact ⟨by first | rfl | (simp [errW_none, errW_some] <;> rfl) | (simp [*, errW_none, errW_some] <;> rfl), by repeat (first | (with_reducible first | exact HB.out | apply below_alloc | apply pw_below_drewN | apply below_drew1) | exact HB.out)⟩
      ·rw [if_neg c16] at H
       exact absurd H (by simp)
     ·rw [if_neg c15] at H
      exact absurd H (by simp)
    ·rw [if_neg c14] at H
     exact absurd H (by simp)
end Go.Proofs.YtjlclkenfmbahaaGreatDoor.PA
