/- The Go functions of this seat that the laws of part A come to, each as a plain Lean function ('f', its loops 'l0' ..) with a proof that the call comes to its answer. Conditions: where a function comes to a package-level table, the world holds that table ('Tabs'). Written by a program of this session (a changed copy of the print). -/
import Derived.Test.YtplmledhcffedaaDoorPAx0
import Derived.Test.YtplmledhcffedaaDoorPAx4
namespace Go.Proofs.YtplmledhcffedaaDoor.PA
open Go.RowKit Go.Proofs.YtplmledhcffedaaDoorW.PrintWords Go.Proofs.YtplmledhcffedaaDoorW.PrintLast Go.Proofs.YtplmledhcffedaaDoorW.PrintMore
attribute [local go_sem] max2_int min2_int max_two min_two max_three min_three max_four min_four   -- for this text's walks alone
set_option linter.unusedVariables false
set_option linter.unusedSimpArgs false

/-! ### levyref4_Percent: function 5 -/
mutual
def levyref4_Percent.j0 : Nat → Int → Int → Bool → Option (ByteArray × Bool)
  | 0, _, _, _ => none
  | k + 1, x0, x1, x22 => if x22 = true then (some ((⟨#[]⟩ : ByteArray), false)) else (if x1 = 0 then (none) else ((levyref4_digitsOf.f k (wrap64 (Int.tdiv (wrap64 (100 * x0)) x1))).bind fun t135 => (levyref4_Percent.l0 k x1 t135 (Int.tmod (wrap64 (100 * x0)) x1) 0)))
def levyref4_Percent.l0 : Nat → Int → ByteArray → Int → Int → Option (ByteArray × Bool)
  | 0, _, _, _, _ => none
  | k + 1, x1, x6, x7, x8 => if x7 > 0 then (if x8 = 6 then (some ((⟨#[]⟩ : ByteArray), false)) else (if x8 = 0 then (if x6.size + 1 ≤ 9223372036854775807 then (if x1 = 0 then (none) else ((levyref4_digitsOf.f k (wrap64 (Int.tdiv (wrap64 (10 * x7)) x1))).bind fun t136 => (if (x6 ++ (⟨#[46]⟩ : ByteArray)).size + t136.size ≤ 9223372036854775807 then (levyref4_Percent.l0 k x1 ((x6 ++ (⟨#[46]⟩ : ByteArray)) ++ t136) (Int.tmod (wrap64 (10 * x7)) x1) (wrap64 (x8 + 1))) else (none)))) else (none)) else (if x1 = 0 then (none) else ((levyref4_digitsOf.f k (wrap64 (Int.tdiv (wrap64 (10 * x7)) x1))).bind fun t137 => (if x6.size + t137.size ≤ 9223372036854775807 then (levyref4_Percent.l0 k x1 (x6 ++ t137) (Int.tmod (wrap64 (10 * x7)) x1) (wrap64 (x8 + 1))) else (none)))))) else (if x6.size + 1 ≤ 9223372036854775807 then (some (x6 ++ (⟨#[37]⟩ : ByteArray), true)) else (none))
end
def levyref4_Percent.f (k : Nat) (a0 : Int) (a1 : Int) : Option (ByteArray × Bool) := if a0 < 0 then (levyref4_Percent.j0 k a0 a1 true) else (if a0 > 1000000000 then (levyref4_Percent.j0 k a0 a1 true) else (if a1 < 1 then (levyref4_Percent.j0 k a0 a1 true) else (levyref4_Percent.j0 k a0 a1 (decide (a1 > 1000000000)))))
theorem levyref4_Percent.mono_l : ∀ k, (∀ y0 y1 y2, LeO (levyref4_Percent.j0 k y0 y1 y2) (levyref4_Percent.j0 (k + 1) y0 y1 y2)) ∧ (∀ y0 y1 y2 y3, LeO (levyref4_Percent.l0 k y0 y1 y2 y3) (levyref4_Percent.l0 (k + 1) y0 y1 y2 y3))
  | 0 => ⟨fun _ _ _ r h => by simp [levyref4_Percent.j0] at h, fun _ _ _ _ r h => by simp [levyref4_Percent.l0] at h⟩
  | k + 1 => by
    obtain ⟨ih0, ih1⟩ := levyref4_Percent.mono_l k
    refine ⟨?_, ?_⟩
    · intro y0 y1 y2
      unfold levyref4_Percent.j0
      repeat' first
      | (with_reducible exact ih0 _ _ _)
      | (with_reducible exact ih1 _ _ _ _)
      | (with_reducible exact levyref4_digitsOf.mono _ _)
      | (with_reducible exact LeO.refl _)
      | (with_reducible exact LeO.none _)
      | (with_reducible refine LeO.ite ?_ ?_)
      | (with_reducible refine LeO.bind ?_ (fun _ => ?_))
      | exact ih0 _ _ _
      | exact ih1 _ _ _ _
      | exact levyref4_digitsOf.mono _ _
      | exact LeO.none _
      | refine LeO.ite ?_ ?_
      | refine LeO.bind ?_ (fun _ => ?_)
    · intro y0 y1 y2 y3
      unfold levyref4_Percent.l0
      repeat' first
      | (with_reducible exact ih0 _ _ _)
      | (with_reducible exact ih1 _ _ _ _)
      | (with_reducible exact levyref4_digitsOf.mono _ _)
      | (with_reducible exact LeO.refl _)
      | (with_reducible exact LeO.none _)
      | (with_reducible refine LeO.ite ?_ ?_)
      | (with_reducible refine LeO.bind ?_ (fun _ => ?_))
      | exact ih0 _ _ _
      | exact ih1 _ _ _ _
      | exact levyref4_digitsOf.mono _ _
      | exact LeO.none _
      | refine LeO.ite ?_ ?_
      | refine LeO.bind ?_ (fun _ => ?_)
theorem levyref4_Percent.mono : ∀ a0 a1 k, LeO (levyref4_Percent.f k a0 a1) (levyref4_Percent.f (k + 1) a0 a1) := by
  intro a0 a1 k
  obtain ⟨ih0, ih1⟩ := levyref4_Percent.mono_l k
  unfold levyref4_Percent.f
  repeat' first
      | (with_reducible exact ih0 _ _ _)
      | (with_reducible exact ih1 _ _ _ _)
      | (with_reducible exact levyref4_digitsOf.mono _ _)
      | (with_reducible exact LeO.refl _)
      | (with_reducible exact LeO.none _)
      | (with_reducible refine LeO.ite ?_ ?_)
      | (with_reducible refine LeO.bind ?_ (fun _ => ?_))
      | exact ih0 _ _ _
      | exact ih1 _ _ _ _
      | exact levyref4_digitsOf.mono _ _
      | exact LeO.none _
      | refine LeO.ite ?_ ?_
      | refine LeO.bind ?_ (fun _ => ?_)
set_option maxHeartbeats 8000000 in
set_option maxRecDepth 100000 in
theorem levyref4_Percent.calls (k : Nat) (a0 : Int) (a1 : Int) (r1 : ByteArray) (r2 : Bool) (w : World) (h : levyref4_Percent.f k a0 a1 = some (r1, r2)) :
    Calls Tryd.prog 5 #[.int .i64 a0, .int .i64 a1] w fun e w' => e = .returned (.tuple #[.string r1, .bool r2]) ∧ Below w.heap.size w w' := by
  have HB := Aside0.mk (Below.refl w.heap.size w)
  have H : (if a0 < 0 then (levyref4_Percent.j0 k a0 a1 true) else (if a0 > 1000000000 then (levyref4_Percent.j0 k a0 a1 true) else (if a1 < 1 then (levyref4_Percent.j0 k a0 a1 true) else (levyref4_Percent.j0 k a0 a1 (decide (a1 > 1000000000)))))) = some (r1, r2) := h
  clear h
  have HC3 := Aside0.mk H
  clear H
  go_enter Tryd.func5, Tryd.ntmps5
  go_upto_region 1 with (fail)
  go_cut [22] (fun v22 wc => ∃ (kq : Nat) (x22_2 : Bool), v22 = .bool x22_2 ∧ Aside0 (levyref4_Percent.j0 kq a0 a1 x22_2 = some (r1, r2)) ∧ Aside0 (kq ≤ k) ∧ Aside0 (Below w.heap.size w wc))
  case first =>
    have H := HC3.out
    clear HC3
    by_cases c4 : a0 < 0
    · rw [if_pos c4] at H
      have c4b0 : decide (a0 < 0) = true := decide_eq_true c4
      clear c4
      (first | rw [c4b0] | (simp only [i64_w, i32_w]; rw [c4b0]) | skip)
      have H' := Aside0.mk H
      clear H
      go_wp2
      go_meet
      case rel => exact ⟨_, (true), (by first | rfl | (simp; done) | (simp [*]; done)), H', ⟨by first | omega | exact Nat.le_refl _⟩, ⟨by repeat (first | (with_reducible first | exact HB.out | apply below_alloc | apply pw_below_drewN | apply below_drew1) | exact HB.out)⟩⟩
    · rw [if_neg c4] at H
      have c4b0 : decide (a0 < 0) = false := decide_eq_false c4
      clear c4
      (first | rw [c4b0] | (simp only [i64_w, i32_w]; rw [c4b0]) | skip)
      by_cases c5 : a0 > 1000000000
      · rw [if_pos c5] at H
        have c5b0 : decide (1000000000 < a0) = true := decide_eq_true c5
        clear c5
        have H' := Aside0.mk H
        clear H
        go_wp2
        go_meet
        case rel => exact ⟨_, (true), (by first | rfl | (simp; done) | (simp [*]; done)), H', ⟨by first | omega | exact Nat.le_refl _⟩, ⟨by repeat (first | (with_reducible first | exact HB.out | apply below_alloc | apply pw_below_drewN | apply below_drew1) | exact HB.out)⟩⟩
      · rw [if_neg c5] at H
        have c5b0 : decide (1000000000 < a0) = false := decide_eq_false c5
        clear c5
        by_cases c6 : a1 < 1
        · rw [if_pos c6] at H
          have c6b0 : decide (a1 < 1) = true := decide_eq_true c6
          clear c6
          have H' := Aside0.mk H
          clear H
          go_wp2
          go_meet
          case rel => exact ⟨_, (true), (by first | rfl | (simp; done) | (simp [*]; done)), H', ⟨by first | omega | exact Nat.le_refl _⟩, ⟨by repeat (first | (with_reducible first | exact HB.out | apply below_alloc | apply pw_below_drewN | apply below_drew1) | exact HB.out)⟩⟩
        · rw [if_neg c6] at H
          have c6b0 : decide (a1 < 1) = false := decide_eq_false c6
          clear c6
          have H' := Aside0.mk H
          clear H
          go_wp2
          go_meet
          case rel => exact ⟨_, (decide (a1 > 1000000000)), (by first | rfl | (simp; done) | (simp [*]; done)), H', ⟨by first | omega | exact Nat.le_refl _⟩, ⟨by repeat (first | (with_reducible first | exact HB.out | apply below_alloc | apply pw_below_drewN | apply below_drew1) | exact HB.out)⟩⟩
  case rest =>
    clear HC3
    try clear p2
    try clear c4
    try clear c4b0
    try clear c5
    try clear c5b0
    try clear c6
    try clear c6b0
    obtain ⟨kq, x22_2, rfl, HA, HJ2, HB⟩ := hcut
    cases kq with
    | zero => exact absurd HA.out (by simp [levyref4_Percent.j0])
    | succ kj2 =>
      have H := HA.out
      clear HA
      simp only [levyref4_Percent.j0] at H
      by_cases c7 : x22_2 = true
      · subst c7
        have H1 : (some ((⟨#[]⟩ : ByteArray), false)) = some (r1, r2) := by rw [if_pos rfl] at H; exact H
        clear H
        have H := H1
        clear H1
        simp only [Option.some.injEq, Prod.mk.injEq] at H
        obtain ⟨rfl, rfl⟩ := H
        go_wp2
        go_ret2
        exact ⟨by first | rfl | (simp [errW_none, errW_some] <;> rfl) | (simp [*, errW_none, errW_some] <;> rfl), by repeat (first | (with_reducible first | exact HB.out | apply below_alloc | apply pw_below_drewN | apply below_drew1) | exact HB.out)⟩
      · replace c7 := Bool.eq_false_iff.mpr c7
        subst c7
        have H1 : (if a1 = 0 then (none) else ((levyref4_digitsOf.f kj2 (wrap64 (Int.tdiv (wrap64 (100 * a0)) a1))).bind fun t135 => (levyref4_Percent.l0 kj2 a1 t135 (Int.tmod (wrap64 (100 * a0)) a1) 0))) = some (r1, r2) := by rw [if_neg (show ¬ (false = true) by decide)] at H; exact H
        clear H
        have H := H1
        clear H1
        by_cases c8 : a1 = 0
        · rw [if_pos c8] at H
          exact absurd H (by simp)
        · rw [if_neg c8] at H
          have c8b0 : (a1 == 0) = false := beq_eq_false_iff_ne.mpr c8
          have c8b1 : (a1 != 0) = true := bne_iff_ne.mpr c8
          replace H := Option.bind_eq_some_iff.mp H
          obtain ⟨t135, A90, H⟩ := H
          replace H : (levyref4_Percent.l0 kj2 a1 t135 (Int.tmod (wrap64 (100 * a0)) a1) 0) = some (r1, r2) := H
          have A9 := Aside0.mk A90
          clear A90
          have H' := Aside0.mk H
          clear H
          go_wp2_with (first | ((with_reducible refine gate_callee (f := 12) rfl ?_); refine goesL_ (some 27) rfl rfl Tryd.func12 (by kernel_rfl) rfl #[.int .i64 (wrap64 (Int.tdiv (wrap64 (100 * a0)) a1))] rfl (by (try simp only [List.map_toArray, List.map_cons, List.map_nil]); first | done | rfl | (simp only [List.length_drop, List.length_take]; rfl)) ?_; (with_reducible refine (levyref4_digitsOf.calls kj2 (wrap64 (Int.tdiv (wrap64 (100 * a0)) a1)) t135 _ A9.out).mono ?_); rintro e w10 ⟨rfl, hb⟩; refine ⟨_, rfl, ?_⟩; have n0_ := Aside0.mk (below_step (by repeat (first | (with_reducible first | exact HB.out | apply below_alloc | apply pw_below_drewN | apply below_drew1) | exact HB.out)) hb); clear HB; have HB := n0_; clear n0_; (try clear hb); (try clear hb2); (try clear hk); (try clear hi)))
          go_loopg [6, 7, 8] kj2 (fun kq v6 v7 v8 w' => ∃ (x6_2 : ByteArray) (x7_2 : Int) (x8_2 : Int), v6 = .string x6_2 ∧ v7 = .int .i64 x7_2 ∧ v8 = .int .i64 x8_2 ∧ Aside0 (levyref4_Percent.l0 kq a1 x6_2 x7_2 x8_2 = some (r1, r2)) ∧ Aside0 (kq ≤ kj2) ∧ Aside0 (Below w.heap.size w w'))
          case atStart => exact ⟨(t135), (Int.tmod (wrap64 (100 * a0)) a1), (0), (by first | rfl | (simp; done) | (simp [*]; done)), (by first | rfl | (simp; done) | (simp [*]; done)), (by first | rfl | (simp; done) | (simp [*]; done)), H', ⟨Nat.le_refl _⟩, ⟨by repeat (first | (with_reducible first | exact HB.out | apply below_alloc | apply pw_below_drewN | apply below_drew1) | exact HB.out)⟩⟩
          case round =>
            clear H'
            try clear c1
            try clear p2
            try clear c4
            try clear c4b0
            try clear c5
            try clear c5b0
            try clear c6
            try clear c6b0
            try clear p6
            try clear c7
            try clear c8
            try clear c8b0
            try clear c8b1
            try clear p2
            obtain ⟨x6_2, x7_2, x8_2, rfl, rfl, rfl, HA, HK2, HB⟩ := hrel
            cases gk with
            | zero => exact absurd HA.out (by simp [levyref4_Percent.l0])
            | succ k2 =>
              have H := HA.out
              clear HA
              simp only [levyref4_Percent.l0] at H
              by_cases c11 : x7_2 > 0
              · rw [if_pos c11] at H
                have c11b0 : decide (0 < x7_2) = true := decide_eq_true c11
                clear c11
                by_cases c12 : x8_2 = 6
                · rw [if_pos c12] at H
                  have c12b0 : (x8_2 == 6) = true := beq_iff_eq.mpr c12
                  have c12b1 : (x8_2 != 6) = false := bne_eq_false_iff_eq.mpr c12
                  clear c12
                  simp only [Option.some.injEq, Prod.mk.injEq] at H
                  obtain ⟨rfl, rfl⟩ := H
                  go_wp2
                  go_ret2
                  exact ⟨by first | rfl | (simp [errW_none, errW_some] <;> rfl) | (simp [*, errW_none, errW_some] <;> rfl), by repeat (first | (with_reducible first | exact HB.out | apply below_alloc | apply pw_below_drewN | apply below_drew1) | exact HB.out)⟩
                · rw [if_neg c12] at H
                  have c12b0 : (x8_2 == 6) = false := beq_eq_false_iff_ne.mpr c12
                  have c12b1 : (x8_2 != 6) = true := bne_iff_ne.mpr c12
                  by_cases c13 : x8_2 = 0
                  · rw [if_pos c13] at H
                    have c13b0 : (x8_2 == 0) = true := beq_iff_eq.mpr c13
                    have c13b1 : (x8_2 != 0) = false := bne_eq_false_iff_eq.mpr c13
                    clear c13
                    by_cases c14 : x6_2.size + 1 ≤ 9223372036854775807
                    · rw [if_pos c14] at H
                      have c14b0 := eq_true c14
                      have c14b1 : decide (x6_2.size + 1 ≤ 9223372036854775807) = true := decide_eq_true c14
                      try have c14b2 : (9223372036854775807 < x6_2.size + 1) = False := eq_false (Nat.not_lt.2 c14)
                      by_cases c15 : a1 = 0
                      · rw [if_pos c15] at H
                        exact absurd H (by simp)
                      · rw [if_neg c15] at H
                        have c15b0 : (a1 == 0) = false := beq_eq_false_iff_ne.mpr c15
                        have c15b1 : (a1 != 0) = true := bne_iff_ne.mpr c15
                        replace H := Option.bind_eq_some_iff.mp H
                        obtain ⟨t136, A160, H⟩ := H
                        replace H : (if (x6_2 ++ (⟨#[46]⟩ : ByteArray)).size + t136.size ≤ 9223372036854775807 then (levyref4_Percent.l0 k2 a1 ((x6_2 ++ (⟨#[46]⟩ : ByteArray)) ++ t136) (Int.tmod (wrap64 (10 * x7_2)) a1) (wrap64 (x8_2 + 1))) else (none)) = some (r1, r2) := H
                        have A16 := Aside0.mk A160
                        clear A160
                        by_cases c17 : (x6_2 ++ (⟨#[46]⟩ : ByteArray)).size + t136.size ≤ 9223372036854775807
                        · rw [if_pos c17] at H
                          have c17b0 := eq_true c17
                          have c17b1 : decide ((x6_2 ++ (⟨#[46]⟩ : ByteArray)).size + t136.size ≤ 9223372036854775807) = true := decide_eq_true c17
                          try have c17b2 : (9223372036854775807 < (x6_2 ++ (⟨#[46]⟩ : ByteArray)).size + t136.size) = False := eq_false (Nat.not_lt.2 c17)
                          (try have c17b3 : (9223372036854775807 < x6_2.size + 1 + t136.size) = False := eq_false (Nat.not_lt.2 (Nat.le_trans (Nat.le_of_eq (by simp only [ByteArray.size_append] <;> first | rfl | exact Nat.add_assoc _ _ _ | exact congrArg (· + 1) (Nat.add_assoc _ _ _))) c17)))
                          (try have c17b4 : (x6_2.size + 1 + t136.size ≤ 9223372036854775807) = True := eq_true (Nat.le_trans (Nat.le_of_eq (by simp only [ByteArray.size_append] <;> first | rfl | exact Nat.add_assoc _ _ _ | exact congrArg (· + 1) (Nat.add_assoc _ _ _))) c17))
                          have H' := Aside0.mk H
                          clear H
                          go_wp2_with (first | ((with_reducible refine gate_callee (f := 12) rfl ?_); refine goesL_ (some 47) rfl rfl Tryd.func12 (by kernel_rfl) rfl #[.int .i64 (wrap64 (Int.tdiv (wrap64 (10 * x7_2)) a1))] rfl (by (try simp only [List.map_toArray, List.map_cons, List.map_nil]); first | done | rfl | (simp only [List.length_drop, List.length_take]; rfl)) ?_; (with_reducible refine (levyref4_digitsOf.calls k2 (wrap64 (Int.tdiv (wrap64 (10 * x7_2)) a1)) t136 _ A16.out).mono ?_); rintro e w18 ⟨rfl, hb⟩; refine ⟨_, rfl, ?_⟩; have n0_ := Aside0.mk (below_step (by repeat (first | (with_reducible first | exact HB.out | apply below_alloc | apply pw_below_drewN | apply below_drew1) | exact HB.out)) hb); clear HB; have HB := n0_; clear n0_; (try clear hb); (try clear hb2); (try clear hk); (try clear hi)))
                          go_roundg k2
                          case measure => have := HJ2.out; have := HK2.out; omega
                          case rel => exact ⟨((x6_2 ++ (⟨#[46]⟩ : ByteArray)) ++ t136), (Int.tmod (wrap64 (10 * x7_2)) a1), (wrap64 (x8_2 + 1)), (by first | rfl | (simp; done) | (simp [*]; done)), (by first | rfl | (simp; done) | (simp [*]; done)), (by first | rfl | (simp; done) | (simp [*]; done)), H', ⟨by have := HJ2.out; have := HK2.out; omega⟩, ⟨by repeat (first | (with_reducible first | exact HB.out | apply below_alloc | apply pw_below_drewN | apply below_drew1) | exact HB.out)⟩⟩
                        · rw [if_neg c17] at H
                          exact absurd H (by simp)
                    · rw [if_neg c14] at H
                      exact absurd H (by simp)
                  · rw [if_neg c13] at H
                    have c13b0 : (x8_2 == 0) = false := beq_eq_false_iff_ne.mpr c13
                    have c13b1 : (x8_2 != 0) = true := bne_iff_ne.mpr c13
                    by_cases c19 : a1 = 0
                    · rw [if_pos c19] at H
                      exact absurd H (by simp)
                    · rw [if_neg c19] at H
                      have c19b0 : (a1 == 0) = false := beq_eq_false_iff_ne.mpr c19
                      have c19b1 : (a1 != 0) = true := bne_iff_ne.mpr c19
                      replace H := Option.bind_eq_some_iff.mp H
                      obtain ⟨t137, A200, H⟩ := H
                      replace H : (if x6_2.size + t137.size ≤ 9223372036854775807 then (levyref4_Percent.l0 k2 a1 (x6_2 ++ t137) (Int.tmod (wrap64 (10 * x7_2)) a1) (wrap64 (x8_2 + 1))) else (none)) = some (r1, r2) := H
                      have A20 := Aside0.mk A200
                      clear A200
                      by_cases c21 : x6_2.size + t137.size ≤ 9223372036854775807
                      · rw [if_pos c21] at H
                        have c21b0 := eq_true c21
                        have c21b1 : decide (x6_2.size + t137.size ≤ 9223372036854775807) = true := decide_eq_true c21
                        try have c21b2 : (9223372036854775807 < x6_2.size + t137.size) = False := eq_false (Nat.not_lt.2 c21)
                        have H' := Aside0.mk H
                        clear H
                        go_wp2_with (first | ((with_reducible refine gate_callee (f := 12) rfl ?_); refine goesL_ (some 47) rfl rfl Tryd.func12 (by kernel_rfl) rfl #[.int .i64 (wrap64 (Int.tdiv (wrap64 (10 * x7_2)) a1))] rfl (by (try simp only [List.map_toArray, List.map_cons, List.map_nil]); first | done | rfl | (simp only [List.length_drop, List.length_take]; rfl)) ?_; (with_reducible refine (levyref4_digitsOf.calls k2 (wrap64 (Int.tdiv (wrap64 (10 * x7_2)) a1)) t137 _ A20.out).mono ?_); rintro e w22 ⟨rfl, hb⟩; refine ⟨_, rfl, ?_⟩; have n0_ := Aside0.mk (below_step (by repeat (first | (with_reducible first | exact HB.out | apply below_alloc | apply pw_below_drewN | apply below_drew1) | exact HB.out)) hb); clear HB; have HB := n0_; clear n0_; (try clear hb); (try clear hb2); (try clear hk); (try clear hi)))
                        go_roundg k2
                        case measure => have := HJ2.out; have := HK2.out; omega
                        case rel => exact ⟨(x6_2 ++ t137), (Int.tmod (wrap64 (10 * x7_2)) a1), (wrap64 (x8_2 + 1)), (by first | rfl | (simp; done) | (simp [*]; done)), (by first | rfl | (simp; done) | (simp [*]; done)), (by first | rfl | (simp; done) | (simp [*]; done)), H', ⟨by have := HJ2.out; have := HK2.out; omega⟩, ⟨by repeat (first | (with_reducible first | exact HB.out | apply below_alloc | apply pw_below_drewN | apply below_drew1) | exact HB.out)⟩⟩
                      · rw [if_neg c21] at H
                        exact absurd H (by simp)
              · rw [if_neg c11] at H
                have c11b0 : decide (0 < x7_2) = false := decide_eq_false c11
                clear c11
                by_cases c23 : x6_2.size + 1 ≤ 9223372036854775807
                · rw [if_pos c23] at H
                  have c23b0 := eq_true c23
                  have c23b1 : decide (x6_2.size + 1 ≤ 9223372036854775807) = true := decide_eq_true c23
                  try have c23b2 : (9223372036854775807 < x6_2.size + 1) = False := eq_false (Nat.not_lt.2 c23)
                  simp only [Option.some.injEq, Prod.mk.injEq] at H
                  obtain ⟨rfl, rfl⟩ := H
                  go_wp2
                  go_ret2
                  exact ⟨by first | rfl | (simp [errW_none, errW_some] <;> rfl) | (simp [*, errW_none, errW_some] <;> rfl), by repeat (first | (with_reducible first | exact HB.out | apply below_alloc | apply pw_below_drewN | apply below_drew1) | exact HB.out)⟩
                · rw [if_neg c23] at H
                  exact absurd H (by simp)

end Go.Proofs.YtplmledhcffedaaDoor.PA
