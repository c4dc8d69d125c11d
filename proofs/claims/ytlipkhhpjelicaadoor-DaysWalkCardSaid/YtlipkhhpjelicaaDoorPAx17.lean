/- The Go functions of this seat that the laws of part A come to, each as a plain Lean function ('f', its loops 'l0' ..) with a proof that the call comes to its answer. Conditions: where a function comes to a package-level table, the world holds that table ('Tabs'). Written by a program of this session (a changed copy of the print). -/
import Derived.Test.YtlipkhhpjelicaaDoorPAx0
import Derived.Test.YtlipkhhpjelicaaDoorPAx7
namespace Go.Proofs.YtlipkhhpjelicaaDoor.PA
open Go.RowKit Go.Proofs.YtlipkhhpjelicaaDoorW.PrintWords Go.Proofs.YtlipkhhpjelicaaDoorW.PrintLast Go.Proofs.YtlipkhhpjelicaaDoorW.PrintMore
attribute [local go_sem] max2_int min2_int max_two min_two max_three min_three max_four min_four   -- for this text's walks alone
set_option linter.unusedVariables false
set_option linter.unusedSimpArgs false

/-! ### levyref2_digits: function 51 -/
def levyref2_digits.l0 : Nat → Int → Int → ByteArray → Int → Option (ByteArray)
  | 0, _, _, _, _ => none
  | k + 1, x0, x1, x5, x6 => if x6 < x1 then (if 0 ≤ (Int.tmod x0 10) then (if (Int.tmod x0 10) ≤ (wrap64 ((Int.tmod x0 10) + 1)) then (if (wrap64 ((Int.tmod x0 10) + 1)) ≤ 10 then (if ((⟨#[48, 49, 50, 51, 52, 53, 54, 55, 56, 57]⟩ : ByteArray).extract ((Int.tmod x0 10) : Int).toNat ((wrap64 ((Int.tmod x0 10) + 1)) : Int).toNat).size + x5.size ≤ 9223372036854775807 then (levyref2_digits.l0 k (wrap64 (Int.tdiv x0 10)) x1 (((⟨#[48, 49, 50, 51, 52, 53, 54, 55, 56, 57]⟩ : ByteArray).extract ((Int.tmod x0 10) : Int).toNat ((wrap64 ((Int.tmod x0 10) + 1)) : Int).toNat) ++ x5) (wrap64 (x6 + 1))) else (none)) else (none)) else (none)) else (none)) else (some x5)
def levyref2_digits.f (k : Nat) (a0 : Int) (a1 : Int) : Option (ByteArray) := levyref2_digits.l0 k a0 a1 (⟨#[]⟩ : ByteArray) 0
theorem levyref2_digits.mono_l : ∀ k, (∀ y0 y1 y2 y3, LeO (levyref2_digits.l0 k y0 y1 y2 y3) (levyref2_digits.l0 (k + 1) y0 y1 y2 y3))
  | 0 => fun _ _ _ _ r h => by simp [levyref2_digits.l0] at h
  | k + 1 => by
    have ih0 := levyref2_digits.mono_l k
    · intro y0 y1 y2 y3
      unfold levyref2_digits.l0
      repeat' first
      | (with_reducible exact ih0 _ _ _ _)
      | (with_reducible exact LeO.refl _)
      | (with_reducible exact LeO.none _)
      | (with_reducible refine LeO.ite ?_ ?_)
      | (with_reducible refine LeO.bind ?_ (fun _ => ?_))
      | exact ih0 _ _ _ _
      | exact LeO.none _
      | refine LeO.ite ?_ ?_
      | refine LeO.bind ?_ (fun _ => ?_)
theorem levyref2_digits.mono : ∀ a0 a1 k, LeO (levyref2_digits.f k a0 a1) (levyref2_digits.f (k + 1) a0 a1) := by
  intro a0 a1 k
  have ih0 := levyref2_digits.mono_l k
  unfold levyref2_digits.f
  repeat' first
      | (with_reducible exact ih0 _ _ _ _)
      | (with_reducible exact LeO.refl _)
      | (with_reducible exact LeO.none _)
      | (with_reducible refine LeO.ite ?_ ?_)
      | (with_reducible refine LeO.bind ?_ (fun _ => ?_))
      | exact ih0 _ _ _ _
      | exact LeO.none _
      | refine LeO.ite ?_ ?_
      | refine LeO.bind ?_ (fun _ => ?_)
set_option maxHeartbeats 8000000 in
set_option maxRecDepth 100000 in
theorem levyref2_digits.calls (k : Nat) (a0 : Int) (a1 : Int) (r : ByteArray) (w : World) (h : levyref2_digits.f k a0 a1 = some r) :
    Calls Tryd.prog 51 #[.int .i64 a0, .int .i64 a1] w fun e w' => e = .returned (.string r) ∧ Drawn0 w w' := by
  have H : (levyref2_digits.l0 k a0 a1 (⟨#[]⟩ : ByteArray) 0) = some r := h
  clear h
  have H' := Aside0.mk H
  clear H
  go_enter Tryd.func51, Tryd.ntmps51
  go_wp2
  go_loopg [0, 5, 6] k (fun kq v0 v5 v6 w' => ∃ (x0_1 : Int) (x5_1 : ByteArray) (x6_1 : Int), v0 = .int .i64 x0_1 ∧ v5 = .string x5_1 ∧ v6 = .int .i64 x6_1 ∧ Aside0 (levyref2_digits.l0 kq x0_1 a1 x5_1 x6_1 = some r) ∧ Aside0 (kq ≤ k) ∧ Drawn0 w w')
  case atStart => exact ⟨(a0), ((⟨#[]⟩ : ByteArray)), (0), (by first | rfl | (simp; done) | (simp [*]; done)), (by first | rfl | (simp; done) | (simp [*]; done)), (by first | rfl | (simp; done) | (simp [*]; done)), H', ⟨Nat.le_refl _⟩, by repeat (first | exact Drawn0.refl _ | apply Drawn0.step)⟩
  case round =>
    clear H'
    try clear p2
    obtain ⟨x0_1, x5_1, x6_1, rfl, rfl, rfl, HA, HK1, ⟨m1, rfl⟩⟩ := hrel
    cases gk with
    | zero => exact absurd HA.out (by simp [levyref2_digits.l0])
    | succ k1 =>
      have H := HA.out
      clear HA
      simp only [levyref2_digits.l0] at H
      by_cases c3 : x6_1 < a1
      · rw [if_pos c3] at H
        have c3b0 : decide (x6_1 < a1) = true := decide_eq_true c3
        clear c3
        obtain ⟨ji4, hji4⟩ : ∃ j_ : Int, (Int.tmod x0_1 10) = j_ := ⟨_, rfl⟩
        replace H : (if 0 ≤ (ji4) then (if (ji4) ≤ (wrap64 ((ji4) + 1)) then (if (wrap64 ((ji4) + 1)) ≤ 10 then (if ((⟨#[48, 49, 50, 51, 52, 53, 54, 55, 56, 57]⟩ : ByteArray).extract ((ji4) : Int).toNat ((wrap64 ((ji4) + 1)) : Int).toNat).size + x5_1.size ≤ 9223372036854775807 then (levyref2_digits.l0 k1 (wrap64 (Int.tdiv x0_1 10)) a1 (((⟨#[48, 49, 50, 51, 52, 53, 54, 55, 56, 57]⟩ : ByteArray).extract ((ji4) : Int).toNat ((wrap64 ((ji4) + 1)) : Int).toNat) ++ x5_1) (wrap64 (x6_1 + 1))) else (none)) else (none)) else (none)) else (none)) = some r := by first | (rw [hji4] at H; exact H) | (simp only [hji4] at H ⊢; exact H)
        by_cases c5 : 0 ≤ (ji4)
        · rw [if_pos c5] at H
          have c5b0 := eq_true c5
          have c5b1 : decide (0 ≤ (ji4)) = true := decide_eq_true c5
          clear c5
          by_cases c6 : (ji4) ≤ (wrap64 ((ji4) + 1))
          · rw [if_pos c6] at H
            have c6b0 := eq_true c6
            have c6b1 : decide ((ji4) ≤ (wrap64 ((ji4) + 1))) = true := decide_eq_true c6
            by_cases c7 : (wrap64 ((ji4) + 1)) ≤ 10
            · rw [if_pos c7] at H
              have c7b0 := eq_true c7
              have c7b1 : decide ((wrap64 ((ji4) + 1)) ≤ 10) = true := decide_eq_true c7
              by_cases c8 : ((⟨#[48, 49, 50, 51, 52, 53, 54, 55, 56, 57]⟩ : ByteArray).extract ((ji4) : Int).toNat ((wrap64 ((ji4) + 1)) : Int).toNat).size + x5_1.size ≤ 9223372036854775807
              · rw [if_pos c8] at H
                have c8b0 := eq_true c8
                have c8b1 : decide (((⟨#[48, 49, 50, 51, 52, 53, 54, 55, 56, 57]⟩ : ByteArray).extract ((ji4) : Int).toNat ((wrap64 ((ji4) + 1)) : Int).toNat).size + x5_1.size ≤ 9223372036854775807) = true := decide_eq_true c8
                try have c8b2 : (9223372036854775807 < ((⟨#[48, 49, 50, 51, 52, 53, 54, 55, 56, 57]⟩ : ByteArray).extract ((ji4) : Int).toNat ((wrap64 ((ji4) + 1)) : Int).toNat).size + x5_1.size) = False := eq_false (Nat.not_lt.2 c8)
                have H' := Aside0.mk H
                clear H
                go_wp2
                go_roundg k1
                case measure => have := HK1.out; omega
                case rel => exact ⟨(wrap64 (Int.tdiv x0_1 10)), (((⟨#[48, 49, 50, 51, 52, 53, 54, 55, 56, 57]⟩ : ByteArray).extract ((ji4) : Int).toNat ((wrap64 ((ji4) + 1)) : Int).toNat) ++ x5_1), (wrap64 (x6_1 + 1)), (by first | rfl | (simp; done) | (simp [*]; done)), (by first | rfl | (simp; done) | (simp only [← hji4] <;> (first | rfl | simp)) | (simp [*]; done)), (by first | rfl | (simp; done) | (simp [*]; done)), H', ⟨by have := HK1.out; omega⟩, by repeat (first | exact Drawn0.refl _ | apply Drawn0.step)⟩
              · rw [if_neg c8] at H
                exact absurd H (by simp)
            · rw [if_neg c7] at H
              exact absurd H (by simp)
          · rw [if_neg c6] at H
            exact absurd H (by simp)
        · rw [if_neg c5] at H
          exact absurd H (by simp)
      · rw [if_neg c3] at H
        have c3b0 : decide (x6_1 < a1) = false := decide_eq_false c3
        clear c3
        obtain rfl := Option.some.inj H
        go_wp2
        go_ret
        exact ⟨by first | rfl | (simp; done) | (simp [*]; done), by repeat (first | exact Drawn0.refl _ | apply Drawn0.step)⟩

/-! ### levyref2_Print: function 26 -/
def levyref2_Print.f (k : Nat) (a0 : Int) : Option (ByteArray × Int) := (levyref2_Date.f k a0).bind fun bt251 => (if bt251.2.2.2 = 0 then ((levyref2_digits.f k bt251.1 4).bind fun t255 => (if t255.size + 1 ≤ 9223372036854775807 then ((levyref2_digits.f k bt251.2.1 2).bind fun t256 => (if (t255 ++ (⟨#[45]⟩ : ByteArray)).size + t256.size ≤ 9223372036854775807 then (if ((t255 ++ (⟨#[45]⟩ : ByteArray)) ++ t256).size + 1 ≤ 9223372036854775807 then ((levyref2_digits.f k bt251.2.2.1 2).bind fun t257 => (if (((t255 ++ (⟨#[45]⟩ : ByteArray)) ++ t256) ++ (⟨#[45]⟩ : ByteArray)).size + t257.size ≤ 9223372036854775807 then (some ((((t255 ++ (⟨#[45]⟩ : ByteArray)) ++ t256) ++ (⟨#[45]⟩ : ByteArray)) ++ t257, 0)) else (none))) else (none)) else (none))) else (none))) else (some ((⟨#[]⟩ : ByteArray), bt251.2.2.2)))
theorem levyref2_Print.mono : ∀ a0 k, LeO (levyref2_Print.f k a0) (levyref2_Print.f (k + 1) a0) := by
  intro a0 k
  unfold levyref2_Print.f
  repeat' first
      | (with_reducible exact levyref2_Date.mono _ _)
      | (with_reducible exact levyref2_digits.mono _ _ _)
      | (with_reducible exact LeO.refl _)
      | (with_reducible exact LeO.none _)
      | (with_reducible refine LeO.ite ?_ ?_)
      | (with_reducible refine LeO.bind ?_ (fun _ => ?_))
      | exact levyref2_Date.mono _ _
      | exact levyref2_digits.mono _ _ _
      | exact LeO.none _
      | refine LeO.ite ?_ ?_
      | refine LeO.bind ?_ (fun _ => ?_)
set_option maxHeartbeats 8000000 in
set_option maxRecDepth 100000 in
theorem levyref2_Print.calls (k : Nat) (a0 : Int) (r1 : ByteArray) (r2 : Int) (w : World) (h : levyref2_Print.f k a0 = some (r1, r2)) :
    Calls Tryd.prog 26 #[.int .i64 a0] w fun e w' => e = .returned (.tuple #[.string r1, .int .i64 r2]) ∧ Drawn0 w w' := by
  have H : ((levyref2_Date.f k a0).bind fun bt251 => (if bt251.2.2.2 = 0 then ((levyref2_digits.f k bt251.1 4).bind fun t255 => (if t255.size + 1 ≤ 9223372036854775807 then ((levyref2_digits.f k bt251.2.1 2).bind fun t256 => (if (t255 ++ (⟨#[45]⟩ : ByteArray)).size + t256.size ≤ 9223372036854775807 then (if ((t255 ++ (⟨#[45]⟩ : ByteArray)) ++ t256).size + 1 ≤ 9223372036854775807 then ((levyref2_digits.f k bt251.2.2.1 2).bind fun t257 => (if (((t255 ++ (⟨#[45]⟩ : ByteArray)) ++ t256) ++ (⟨#[45]⟩ : ByteArray)).size + t257.size ≤ 9223372036854775807 then (some ((((t255 ++ (⟨#[45]⟩ : ByteArray)) ++ t256) ++ (⟨#[45]⟩ : ByteArray)) ++ t257, 0)) else (none))) else (none)) else (none))) else (none))) else (some ((⟨#[]⟩ : ByteArray), bt251.2.2.2)))) = some (r1, r2) := h
  clear h
  replace H := Option.bind_eq_some_iff.mp H
  obtain ⟨⟨t251, t252, t253, t254⟩, A20, H⟩ := H
  replace H : (if t254 = 0 then ((levyref2_digits.f k t251 4).bind fun t255 => (if t255.size + 1 ≤ 9223372036854775807 then ((levyref2_digits.f k t252 2).bind fun t256 => (if (t255 ++ (⟨#[45]⟩ : ByteArray)).size + t256.size ≤ 9223372036854775807 then (if ((t255 ++ (⟨#[45]⟩ : ByteArray)) ++ t256).size + 1 ≤ 9223372036854775807 then ((levyref2_digits.f k t253 2).bind fun t257 => (if (((t255 ++ (⟨#[45]⟩ : ByteArray)) ++ t256) ++ (⟨#[45]⟩ : ByteArray)).size + t257.size ≤ 9223372036854775807 then (some ((((t255 ++ (⟨#[45]⟩ : ByteArray)) ++ t256) ++ (⟨#[45]⟩ : ByteArray)) ++ t257, 0)) else (none))) else (none)) else (none))) else (none))) else (some ((⟨#[]⟩ : ByteArray), t254))) = some (r1, r2) := H
  have A2 := Aside0.mk A20
  clear A20
  by_cases c3 : t254 = 0
  · rw [if_pos c3] at H
    have c3b0 : (t254 == 0) = true := beq_iff_eq.mpr c3
    have c3b1 : (t254 != 0) = false := bne_eq_false_iff_eq.mpr c3
    clear c3
    replace H := Option.bind_eq_some_iff.mp H
    obtain ⟨t255, A40, H⟩ := H
    replace H : (if t255.size + 1 ≤ 9223372036854775807 then ((levyref2_digits.f k t252 2).bind fun t256 => (if (t255 ++ (⟨#[45]⟩ : ByteArray)).size + t256.size ≤ 9223372036854775807 then (if ((t255 ++ (⟨#[45]⟩ : ByteArray)) ++ t256).size + 1 ≤ 9223372036854775807 then ((levyref2_digits.f k t253 2).bind fun t257 => (if (((t255 ++ (⟨#[45]⟩ : ByteArray)) ++ t256) ++ (⟨#[45]⟩ : ByteArray)).size + t257.size ≤ 9223372036854775807 then (some ((((t255 ++ (⟨#[45]⟩ : ByteArray)) ++ t256) ++ (⟨#[45]⟩ : ByteArray)) ++ t257, 0)) else (none))) else (none)) else (none))) else (none)) = some (r1, r2) := H
    have A4 := Aside0.mk A40
    clear A40
    by_cases c5 : t255.size + 1 ≤ 9223372036854775807
    · rw [if_pos c5] at H
      have c5b0 := eq_true c5
      have c5b1 : decide (t255.size + 1 ≤ 9223372036854775807) = true := decide_eq_true c5
      try have c5b2 : (9223372036854775807 < t255.size + 1) = False := eq_false (Nat.not_lt.2 c5)
      replace H := Option.bind_eq_some_iff.mp H
      obtain ⟨t256, A60, H⟩ := H
      replace H : (if (t255 ++ (⟨#[45]⟩ : ByteArray)).size + t256.size ≤ 9223372036854775807 then (if ((t255 ++ (⟨#[45]⟩ : ByteArray)) ++ t256).size + 1 ≤ 9223372036854775807 then ((levyref2_digits.f k t253 2).bind fun t257 => (if (((t255 ++ (⟨#[45]⟩ : ByteArray)) ++ t256) ++ (⟨#[45]⟩ : ByteArray)).size + t257.size ≤ 9223372036854775807 then (some ((((t255 ++ (⟨#[45]⟩ : ByteArray)) ++ t256) ++ (⟨#[45]⟩ : ByteArray)) ++ t257, 0)) else (none))) else (none)) else (none)) = some (r1, r2) := H
      have A6 := Aside0.mk A60
      clear A60
      by_cases c7 : (t255 ++ (⟨#[45]⟩ : ByteArray)).size + t256.size ≤ 9223372036854775807
      · rw [if_pos c7] at H
        have c7b0 := eq_true c7
        have c7b1 : decide ((t255 ++ (⟨#[45]⟩ : ByteArray)).size + t256.size ≤ 9223372036854775807) = true := decide_eq_true c7
        try have c7b2 : (9223372036854775807 < (t255 ++ (⟨#[45]⟩ : ByteArray)).size + t256.size) = False := eq_false (Nat.not_lt.2 c7)
        (try have c7b3 : (9223372036854775807 < t255.size + 1 + t256.size) = False := eq_false (Nat.not_lt.2 (Nat.le_trans (Nat.le_of_eq (by simp only [ByteArray.size_append] <;> rfl)) c7)))
        (try have c7b4 : (t255.size + 1 + t256.size ≤ 9223372036854775807) = True := eq_true (Nat.le_trans (Nat.le_of_eq (by simp only [ByteArray.size_append] <;> rfl)) c7))
        by_cases c8 : ((t255 ++ (⟨#[45]⟩ : ByteArray)) ++ t256).size + 1 ≤ 9223372036854775807
        · rw [if_pos c8] at H
          have c8b0 := eq_true c8
          have c8b1 : decide (((t255 ++ (⟨#[45]⟩ : ByteArray)) ++ t256).size + 1 ≤ 9223372036854775807) = true := decide_eq_true c8
          try have c8b2 : (9223372036854775807 < ((t255 ++ (⟨#[45]⟩ : ByteArray)) ++ t256).size + 1) = False := eq_false (Nat.not_lt.2 c8)
          (try have c8b3 : (9223372036854775807 < t255.size + 1 + t256.size + 1) = False := eq_false (Nat.not_lt.2 (Nat.le_trans (Nat.le_of_eq (by simp only [ByteArray.size_append] <;> rfl)) c8)))
          (try have c8b4 : (t255.size + 1 + t256.size + 1 ≤ 9223372036854775807) = True := eq_true (Nat.le_trans (Nat.le_of_eq (by simp only [ByteArray.size_append] <;> rfl)) c8))
          replace H := Option.bind_eq_some_iff.mp H
          obtain ⟨t257, A90, H⟩ := H
          replace H : (if (((t255 ++ (⟨#[45]⟩ : ByteArray)) ++ t256) ++ (⟨#[45]⟩ : ByteArray)).size + t257.size ≤ 9223372036854775807 then (some ((((t255 ++ (⟨#[45]⟩ : ByteArray)) ++ t256) ++ (⟨#[45]⟩ : ByteArray)) ++ t257, 0)) else (none)) = some (r1, r2) := H
          have A9 := Aside0.mk A90
          clear A90
          by_cases c10 : (((t255 ++ (⟨#[45]⟩ : ByteArray)) ++ t256) ++ (⟨#[45]⟩ : ByteArray)).size + t257.size ≤ 9223372036854775807
          · rw [if_pos c10] at H
            have c10b0 := eq_true c10
            have c10b1 : decide ((((t255 ++ (⟨#[45]⟩ : ByteArray)) ++ t256) ++ (⟨#[45]⟩ : ByteArray)).size + t257.size ≤ 9223372036854775807) = true := decide_eq_true c10
            try have c10b2 : (9223372036854775807 < (((t255 ++ (⟨#[45]⟩ : ByteArray)) ++ t256) ++ (⟨#[45]⟩ : ByteArray)).size + t257.size) = False := eq_false (Nat.not_lt.2 c10)
            (try have c10b3 : (9223372036854775807 < t255.size + 1 + t256.size + 1 + t257.size) = False := eq_false (Nat.not_lt.2 (Nat.le_trans (Nat.le_of_eq (by simp only [ByteArray.size_append] <;> rfl)) c10)))
            (try have c10b4 : (t255.size + 1 + t256.size + 1 + t257.size ≤ 9223372036854775807) = True := eq_true (Nat.le_trans (Nat.le_of_eq (by simp only [ByteArray.size_append] <;> rfl)) c10))
            simp only [Option.some.injEq, Prod.mk.injEq] at H
            obtain ⟨rfl, rfl⟩ := H
            go_enter Tryd.func26, Tryd.ntmps26
            go_wp2_with (first | ((with_reducible refine gate_callee (f := 22) rfl ?_); refine goesL_ (some 10) rfl rfl Tryd.func22 (by kernel_rfl) rfl #[.int .i64 a0] rfl (by (try simp only [List.map_toArray, List.map_cons, List.map_nil]); first | done | rfl | (simp only [List.length_drop, List.length_take]; rfl)) ?_; (with_reducible refine (levyref2_Date.calls k a0 t251 t252 t253 t254 _ A2.out).mono ?_); rintro e w' ⟨rfl, ⟨nd, rfl⟩⟩; refine ⟨_, rfl, ?_⟩) | ((with_reducible refine gate_callee (f := 51) rfl ?_); refine goesL_ (some 19) rfl rfl Tryd.func51 (by kernel_rfl) rfl #[.int .i64 t251, .int .i64 4] rfl (by (try simp only [List.map_toArray, List.map_cons, List.map_nil]); first | done | rfl | (simp only [List.length_drop, List.length_take]; rfl)) ?_; (with_reducible refine (levyref2_digits.calls k t251 4 t255 _ A4.out).mono ?_); rintro e w' ⟨rfl, ⟨nd, rfl⟩⟩; refine ⟨_, rfl, ?_⟩) | ((with_reducible refine gate_callee (f := 51) rfl ?_); refine goesL_ (some 22) rfl rfl Tryd.func51 (by kernel_rfl) rfl #[.int .i64 t252, .int .i64 2] rfl (by (try simp only [List.map_toArray, List.map_cons, List.map_nil]); first | done | rfl | (simp only [List.length_drop, List.length_take]; rfl)) ?_; (with_reducible refine (levyref2_digits.calls k t252 2 t256 _ A6.out).mono ?_); rintro e w' ⟨rfl, ⟨nd, rfl⟩⟩; refine ⟨_, rfl, ?_⟩) | ((with_reducible refine gate_callee (f := 51) rfl ?_); refine goesL_ (some 26) rfl rfl Tryd.func51 (by kernel_rfl) rfl #[.int .i64 t253, .int .i64 2] rfl (by (try simp only [List.map_toArray, List.map_cons, List.map_nil]); first | done | rfl | (simp only [List.length_drop, List.length_take]; rfl)) ?_; (with_reducible refine (levyref2_digits.calls k t253 2 t257 _ A9.out).mono ?_); rintro e w' ⟨rfl, ⟨nd, rfl⟩⟩; refine ⟨_, rfl, ?_⟩))
            go_ret2
            exact ⟨by first | rfl | (simp; done) | (simp [*]; done), by repeat (first | exact Drawn0.refl _ | apply Drawn0.step)⟩
          · rw [if_neg c10] at H
            exact absurd H (by simp)
        · rw [if_neg c8] at H
          exact absurd H (by simp)
      · rw [if_neg c7] at H
        exact absurd H (by simp)
    · rw [if_neg c5] at H
      exact absurd H (by simp)
  · rw [if_neg c3] at H
    have c3b0 : (t254 == 0) = false := beq_eq_false_iff_ne.mpr c3
    have c3b1 : (t254 != 0) = true := bne_iff_ne.mpr c3
    simp only [Option.some.injEq, Prod.mk.injEq] at H
    obtain ⟨rfl, rfl⟩ := H
    go_enter Tryd.func26, Tryd.ntmps26
    go_wp2_with (first | ((with_reducible refine gate_callee (f := 22) rfl ?_); refine goesL_ (some 10) rfl rfl Tryd.func22 (by kernel_rfl) rfl #[.int .i64 a0] rfl (by (try simp only [List.map_toArray, List.map_cons, List.map_nil]); first | done | rfl | (simp only [List.length_drop, List.length_take]; rfl)) ?_; (with_reducible refine (levyref2_Date.calls k a0 t251 t252 t253 t254 _ A2.out).mono ?_); rintro e w' ⟨rfl, ⟨nd, rfl⟩⟩; refine ⟨_, rfl, ?_⟩))
    go_ret2
    exact ⟨by first | rfl | (simp; done) | (simp [*]; done), by repeat (first | exact Drawn0.refl _ | apply Drawn0.step)⟩

end Go.Proofs.YtlipkhhpjelicaaDoor.PA
