/- The Go functions of this seat that the laws of part A come to, each as a plain Lean function ('f', its loops 'l0' ..) with a proof that the call comes to its answer. Conditions: where a function comes to a package-level table, the world holds that table ('Tabs'). Written by a program of this session (a changed copy of the print). -/
import Derived.Test.YtplmledhcffedaaDoorPAx0
namespace Go.Proofs.YtplmledhcffedaaDoor.PA
open Go.RowKit Go.Proofs.YtplmledhcffedaaDoorW.PrintWords Go.Proofs.YtplmledhcffedaaDoorW.PrintLast Go.Proofs.YtplmledhcffedaaDoorW.PrintMore
attribute [local go_sem] max2_int min2_int max_two min_two max_three min_three max_four min_four   -- for this text's walks alone
set_option linter.unusedVariables false
set_option linter.unusedSimpArgs false

/-! ### levyref4_Quote: function 7 -/
mutual
def levyref4_Quote.l0 : Nat → ByteArray → ByteArray → Int → Option (ByteArray × Bool)
  | 0, _, _, _ => none
  | k + 1, x0, x4, x5 => if x5 < (x0.size : Int) then (if 0 ≤ x5 then (if (bt x0 x5) < 32 then (levyref4_Quote.j1 k x0 x4 x5 true) else (levyref4_Quote.j1 k x0 x4 x5 (decide ((bt x0 x5) > 126)))) else (none)) else (if x4.size + 1 ≤ 9223372036854775807 then (some (x4 ++ (⟨#[34]⟩ : ByteArray), true)) else (none))
def levyref4_Quote.j1 : Nat → ByteArray → ByteArray → Int → Bool → Option (ByteArray × Bool)
  | 0, _, _, _, _ => none
  | k + 1, x0, x4, x5, x24 => if x24 = true then (some ((⟨#[]⟩ : ByteArray), false)) else (if 0 ≤ x5 then (if x5 < (x0.size : Int) then (if (bt x0 x5) = 34 then (if x4.size + 1 ≤ 9223372036854775807 then (if x5 ≤ (wrap64 (x5 + 1)) then (if (wrap64 (x5 + 1)) ≤ (x0.size : Int) then (if (x4 ++ (⟨#[92]⟩ : ByteArray)).size + (x0.extract (x5 : Int).toNat ((wrap64 (x5 + 1)) : Int).toNat).size ≤ 9223372036854775807 then (levyref4_Quote.l0 k x0 ((x4 ++ (⟨#[92]⟩ : ByteArray)) ++ (x0.extract (x5 : Int).toNat ((wrap64 (x5 + 1)) : Int).toNat)) (wrap64 (x5 + 1))) else (none)) else (none)) else (none)) else (none)) else (if (bt x0 x5) = 92 then (if x4.size + 1 ≤ 9223372036854775807 then (if x5 ≤ (wrap64 (x5 + 1)) then (if (wrap64 (x5 + 1)) ≤ (x0.size : Int) then (if (x4 ++ (⟨#[92]⟩ : ByteArray)).size + (x0.extract (x5 : Int).toNat ((wrap64 (x5 + 1)) : Int).toNat).size ≤ 9223372036854775807 then (levyref4_Quote.l0 k x0 ((x4 ++ (⟨#[92]⟩ : ByteArray)) ++ (x0.extract (x5 : Int).toNat ((wrap64 (x5 + 1)) : Int).toNat)) (wrap64 (x5 + 1))) else (none)) else (none)) else (none)) else (none)) else (if x5 ≤ (wrap64 (x5 + 1)) then (if (wrap64 (x5 + 1)) ≤ (x0.size : Int) then (if x4.size + (x0.extract (x5 : Int).toNat ((wrap64 (x5 + 1)) : Int).toNat).size ≤ 9223372036854775807 then (levyref4_Quote.l0 k x0 (x4 ++ (x0.extract (x5 : Int).toNat ((wrap64 (x5 + 1)) : Int).toNat)) (wrap64 (x5 + 1))) else (none)) else (none)) else (none)))) else (none)) else (none))
end
def levyref4_Quote.f (k : Nat) (a0 : ByteArray) : Option (ByteArray × Bool) := if (a0.size : Int) > 40 then (some ((⟨#[]⟩ : ByteArray), false)) else (levyref4_Quote.l0 k a0 (⟨#[34]⟩ : ByteArray) 0)
theorem levyref4_Quote.mono_l : ∀ k, (∀ y0 y1 y2, LeO (levyref4_Quote.l0 k y0 y1 y2) (levyref4_Quote.l0 (k + 1) y0 y1 y2)) ∧ (∀ y0 y1 y2 y3, LeO (levyref4_Quote.j1 k y0 y1 y2 y3) (levyref4_Quote.j1 (k + 1) y0 y1 y2 y3))
  | 0 => ⟨fun _ _ _ r h => by simp [levyref4_Quote.l0] at h, fun _ _ _ _ r h => by simp [levyref4_Quote.j1] at h⟩
  | k + 1 => by
    obtain ⟨ih0, ih1⟩ := levyref4_Quote.mono_l k
    refine ⟨?_, ?_⟩
    · intro y0 y1 y2
      unfold levyref4_Quote.l0
      repeat' first
      | (with_reducible exact ih0 _ _ _)
      | (with_reducible exact ih1 _ _ _ _)
      | (with_reducible exact LeO.refl _)
      | (with_reducible exact LeO.none _)
      | (with_reducible refine LeO.ite ?_ ?_)
      | (with_reducible refine LeO.bind ?_ (fun _ => ?_))
      | exact ih0 _ _ _
      | exact ih1 _ _ _ _
      | exact LeO.none _
      | refine LeO.ite ?_ ?_
      | refine LeO.bind ?_ (fun _ => ?_)
    · intro y0 y1 y2 y3
      unfold levyref4_Quote.j1
      repeat' first
      | (with_reducible exact ih0 _ _ _)
      | (with_reducible exact ih1 _ _ _ _)
      | (with_reducible exact LeO.refl _)
      | (with_reducible exact LeO.none _)
      | (with_reducible refine LeO.ite ?_ ?_)
      | (with_reducible refine LeO.bind ?_ (fun _ => ?_))
      | exact ih0 _ _ _
      | exact ih1 _ _ _ _
      | exact LeO.none _
      | refine LeO.ite ?_ ?_
      | refine LeO.bind ?_ (fun _ => ?_)
theorem levyref4_Quote.mono : ∀ a0 k, LeO (levyref4_Quote.f k a0) (levyref4_Quote.f (k + 1) a0) := by
  intro a0 k
  obtain ⟨ih0, ih1⟩ := levyref4_Quote.mono_l k
  unfold levyref4_Quote.f
  repeat' first
      | (with_reducible exact ih0 _ _ _)
      | (with_reducible exact ih1 _ _ _ _)
      | (with_reducible exact LeO.refl _)
      | (with_reducible exact LeO.none _)
      | (with_reducible refine LeO.ite ?_ ?_)
      | (with_reducible refine LeO.bind ?_ (fun _ => ?_))
      | exact ih0 _ _ _
      | exact ih1 _ _ _ _
      | exact LeO.none _
      | refine LeO.ite ?_ ?_
      | refine LeO.bind ?_ (fun _ => ?_)
set_option maxHeartbeats 8000000 in
set_option maxRecDepth 100000 in
theorem levyref4_Quote.calls (k : Nat) (a0 : ByteArray) (r1 : ByteArray) (r2 : Bool) (w : World) (h : levyref4_Quote.f k a0 = some (r1, r2)) :
    Calls Tryd.prog 7 #[.string a0] w fun e w' => e = .returned (.tuple #[.string r1, .bool r2]) ∧ Drawn0 w w' := by
  have H : (if (a0.size : Int) > 40 then (some ((⟨#[]⟩ : ByteArray), false)) else (levyref4_Quote.l0 k a0 (⟨#[34]⟩ : ByteArray) 0)) = some (r1, r2) := h
  clear h
  by_cases c2 : (a0.size : Int) > 40
  · rw [if_pos c2] at H
    have c2b0 : decide (40 < (a0.size : Int)) = true := decide_eq_true c2
    have c2b1 : decide (40 < a0.size) = true := decide_eq_true (by omega)
    clear c2
    simp only [Option.some.injEq, Prod.mk.injEq] at H
    obtain ⟨rfl, rfl⟩ := H
    go_enter Tryd.func7, Tryd.ntmps7
    go_wp2
    go_ret2
    exact ⟨by first | rfl | (simp; done) | (simp [*]; done), by repeat (first | exact Drawn0.refl _ | apply Drawn0.step)⟩
  · rw [if_neg c2] at H
    have c2b0 : decide (40 < (a0.size : Int)) = false := decide_eq_false c2
    have c2b1 : decide (40 < a0.size) = false := decide_eq_false (by omega)
    clear c2
    have H' := Aside0.mk H
    clear H
    go_enter Tryd.func7, Tryd.ntmps7
    go_wp2
    go_loopg [4, 5] k (fun kq v4 v5 w' => ∃ (x4_1 : ByteArray) (x5_1 : Int), v4 = .string x4_1 ∧ v5 = .int .i64 x5_1 ∧ Aside0 (levyref4_Quote.l0 kq a0 x4_1 x5_1 = some (r1, r2)) ∧ Aside0 (kq ≤ k) ∧ Drawn0 w w')
    case atStart => exact ⟨((⟨#[34]⟩ : ByteArray)), (0), (by first | rfl | (simp; done) | (simp [*]; done)), (by first | rfl | (simp; done) | (simp [*]; done)), H', ⟨Nat.le_refl _⟩, by repeat (first | exact Drawn0.refl _ | apply Drawn0.step)⟩
    case round =>
      clear H'
      try clear c2
      try clear c2b0
      try clear c2b1
      try clear p2
      obtain ⟨x4_1, x5_1, rfl, rfl, HA, HK1, ⟨m1, rfl⟩⟩ := hrel
      cases gk with
      | zero => exact absurd HA.out (by simp [levyref4_Quote.l0])
      | succ k1 =>
        have H := HA.out
        clear HA
        simp only [levyref4_Quote.l0] at H
        by_cases c3 : x5_1 < (a0.size : Int)
        · rw [if_pos c3] at H
          have c3b0 : decide (x5_1 < (a0.size : Int)) = true := decide_eq_true c3
          clear c3
          have HC4 := Aside0.mk H
          clear H
          go_upto_region 7 with (fail)
          go_cut [24] (fun v24 wc => ∃ (kq : Nat) (x24_3 : Bool), v24 = .bool x24_3 ∧ Aside0 (levyref4_Quote.j1 kq a0 x4_1 x5_1 x24_3 = some (r1, r2)) ∧ Aside0 (kq ≤ k1) ∧ Drawn0 w wc)
          case first =>
            have H := HC4.out
            clear HC4
            by_cases c5 : 0 ≤ x5_1
            · rw [if_pos c5] at H
              have c5b0 : decide (0 ≤ x5_1) = true := decide_eq_true c5
              clear c5
              (first | rw [c5b0] | (simp only [i64_w, i32_w]; rw [c5b0]) | skip)
              by_cases c7 : (bt a0 x5_1) < 32
              · rw [if_pos c7] at H
                have c7b0 : decide ((bt a0 x5_1) < 32) = true := decide_eq_true c7
                clear c7
                have H' := Aside0.mk H
                clear H
                have p6 : 0 ≤ (x5_1 : Int) := of_decide_eq_true (by first | (with_reducible assumption) | assumption)
                have q6 : x5_1 < (a0.size : Int) := of_decide_eq_true (by first | (with_reducible assumption) | assumption)
                have hx6 := bt_at a0 x5_1
                replace p6 := eq_true p6
                replace q6 := eq_true q6
                go_wp2
                go_meet
                case rel => exact ⟨_, (true), (by first | rfl | (simp; done) | (simp [*]; done)), H', ⟨by have := HK1.out; first | omega | exact Nat.le_refl _⟩, by repeat (first | exact Drawn0.refl _ | apply Drawn0.step)⟩
              · rw [if_neg c7] at H
                have c7b0 : decide ((bt a0 x5_1) < 32) = false := decide_eq_false c7
                clear c7
                have H' := Aside0.mk H
                clear H
                have p6 : 0 ≤ (x5_1 : Int) := of_decide_eq_true (by first | (with_reducible assumption) | assumption)
                have q6 : x5_1 < (a0.size : Int) := of_decide_eq_true (by first | (with_reducible assumption) | assumption)
                have hx6 := bt_at a0 x5_1
                replace p6 := eq_true p6
                replace q6 := eq_true q6
                have p8 : 0 ≤ (x5_1 : Int) := of_decide_eq_true (by first | (with_reducible assumption) | assumption)
                have q8 : x5_1 < (a0.size : Int) := of_decide_eq_true (by first | (with_reducible assumption) | assumption)
                have hx8 := bt_at a0 x5_1
                replace p8 := eq_true p8
                replace q8 := eq_true q8
                go_wp2
                go_meet
                case rel => exact ⟨_, (decide ((bt a0 x5_1) > 126)), (by first | rfl | (simp; done) | (simp [*]; done)), H', ⟨by have := HK1.out; first | omega | exact Nat.le_refl _⟩, by repeat (first | exact Drawn0.refl _ | apply Drawn0.step)⟩
            · rw [if_neg c5] at H
              exact absurd H (by simp)
          case rest =>
            clear HC4
            try clear c2
            try clear c2b0
            try clear c2b1
            try clear p2
            try clear c3
            try clear c3b0
            try clear c5
            try clear c5b0
            try clear p6
            try clear q6
            try clear hx6
            try clear c7
            try clear c7b0
            try clear p8
            try clear q8
            try clear hx8
            try clear p2
            try clear p6
            try clear p8
            try clear q6
            try clear q8
            obtain ⟨kq, x24_3, rfl, HA, HJ3, ⟨mc3, rfl⟩⟩ := hcut
            cases kq with
            | zero => exact absurd HA.out (by simp [levyref4_Quote.j1])
            | succ kj3 =>
              have H := HA.out
              clear HA
              simp only [levyref4_Quote.j1] at H
              by_cases c9 : x24_3 = true
              · subst c9
                have H1 : (some ((⟨#[]⟩ : ByteArray), false)) = some (r1, r2) := by rw [if_pos rfl] at H; exact H
                clear H
                have H := H1
                clear H1
                simp only [Option.some.injEq, Prod.mk.injEq] at H
                obtain ⟨rfl, rfl⟩ := H
                go_wp2
                go_ret2
                exact ⟨by first | rfl | (simp; done) | (simp [*]; done), by repeat (first | exact Drawn0.refl _ | apply Drawn0.step)⟩
              · replace c9 := Bool.eq_false_iff.mpr c9
                subst c9
                have H1 : (if 0 ≤ x5_1 then (if x5_1 < (a0.size : Int) then (if (bt a0 x5_1) = 34 then (if x4_1.size + 1 ≤ 9223372036854775807 then (if x5_1 ≤ (wrap64 (x5_1 + 1)) then (if (wrap64 (x5_1 + 1)) ≤ (a0.size : Int) then (if (x4_1 ++ (⟨#[92]⟩ : ByteArray)).size + (a0.extract (x5_1 : Int).toNat ((wrap64 (x5_1 + 1)) : Int).toNat).size ≤ 9223372036854775807 then (levyref4_Quote.l0 kj3 a0 ((x4_1 ++ (⟨#[92]⟩ : ByteArray)) ++ (a0.extract (x5_1 : Int).toNat ((wrap64 (x5_1 + 1)) : Int).toNat)) (wrap64 (x5_1 + 1))) else (none)) else (none)) else (none)) else (none)) else (if (bt a0 x5_1) = 92 then (if x4_1.size + 1 ≤ 9223372036854775807 then (if x5_1 ≤ (wrap64 (x5_1 + 1)) then (if (wrap64 (x5_1 + 1)) ≤ (a0.size : Int) then (if (x4_1 ++ (⟨#[92]⟩ : ByteArray)).size + (a0.extract (x5_1 : Int).toNat ((wrap64 (x5_1 + 1)) : Int).toNat).size ≤ 9223372036854775807 then (levyref4_Quote.l0 kj3 a0 ((x4_1 ++ (⟨#[92]⟩ : ByteArray)) ++ (a0.extract (x5_1 : Int).toNat ((wrap64 (x5_1 + 1)) : Int).toNat)) (wrap64 (x5_1 + 1))) else (none)) else (none)) else (none)) else (none)) else (if x5_1 ≤ (wrap64 (x5_1 + 1)) then (if (wrap64 (x5_1 + 1)) ≤ (a0.size : Int) then (if x4_1.size + (a0.extract (x5_1 : Int).toNat ((wrap64 (x5_1 + 1)) : Int).toNat).size ≤ 9223372036854775807 then (levyref4_Quote.l0 kj3 a0 (x4_1 ++ (a0.extract (x5_1 : Int).toNat ((wrap64 (x5_1 + 1)) : Int).toNat)) (wrap64 (x5_1 + 1))) else (none)) else (none)) else (none)))) else (none)) else (none)) = some (r1, r2) := by rw [if_neg (show ¬ (false = true) by decide)] at H; exact H
                clear H
                have H := H1
                clear H1
                by_cases c10 : 0 ≤ x5_1
                · rw [if_pos c10] at H
                  have c10b0 : decide (0 ≤ x5_1) = true := decide_eq_true c10
                  clear c10
                  by_cases c11 : x5_1 < (a0.size : Int)
                  · rw [if_pos c11] at H
                    have c11b0 : decide (x5_1 < (a0.size : Int)) = true := decide_eq_true c11
                    clear c11
                    by_cases c13 : (bt a0 x5_1) = 34
                    · rw [if_pos c13] at H
                      have c13b0 : ((bt a0 x5_1) == 34) = true := beq_iff_eq.mpr c13
                      have c13b1 : ((bt a0 x5_1) != 34) = false := bne_eq_false_iff_eq.mpr c13
                      clear c13
                      by_cases c14 : x4_1.size + 1 ≤ 9223372036854775807
                      · rw [if_pos c14] at H
                        have c14b0 := eq_true c14
                        have c14b1 : decide (x4_1.size + 1 ≤ 9223372036854775807) = true := decide_eq_true c14
                        try have c14b2 : (9223372036854775807 < x4_1.size + 1) = False := eq_false (Nat.not_lt.2 c14)
                        have c15b0 := eq_true (of_decide_eq_true (by first | (with_reducible assumption) | assumption) : 0 ≤ x5_1)
                        by_cases c16 : x5_1 ≤ (wrap64 (x5_1 + 1))
                        · rw [if_pos c16] at H
                          have c16b0 := eq_true c16
                          have c16b1 : decide (x5_1 ≤ (wrap64 (x5_1 + 1))) = true := decide_eq_true c16
                          by_cases c17 : (wrap64 (x5_1 + 1)) ≤ (a0.size : Int)
                          · rw [if_pos c17] at H
                            have c17b0 := eq_true c17
                            have c17b1 : decide ((wrap64 (x5_1 + 1)) ≤ (a0.size : Int)) = true := decide_eq_true c17
                            by_cases c18 : (x4_1 ++ (⟨#[92]⟩ : ByteArray)).size + (a0.extract (x5_1 : Int).toNat ((wrap64 (x5_1 + 1)) : Int).toNat).size ≤ 9223372036854775807
                            · rw [if_pos c18] at H
                              have c18b0 := eq_true c18
                              have c18b1 : decide ((x4_1 ++ (⟨#[92]⟩ : ByteArray)).size + (a0.extract (x5_1 : Int).toNat ((wrap64 (x5_1 + 1)) : Int).toNat).size ≤ 9223372036854775807) = true := decide_eq_true c18
                              try have c18b2 : (9223372036854775807 < (x4_1 ++ (⟨#[92]⟩ : ByteArray)).size + (a0.extract (x5_1 : Int).toNat ((wrap64 (x5_1 + 1)) : Int).toNat).size) = False := eq_false (Nat.not_lt.2 c18)
                              (try have c18b3 : (9223372036854775807 < x4_1.size + 1 + (a0.extract (x5_1 : Int).toNat ((wrap64 (x5_1 + 1)) : Int).toNat).size) = False := eq_false (Nat.not_lt.2 (Nat.le_trans (Nat.le_of_eq (by simp only [ByteArray.size_append] <;> first | rfl | exact Nat.add_assoc _ _ _ | exact congrArg (· + 1) (Nat.add_assoc _ _ _))) c18)))
                              (try have c18b4 : (x4_1.size + 1 + (a0.extract (x5_1 : Int).toNat ((wrap64 (x5_1 + 1)) : Int).toNat).size ≤ 9223372036854775807) = True := eq_true (Nat.le_trans (Nat.le_of_eq (by simp only [ByteArray.size_append] <;> first | rfl | exact Nat.add_assoc _ _ _ | exact congrArg (· + 1) (Nat.add_assoc _ _ _))) c18))
                              (try have c18b5 : (9223372036854775807 < x4_1.size + 1 + ((a0.extract (x5_1 : Int).toNat ((wrap64 (x5_1 + 1)) : Int).toNat).size)) = False := eq_false (Nat.not_lt.2 (Nat.le_trans (Nat.le_of_eq (by simp only [ByteArray.size_append] <;> rfl)) c18)))
                              (try have c18b6 : (x4_1.size + 1 + ((a0.extract (x5_1 : Int).toNat ((wrap64 (x5_1 + 1)) : Int).toNat).size) ≤ 9223372036854775807) = True := eq_true (Nat.le_trans (Nat.le_of_eq (by simp only [ByteArray.size_append] <;> rfl)) c18))
                              have H' := Aside0.mk H
                              clear H
                              have p12 : 0 ≤ (x5_1 : Int) := of_decide_eq_true (by first | (with_reducible assumption) | assumption)
                              have q12 : x5_1 < (a0.size : Int) := of_decide_eq_true (by first | (with_reducible assumption) | assumption)
                              have hx12 := bt_at a0 x5_1
                              replace p12 := eq_true p12
                              replace q12 := eq_true q12
                              go_wp2
                              go_roundg kj3
                              case measure => have := HK1.out; have := HJ3.out; omega
                              case rel => exact ⟨((x4_1 ++ (⟨#[92]⟩ : ByteArray)) ++ (a0.extract (x5_1 : Int).toNat ((wrap64 (x5_1 + 1)) : Int).toNat)), (wrap64 (x5_1 + 1)), (by first | rfl | (simp; done) | (simp [*]; done)), (by first | rfl | (simp; done) | (simp [*]; done)), H', ⟨by have := HK1.out; have := HJ3.out; omega⟩, by repeat (first | exact Drawn0.refl _ | apply Drawn0.step)⟩
                            · rw [if_neg c18] at H
                              exact absurd H (by simp)
                          · rw [if_neg c17] at H
                            exact absurd H (by simp)
                        · rw [if_neg c16] at H
                          exact absurd H (by simp)
                      · rw [if_neg c14] at H
                        exact absurd H (by simp)
                    · rw [if_neg c13] at H
                      have c13b0 : ((bt a0 x5_1) == 34) = false := beq_eq_false_iff_ne.mpr c13
                      have c13b1 : ((bt a0 x5_1) != 34) = true := bne_iff_ne.mpr c13
                      by_cases c20 : (bt a0 x5_1) = 92
                      · rw [if_pos c20] at H
                        have c20b0 : ((bt a0 x5_1) == 92) = true := beq_iff_eq.mpr c20
                        have c20b1 : ((bt a0 x5_1) != 92) = false := bne_eq_false_iff_eq.mpr c20
                        clear c20
                        by_cases c21 : x4_1.size + 1 ≤ 9223372036854775807
                        · rw [if_pos c21] at H
                          have c21b0 := eq_true c21
                          have c21b1 : decide (x4_1.size + 1 ≤ 9223372036854775807) = true := decide_eq_true c21
                          try have c21b2 : (9223372036854775807 < x4_1.size + 1) = False := eq_false (Nat.not_lt.2 c21)
                          have c22b0 := eq_true (of_decide_eq_true (by first | (with_reducible assumption) | assumption) : 0 ≤ x5_1)
                          by_cases c23 : x5_1 ≤ (wrap64 (x5_1 + 1))
                          · rw [if_pos c23] at H
                            have c23b0 := eq_true c23
                            have c23b1 : decide (x5_1 ≤ (wrap64 (x5_1 + 1))) = true := decide_eq_true c23
                            by_cases c24 : (wrap64 (x5_1 + 1)) ≤ (a0.size : Int)
                            · rw [if_pos c24] at H
                              have c24b0 := eq_true c24
                              have c24b1 : decide ((wrap64 (x5_1 + 1)) ≤ (a0.size : Int)) = true := decide_eq_true c24
                              by_cases c25 : (x4_1 ++ (⟨#[92]⟩ : ByteArray)).size + (a0.extract (x5_1 : Int).toNat ((wrap64 (x5_1 + 1)) : Int).toNat).size ≤ 9223372036854775807
                              · rw [if_pos c25] at H
                                have c25b0 := eq_true c25
                                have c25b1 : decide ((x4_1 ++ (⟨#[92]⟩ : ByteArray)).size + (a0.extract (x5_1 : Int).toNat ((wrap64 (x5_1 + 1)) : Int).toNat).size ≤ 9223372036854775807) = true := decide_eq_true c25
                                try have c25b2 : (9223372036854775807 < (x4_1 ++ (⟨#[92]⟩ : ByteArray)).size + (a0.extract (x5_1 : Int).toNat ((wrap64 (x5_1 + 1)) : Int).toNat).size) = False := eq_false (Nat.not_lt.2 c25)
                                (try have c25b3 : (9223372036854775807 < x4_1.size + 1 + (a0.extract (x5_1 : Int).toNat ((wrap64 (x5_1 + 1)) : Int).toNat).size) = False := eq_false (Nat.not_lt.2 (Nat.le_trans (Nat.le_of_eq (by simp only [ByteArray.size_append] <;> first | rfl | exact Nat.add_assoc _ _ _ | exact congrArg (· + 1) (Nat.add_assoc _ _ _))) c25)))
                                (try have c25b4 : (x4_1.size + 1 + (a0.extract (x5_1 : Int).toNat ((wrap64 (x5_1 + 1)) : Int).toNat).size ≤ 9223372036854775807) = True := eq_true (Nat.le_trans (Nat.le_of_eq (by simp only [ByteArray.size_append] <;> first | rfl | exact Nat.add_assoc _ _ _ | exact congrArg (· + 1) (Nat.add_assoc _ _ _))) c25))
                                (try have c25b5 : (9223372036854775807 < x4_1.size + 1 + ((a0.extract (x5_1 : Int).toNat ((wrap64 (x5_1 + 1)) : Int).toNat).size)) = False := eq_false (Nat.not_lt.2 (Nat.le_trans (Nat.le_of_eq (by simp only [ByteArray.size_append] <;> rfl)) c25)))
                                (try have c25b6 : (x4_1.size + 1 + ((a0.extract (x5_1 : Int).toNat ((wrap64 (x5_1 + 1)) : Int).toNat).size) ≤ 9223372036854775807) = True := eq_true (Nat.le_trans (Nat.le_of_eq (by simp only [ByteArray.size_append] <;> rfl)) c25))
                                have H' := Aside0.mk H
                                clear H
                                have p12 : 0 ≤ (x5_1 : Int) := of_decide_eq_true (by first | (with_reducible assumption) | assumption)
                                have q12 : x5_1 < (a0.size : Int) := of_decide_eq_true (by first | (with_reducible assumption) | assumption)
                                have hx12 := bt_at a0 x5_1
                                replace p12 := eq_true p12
                                replace q12 := eq_true q12
                                have p19 : 0 ≤ (x5_1 : Int) := of_decide_eq_true (by first | (with_reducible assumption) | assumption)
                                have q19 : x5_1 < (a0.size : Int) := of_decide_eq_true (by first | (with_reducible assumption) | assumption)
                                have hx19 := bt_at a0 x5_1
                                replace p19 := eq_true p19
                                replace q19 := eq_true q19
                                go_wp2
                                go_roundg kj3
                                case measure => have := HK1.out; have := HJ3.out; omega
                                case rel => exact ⟨((x4_1 ++ (⟨#[92]⟩ : ByteArray)) ++ (a0.extract (x5_1 : Int).toNat ((wrap64 (x5_1 + 1)) : Int).toNat)), (wrap64 (x5_1 + 1)), (by first | rfl | (simp; done) | (simp [*]; done)), (by first | rfl | (simp; done) | (simp [*]; done)), H', ⟨by have := HK1.out; have := HJ3.out; omega⟩, by repeat (first | exact Drawn0.refl _ | apply Drawn0.step)⟩
                              · rw [if_neg c25] at H
                                exact absurd H (by simp)
                            · rw [if_neg c24] at H
                              exact absurd H (by simp)
                          · rw [if_neg c23] at H
                            exact absurd H (by simp)
                        · rw [if_neg c21] at H
                          exact absurd H (by simp)
                      · rw [if_neg c20] at H
                        have c20b0 : ((bt a0 x5_1) == 92) = false := beq_eq_false_iff_ne.mpr c20
                        have c20b1 : ((bt a0 x5_1) != 92) = true := bne_iff_ne.mpr c20
                        have c26b0 := eq_true (of_decide_eq_true (by first | (with_reducible assumption) | assumption) : 0 ≤ x5_1)
                        by_cases c27 : x5_1 ≤ (wrap64 (x5_1 + 1))
                        · rw [if_pos c27] at H
                          have c27b0 := eq_true c27
                          have c27b1 : decide (x5_1 ≤ (wrap64 (x5_1 + 1))) = true := decide_eq_true c27
                          by_cases c28 : (wrap64 (x5_1 + 1)) ≤ (a0.size : Int)
                          · rw [if_pos c28] at H
                            have c28b0 := eq_true c28
                            have c28b1 : decide ((wrap64 (x5_1 + 1)) ≤ (a0.size : Int)) = true := decide_eq_true c28
                            by_cases c29 : x4_1.size + (a0.extract (x5_1 : Int).toNat ((wrap64 (x5_1 + 1)) : Int).toNat).size ≤ 9223372036854775807
                            · rw [if_pos c29] at H
                              have c29b0 := eq_true c29
                              have c29b1 : decide (x4_1.size + (a0.extract (x5_1 : Int).toNat ((wrap64 (x5_1 + 1)) : Int).toNat).size ≤ 9223372036854775807) = true := decide_eq_true c29
                              try have c29b2 : (9223372036854775807 < x4_1.size + (a0.extract (x5_1 : Int).toNat ((wrap64 (x5_1 + 1)) : Int).toNat).size) = False := eq_false (Nat.not_lt.2 c29)
                              have H' := Aside0.mk H
                              clear H
                              have p12 : 0 ≤ (x5_1 : Int) := of_decide_eq_true (by first | (with_reducible assumption) | assumption)
                              have q12 : x5_1 < (a0.size : Int) := of_decide_eq_true (by first | (with_reducible assumption) | assumption)
                              have hx12 := bt_at a0 x5_1
                              replace p12 := eq_true p12
                              replace q12 := eq_true q12
                              have p19 : 0 ≤ (x5_1 : Int) := of_decide_eq_true (by first | (with_reducible assumption) | assumption)
                              have q19 : x5_1 < (a0.size : Int) := of_decide_eq_true (by first | (with_reducible assumption) | assumption)
                              have hx19 := bt_at a0 x5_1
                              replace p19 := eq_true p19
                              replace q19 := eq_true q19
                              go_wp2
                              go_roundg kj3
                              case measure => have := HK1.out; have := HJ3.out; omega
                              case rel => exact ⟨(x4_1 ++ (a0.extract (x5_1 : Int).toNat ((wrap64 (x5_1 + 1)) : Int).toNat)), (wrap64 (x5_1 + 1)), (by first | rfl | (simp; done) | (simp [*]; done)), (by first | rfl | (simp; done) | (simp [*]; done)), H', ⟨by have := HK1.out; have := HJ3.out; omega⟩, by repeat (first | exact Drawn0.refl _ | apply Drawn0.step)⟩
                            · rw [if_neg c29] at H
                              exact absurd H (by simp)
                          · rw [if_neg c28] at H
                            exact absurd H (by simp)
                        · rw [if_neg c27] at H
                          exact absurd H (by simp)
                  · rw [if_neg c11] at H
                    exact absurd H (by simp)
                · rw [if_neg c10] at H
                  exact absurd H (by simp)
        · rw [if_neg c3] at H
          have c3b0 : decide (x5_1 < (a0.size : Int)) = false := decide_eq_false c3
          clear c3
          by_cases c30 : x4_1.size + 1 ≤ 9223372036854775807
          · rw [if_pos c30] at H
            have c30b0 := eq_true c30
            have c30b1 : decide (x4_1.size + 1 ≤ 9223372036854775807) = true := decide_eq_true c30
            try have c30b2 : (9223372036854775807 < x4_1.size + 1) = False := eq_false (Nat.not_lt.2 c30)
            simp only [Option.some.injEq, Prod.mk.injEq] at H
            obtain ⟨rfl, rfl⟩ := H
            go_wp2
            go_ret2
            exact ⟨by first | rfl | (simp; done) | (simp [*]; done), by repeat (first | exact Drawn0.refl _ | apply Drawn0.step)⟩
          · rw [if_neg c30] at H
            exact absurd H (by simp)

end Go.Proofs.YtplmledhcffedaaDoor.PA
