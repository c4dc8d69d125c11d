/- The Go functions of this seat that the laws of part A come to, each as a plain Lean function ('f', its loops 'l0' ..) with a proof that the call comes to its answer. Conditions: where a function comes to a package-level table, the world holds that table ('Tabs'). Written by a program of this session (a changed copy of the print). -/
import Derived.Test.YtlipkhhpjelicaaDoorPAx0
import Derived.Test.YtlipkhhpjelicaaDoorPAx5
import Derived.Test.YtlipkhhpjelicaaDoorPAx7
namespace Go.Proofs.YtlipkhhpjelicaaDoor.PA
open Go.RowKit Go.Proofs.YtlipkhhpjelicaaDoorW.PrintWords Go.Proofs.YtlipkhhpjelicaaDoorW.PrintLast Go.Proofs.YtlipkhhpjelicaaDoorW.PrintMore
attribute [local go_sem] max2_int min2_int max_two min_two max_three min_three max_four min_four   -- for this text's walks alone
set_option linter.unusedVariables false
set_option linter.unusedSimpArgs false

-- by hand: function 34 (days_Due)

-- NOT PRINTED: function 9 (levylaw2_DaysWork)

/-! ### levyref2_Months: function 12 -/
mutual
def levyref2_Months.j0 : Nat → Int → Int → List (S31) → Option ((List (S31)))
  | 0, _, _, _ => none
  | k + 1, x0, x1, x5 => if x1 > 109572 then (levyref2_Months.j1 k x0 109572 x5) else (levyref2_Months.j1 k x0 x1 x5)
def levyref2_Months.j1 : Nat → Int → Int → List (S31) → Option ((List (S31)))
  | 0, _, _, _ => none
  | k + 1, x0, x1, x5 => levyref2_Months.l0 k x0 x1 x5
def levyref2_Months.l0 : Nat → Int → Int → List (S31) → Option ((List (S31)))
  | 0, _, _, _ => none
  | k + 1, x0, x1, x5 => if x0 ≤ x1 then ((levyref2_month.f k x0).bind fun bt365 => ((levyref2_begins.f k (wrap64 (bt365.1 + 1))).bind fun t367 => (if t367 > (wrap64 (x1 + 1)) then (if x5.length < 4398046511104 then (levyref2_Months.l0 k (wrap64 (x1 + 1)) x1 (x5 ++ [(⟨wrap64 (1900 + (wrap64 (Int.tdiv bt365.1 12))), wrap64 ((Int.tmod bt365.1 12) + 1), wrap64 (bt365.2 + 1), wrap64 ((wrap64 (x1 + 1)) - x0)⟩ : S31)])) else (none)) else (if x5.length < 4398046511104 then (levyref2_Months.l0 k t367 x1 (x5 ++ [(⟨wrap64 (1900 + (wrap64 (Int.tdiv bt365.1 12))), wrap64 ((Int.tmod bt365.1 12) + 1), wrap64 (bt365.2 + 1), wrap64 (t367 - x0)⟩ : S31)])) else (none))))) else (some x5)
end
def levyref2_Months.f (k : Nat) (a0 : Int) (a1 : Int) : Option ((List (S31))) := if a0 < 0 then (levyref2_Months.j0 k 0 a1 ([] : List (S31))) else (levyref2_Months.j0 k a0 a1 ([] : List (S31)))
theorem levyref2_Months.mono_l : ∀ k, (∀ y0 y1 y2, LeO (levyref2_Months.j0 k y0 y1 y2) (levyref2_Months.j0 (k + 1) y0 y1 y2)) ∧ (∀ y0 y1 y2, LeO (levyref2_Months.j1 k y0 y1 y2) (levyref2_Months.j1 (k + 1) y0 y1 y2)) ∧ (∀ y0 y1 y2, LeO (levyref2_Months.l0 k y0 y1 y2) (levyref2_Months.l0 (k + 1) y0 y1 y2))
  | 0 => ⟨fun _ _ _ r h => by simp [levyref2_Months.j0] at h, fun _ _ _ r h => by simp [levyref2_Months.j1] at h, fun _ _ _ r h => by simp [levyref2_Months.l0] at h⟩
  | k + 1 => by
    obtain ⟨ih0, ih1, ih2⟩ := levyref2_Months.mono_l k
    refine ⟨?_, ?_, ?_⟩
    · intro y0 y1 y2
      unfold levyref2_Months.j0
      repeat' first
      | (with_reducible exact ih0 _ _ _)
      | (with_reducible exact ih1 _ _ _)
      | (with_reducible exact ih2 _ _ _)
      | (with_reducible exact levyref2_begins.mono _ _)
      | (with_reducible exact levyref2_month.mono _ _)
      | (with_reducible exact LeO.refl _)
      | (with_reducible exact LeO.none _)
      | (with_reducible refine LeO.ite ?_ ?_)
      | (with_reducible refine LeO.bind ?_ (fun _ => ?_))
      | exact ih0 _ _ _
      | exact ih1 _ _ _
      | exact ih2 _ _ _
      | exact levyref2_begins.mono _ _
      | exact levyref2_month.mono _ _
      | exact LeO.none _
      | refine LeO.ite ?_ ?_
      | refine LeO.bind ?_ (fun _ => ?_)
    · intro y0 y1 y2
      unfold levyref2_Months.j1
      repeat' first
      | (with_reducible exact ih0 _ _ _)
      | (with_reducible exact ih1 _ _ _)
      | (with_reducible exact ih2 _ _ _)
      | (with_reducible exact levyref2_begins.mono _ _)
      | (with_reducible exact levyref2_month.mono _ _)
      | (with_reducible exact LeO.refl _)
      | (with_reducible exact LeO.none _)
      | (with_reducible refine LeO.ite ?_ ?_)
      | (with_reducible refine LeO.bind ?_ (fun _ => ?_))
      | exact ih0 _ _ _
      | exact ih1 _ _ _
      | exact ih2 _ _ _
      | exact levyref2_begins.mono _ _
      | exact levyref2_month.mono _ _
      | exact LeO.none _
      | refine LeO.ite ?_ ?_
      | refine LeO.bind ?_ (fun _ => ?_)
    · intro y0 y1 y2
      unfold levyref2_Months.l0
      repeat' first
      | (with_reducible exact ih0 _ _ _)
      | (with_reducible exact ih1 _ _ _)
      | (with_reducible exact ih2 _ _ _)
      | (with_reducible exact levyref2_begins.mono _ _)
      | (with_reducible exact levyref2_month.mono _ _)
      | (with_reducible exact LeO.refl _)
      | (with_reducible exact LeO.none _)
      | (with_reducible refine LeO.ite ?_ ?_)
      | (with_reducible refine LeO.bind ?_ (fun _ => ?_))
      | exact ih0 _ _ _
      | exact ih1 _ _ _
      | exact ih2 _ _ _
      | exact levyref2_begins.mono _ _
      | exact levyref2_month.mono _ _
      | exact LeO.none _
      | refine LeO.ite ?_ ?_
      | refine LeO.bind ?_ (fun _ => ?_)
theorem levyref2_Months.mono : ∀ a0 a1 k, LeO (levyref2_Months.f k a0 a1) (levyref2_Months.f (k + 1) a0 a1) := by
  intro a0 a1 k
  obtain ⟨ih0, ih1, ih2⟩ := levyref2_Months.mono_l k
  unfold levyref2_Months.f
  repeat' first
      | (with_reducible exact ih0 _ _ _)
      | (with_reducible exact ih1 _ _ _)
      | (with_reducible exact ih2 _ _ _)
      | (with_reducible exact levyref2_begins.mono _ _)
      | (with_reducible exact levyref2_month.mono _ _)
      | (with_reducible exact LeO.refl _)
      | (with_reducible exact LeO.none _)
      | (with_reducible refine LeO.ite ?_ ?_)
      | (with_reducible refine LeO.bind ?_ (fun _ => ?_))
      | exact ih0 _ _ _
      | exact ih1 _ _ _
      | exact ih2 _ _ _
      | exact levyref2_begins.mono _ _
      | exact levyref2_month.mono _ _
      | exact LeO.none _
      | refine LeO.ite ?_ ?_
      | refine LeO.bind ?_ (fun _ => ?_)
set_option maxHeartbeats 8000000 in
set_option maxRecDepth 100000 in
theorem levyref2_Months.calls (k : Nat) (a0 : Int) (a1 : Int) (r : List (S31)) (w : World) (h : levyref2_Months.f k a0 a1 = some r) :
    Calls Tryd.prog 12 #[.int .i64 a0, .int .i64 a1] w fun e w' => ∃ v0_ : Value, e = .returned (v0_) ∧ Kd.R k31 31 w' w.heap.size (fun _ => True) v0_ r ∧ Below w.heap.size w w' := by
  have hu31 := Tryd.underlying31
  have HB := Aside0.mk (Below.refl w.heap.size w)
  have H : (if a0 < 0 then (levyref2_Months.j0 k 0 a1 ([] : List (S31))) else (levyref2_Months.j0 k a0 a1 ([] : List (S31)))) = some r := h
  clear h
  have HC3 := Aside0.mk H
  clear H
  go_enter Tryd.func12, Tryd.ntmps12
  go_upto_if 10 with (fail)
  go_cut [0] (fun v0 wc => ∃ (kq : Nat) (x0_2 : Int), v0 = .int .i64 x0_2 ∧ Aside0 (levyref2_Months.j0 kq x0_2 a1 ([] : List (S31)) = some r) ∧ Aside0 (kq ≤ k) ∧ Aside0 (Kd.R k31 31 wc w.heap.size (fun _ => True) (.slice none 0 0) ([] : List (S31))) ∧ Aside0 (Below w.heap.size w wc))
  case first =>
    have H := HC3.out
    clear HC3
    by_cases c4 : a0 < 0
    · rw [if_pos c4] at H
      have c4b0 : decide (a0 < 0) = true := decide_eq_true c4
      clear c4
      (first | rw [c4b0] | (simp only [i64_w, i32_w]; rw [c4b0]) | skip)
      have H' := Aside0.mk H
      clear H
      go_wp2
      go_meet
      case rel => exact ⟨_, (0), (by first | rfl | (simp; done) | (simp [*]; done)), H', ⟨by first | omega | exact Nat.le_refl _⟩, ⟨by first | exact Kd.R_nil _ _ _ _ _ | exact Kd.N_nil _ _ _ _ _ | exact Kd.V_nil _ _ _ _ _ | exact Kd.Q_nil _ _ _ _ _ | exact Kd.S_nil _ _ _ _ _⟩, ⟨by repeat (first | (with_reducible first | exact HB.out | apply below_alloc | apply pw_below_drewN | apply below_drew1) | exact HB.out)⟩⟩
    · rw [if_neg c4] at H
      have c4b0 : decide (a0 < 0) = false := decide_eq_false c4
      clear c4
      (first | rw [c4b0] | (simp only [i64_w, i32_w]; rw [c4b0]) | skip)
      have H' := Aside0.mk H
      clear H
      go_wp2
      go_meet
      case rel => exact ⟨_, (a0), (by first | rfl | (simp; done) | (simp [*]; done)), H', ⟨by first | omega | exact Nat.le_refl _⟩, ⟨by first | exact Kd.R_nil _ _ _ _ _ | exact Kd.N_nil _ _ _ _ _ | exact Kd.V_nil _ _ _ _ _ | exact Kd.Q_nil _ _ _ _ _ | exact Kd.S_nil _ _ _ _ _⟩, ⟨by repeat (first | (with_reducible first | exact HB.out | apply below_alloc | apply pw_below_drewN | apply below_drew1) | exact HB.out)⟩⟩
  case rest =>
    clear HC3
    try clear c1
    try clear p2
    try clear c4
    try clear c4b0
    obtain ⟨kq, x0_2, rfl, HA, HJ2, HO_5, HB⟩ := hcut
    cases kq with
    | zero => exact absurd HA.out (by simp [levyref2_Months.j0])
    | succ kj2 =>
      have H := HA.out
      clear HA
      simp only [levyref2_Months.j0] at H
      have HC5 := Aside0.mk H
      clear H
      go_upto_if 12 with (fail)
      go_cut [1] (fun v1 wc => ∃ (kq : Nat) (x1_4 : Int), v1 = .int .i64 x1_4 ∧ Aside0 (levyref2_Months.j1 kq x0_2 x1_4 ([] : List (S31)) = some r) ∧ Aside0 (kq ≤ kj2) ∧ Aside0 (Kd.R k31 31 wc w.heap.size (fun _ => True) (.slice none 0 0) ([] : List (S31))) ∧ Aside0 (Below w.heap.size w wc))
      case first =>
        have H := HC5.out
        clear HC5
        by_cases c6 : a1 > 109572
        · rw [if_pos c6] at H
          have c6b0 : decide (109572 < a1) = true := decide_eq_true c6
          clear c6
          (first | rw [c6b0] | (simp only [i64_w, i32_w]; rw [c6b0]) | skip)
          have H' := Aside0.mk H
          clear H
          go_wp2
          go_meet
          case rel => exact ⟨_, (109572), (by first | rfl | (simp; done) | (simp [*]; done)), H', ⟨by have := HJ2.out; first | omega | exact Nat.le_refl _⟩, ⟨by (with_reducible repeat (first | apply Kd.R_alloc | apply Kd.R_drewN | apply Kd.R_drew)); exact HO_5.out⟩, ⟨by repeat (first | (with_reducible first | exact HB.out | apply below_alloc | apply pw_below_drewN | apply below_drew1) | exact HB.out)⟩⟩
        · rw [if_neg c6] at H
          have c6b0 : decide (109572 < a1) = false := decide_eq_false c6
          clear c6
          (first | rw [c6b0] | (simp only [i64_w, i32_w]; rw [c6b0]) | skip)
          have H' := Aside0.mk H
          clear H
          go_wp2
          go_meet
          case rel => exact ⟨_, (a1), (by first | rfl | (simp; done) | (simp [*]; done)), H', ⟨by have := HJ2.out; first | omega | exact Nat.le_refl _⟩, ⟨by (with_reducible repeat (first | apply Kd.R_alloc | apply Kd.R_drewN | apply Kd.R_drew)); exact HO_5.out⟩, ⟨by repeat (first | (with_reducible first | exact HB.out | apply below_alloc | apply pw_below_drewN | apply below_drew1) | exact HB.out)⟩⟩
      case rest =>
        clear HC5
        try clear c1
        try clear p2
        try clear c4
        try clear c4b0
        try clear c6
        try clear c6b0
        try clear p2
        obtain ⟨kq, x1_4, rfl, HA, HJ4, HO_5, HB⟩ := hcut
        cases kq with
        | zero => exact absurd HA.out (by simp [levyref2_Months.j1])
        | succ kj4 =>
          have H := HA.out
          clear HA
          simp only [levyref2_Months.j1] at H
          have H' := Aside0.mk H
          clear H
          go_wp2
          go_loopg [0, 5] kj4 (fun kq v0 v5 w' => ∃ (x0_3 : Int) (x5_3 : List (S31)), v0 = .int .i64 x0_3 ∧ Aside0 (levyref2_Months.l0 kq x0_3 x1_4 x5_3 = some r) ∧ Aside0 (kq ≤ kj4) ∧ Aside0 (Kd.R k31 31 w' w.heap.size (fun _ => True) v5 x5_3) ∧ Aside0 (Below w.heap.size w w'))
          case atStart => exact ⟨(x0_2), (([] : List (S31))), (by first | rfl | (simp; done) | (simp [*]; done)), H', ⟨Nat.le_refl _⟩, ⟨by (with_reducible repeat (first | apply Kd.R_alloc | apply Kd.R_drewN | apply Kd.R_drew)); exact HO_5.out⟩, ⟨by repeat (first | (with_reducible first | exact HB.out | apply below_alloc | apply pw_below_drewN | apply below_drew1) | exact HB.out)⟩⟩
          case round =>
            clear H'
            try clear c1
            try clear p2
            try clear c4
            try clear c4b0
            try clear c6
            try clear c6b0
            try clear p2
            obtain ⟨x0_3, x5_3, rfl, HA, HK3, HO_5, HB⟩ := hrel
            cases gk with
            | zero => exact absurd HA.out (by simp [levyref2_Months.l0])
            | succ k3 =>
              have H := HA.out
              clear HA
              simp only [levyref2_Months.l0] at H
              by_cases c7 : x0_3 ≤ x1_4
              · rw [if_pos c7] at H
                have c7b0 : decide (x0_3 ≤ x1_4) = true := decide_eq_true c7
                clear c7
                replace H := Option.bind_eq_some_iff.mp H
                obtain ⟨⟨t365, t366⟩, A80, H⟩ := H
                replace H : ((levyref2_begins.f k3 (wrap64 (t365 + 1))).bind fun t367 => (if t367 > (wrap64 (x1_4 + 1)) then (if x5_3.length < 4398046511104 then (levyref2_Months.l0 k3 (wrap64 (x1_4 + 1)) x1_4 (x5_3 ++ [(⟨wrap64 (1900 + (wrap64 (Int.tdiv t365 12))), wrap64 ((Int.tmod t365 12) + 1), wrap64 (t366 + 1), wrap64 ((wrap64 (x1_4 + 1)) - x0_3)⟩ : S31)])) else (none)) else (if x5_3.length < 4398046511104 then (levyref2_Months.l0 k3 t367 x1_4 (x5_3 ++ [(⟨wrap64 (1900 + (wrap64 (Int.tdiv t365 12))), wrap64 ((Int.tmod t365 12) + 1), wrap64 (t366 + 1), wrap64 (t367 - x0_3)⟩ : S31)])) else (none)))) = some r := H
                have A8 := Aside0.mk A80
                clear A80
                replace H := Option.bind_eq_some_iff.mp H
                obtain ⟨t367, A90, H⟩ := H
                replace H : (if t367 > (wrap64 (x1_4 + 1)) then (if x5_3.length < 4398046511104 then (levyref2_Months.l0 k3 (wrap64 (x1_4 + 1)) x1_4 (x5_3 ++ [(⟨wrap64 (1900 + (wrap64 (Int.tdiv t365 12))), wrap64 ((Int.tmod t365 12) + 1), wrap64 (t366 + 1), wrap64 ((wrap64 (x1_4 + 1)) - x0_3)⟩ : S31)])) else (none)) else (if x5_3.length < 4398046511104 then (levyref2_Months.l0 k3 t367 x1_4 (x5_3 ++ [(⟨wrap64 (1900 + (wrap64 (Int.tdiv t365 12))), wrap64 ((Int.tmod t365 12) + 1), wrap64 (t366 + 1), wrap64 (t367 - x0_3)⟩ : S31)])) else (none))) = some r := H
                have A9 := Aside0.mk A90
                clear A90
                by_cases c10 : t367 > (wrap64 (x1_4 + 1))
                · rw [if_pos c10] at H
                  have c10b0 : decide ((wrap64 (x1_4 + 1)) < t367) = true := decide_eq_true c10
                  clear c10
                  by_cases c11 : x5_3.length < 4398046511104
                  · rw [if_pos c11] at H
                    have LMc11 := Aside0.mk c11
                    clear c11
                    obtain ⟨y368, hy368⟩ : ∃ y_ : List (S31), y_ = (x5_3 ++ [(⟨wrap64 (1900 + (wrap64 (Int.tdiv t365 12))), wrap64 ((Int.tmod t365 12) + 1), wrap64 (t366 + 1), wrap64 ((wrap64 (x1_4 + 1)) - x0_3)⟩ : S31)]) := ⟨_, rfl⟩
                    replace H : (levyref2_Months.l0 k3 (wrap64 (x1_4 + 1)) x1_4 y368) = some r := by first | (rw [hy368]; with_reducible exact H) | (have H2_ := (Option.bind_some _ _).symm.trans H; rw [hy368]; with_reducible exact H2_) | (have H2_ := (Option.bind_some _ _).symm.trans H; with_reducible exact H2_) | with_reducible exact H | (rw [hy368]; exact H) | exact H
                    have Ny368 := Aside0.mk hy368
                    clear hy368
                    have H' := Aside0.mk H
                    clear H
                    go_wp2_with (first | ((with_reducible refine gate_callee (f := 42) rfl ?_); refine goesL_ (some 18) rfl rfl Tryd.func42 (by kernel_rfl) rfl #[.int .i64 x0_3] rfl (by (try simp only [List.map_toArray, List.map_cons, List.map_nil]); first | done | rfl | (simp only [List.length_drop, List.length_take]; rfl)) ?_; (with_reducible refine (levyref2_month.calls k3 x0_3 t365 t366 _ A8.out).mono ?_); rintro e w' ⟨rfl, ⟨nd, rfl⟩⟩; refine ⟨_, rfl, ?_⟩) | ((with_reducible refine gate_callee (f := 43) rfl ?_); refine goesL_ (some 23) rfl rfl Tryd.func43 (by kernel_rfl) rfl #[.int .i64 (wrap64 (t365 + 1))] rfl (by (try simp only [List.map_toArray, List.map_cons, List.map_nil]); first | done | rfl | (simp only [List.length_drop, List.length_take]; rfl)) ?_; (with_reducible refine (levyref2_begins.calls k3 (wrap64 (t365 + 1)) t367 _ A9.out).mono ?_); rintro e w' ⟨rfl, ⟨nd, rfl⟩⟩; refine ⟨_, rfl, ?_⟩) | ((with_reducible refine gate_builtin (b := .append) (xs := #[.tmp 30, .tmp 43]) rfl ?_); at_builtin; refine Kd.R_append k31 (w0 := w) w.heap.size rfl (.tmp 30) (.tmp 43) 22 31 (.agg #[(.int .i64 0), (.int .i64 0), (.int .i64 0), (.int .i64 0)]) 32 rfl Tryd.underlying22 info31 rfl (by decide) (by omega) u5 x5_3 (⟨wrap64 (1900 + (wrap64 (Int.tdiv t365 12))), wrap64 ((Int.tmod t365 12) + 1), wrap64 (t366 + 1), wrap64 ((wrap64 (x1_4 + 1)) - x0_3)⟩ : S31) [.int .i64 (wrap64 (1900 + (wrap64 (Int.tdiv t365 12)))), .int .i64 (wrap64 ((Int.tmod t365 12) + 1)), .int .i64 (wrap64 (t366 + 1)), .int .i64 (wrap64 ((wrap64 (x1_4 + 1)) - x0_3))] (fun _ => True) (fun _ => False) rfl rfl ?aP (fun _ hk => hk.elim) ?aF ?aO ?aB ?aS ?aL ?_; (case aP => exact k31_mkM _ _ _ (⟨wrap64 (1900 + (wrap64 (Int.tdiv t365 12))), wrap64 ((Int.tmod t365 12) + 1), wrap64 (t366 + 1), wrap64 ((wrap64 (x1_4 + 1)) - x0_3)⟩ : S31)); (case aB => exact (by repeat (first | (with_reducible first | exact HB.out | apply below_alloc | apply pw_below_drewN | apply below_drew1) | exact HB.out))); (case aF => exact (fun _ _ => trivial)); (case aO => exact (by (with_reducible repeat (first | apply Kd.R_alloc | apply Kd.R_drewN | apply Kd.R_drew)); exact HO_5.out)); (case aS => exact (below_size (by repeat (first | (with_reducible first | exact HB.out | apply below_alloc | apply pw_below_drewN | apply below_drew1) | exact HB.out)))); (case aL => have := LMc11.out; omega); intro v369 w12 ho hb hg hat; rw [← Ny368.out] at ho; have n0_ := Aside0.mk (hb); have n1_ := Aside0.mk (ho); clear HB; clear HO_5; have HB := n0_; have HO370 := n1_; clear n0_ n1_; clear ho hb hg hat))
                    go_roundg k3
                    case measure => have := HJ2.out; have := HJ4.out; have := HK3.out; omega
                    case rel => exact ⟨(wrap64 (x1_4 + 1)), (y368), (by first | rfl | (simp; done) | (simp [*]; done)), H', ⟨by have := HJ2.out; have := HJ4.out; have := HK3.out; omega⟩, ⟨by (with_reducible repeat (first | apply Kd.R_alloc | apply Kd.R_drewN | apply Kd.R_drew)); exact HO370.out⟩, ⟨by repeat (first | (with_reducible first | exact HB.out | apply below_alloc | apply pw_below_drewN | apply below_drew1) | exact HB.out)⟩⟩
                  · rw [if_neg c11] at H
                    exact absurd H (by simp)
                · rw [if_neg c10] at H
                  have c10b0 : decide ((wrap64 (x1_4 + 1)) < t367) = false := decide_eq_false c10
                  clear c10
                  by_cases c13 : x5_3.length < 4398046511104
                  · rw [if_pos c13] at H
                    have LMc13 := Aside0.mk c13
                    clear c13
                    obtain ⟨y371, hy371⟩ : ∃ y_ : List (S31), y_ = (x5_3 ++ [(⟨wrap64 (1900 + (wrap64 (Int.tdiv t365 12))), wrap64 ((Int.tmod t365 12) + 1), wrap64 (t366 + 1), wrap64 (t367 - x0_3)⟩ : S31)]) := ⟨_, rfl⟩
                    replace H : (levyref2_Months.l0 k3 t367 x1_4 y371) = some r := by first | (rw [hy371]; with_reducible exact H) | (have H2_ := (Option.bind_some _ _).symm.trans H; rw [hy371]; with_reducible exact H2_) | (have H2_ := (Option.bind_some _ _).symm.trans H; with_reducible exact H2_) | with_reducible exact H | (rw [hy371]; exact H) | exact H
                    have Ny371 := Aside0.mk hy371
                    clear hy371
                    have H' := Aside0.mk H
                    clear H
                    go_wp2_with (first | ((with_reducible refine gate_callee (f := 42) rfl ?_); refine goesL_ (some 18) rfl rfl Tryd.func42 (by kernel_rfl) rfl #[.int .i64 x0_3] rfl (by (try simp only [List.map_toArray, List.map_cons, List.map_nil]); first | done | rfl | (simp only [List.length_drop, List.length_take]; rfl)) ?_; (with_reducible refine (levyref2_month.calls k3 x0_3 t365 t366 _ A8.out).mono ?_); rintro e w' ⟨rfl, ⟨nd, rfl⟩⟩; refine ⟨_, rfl, ?_⟩) | ((with_reducible refine gate_callee (f := 43) rfl ?_); refine goesL_ (some 23) rfl rfl Tryd.func43 (by kernel_rfl) rfl #[.int .i64 (wrap64 (t365 + 1))] rfl (by (try simp only [List.map_toArray, List.map_cons, List.map_nil]); first | done | rfl | (simp only [List.length_drop, List.length_take]; rfl)) ?_; (with_reducible refine (levyref2_begins.calls k3 (wrap64 (t365 + 1)) t367 _ A9.out).mono ?_); rintro e w' ⟨rfl, ⟨nd, rfl⟩⟩; refine ⟨_, rfl, ?_⟩) | ((with_reducible refine gate_builtin (b := .append) (xs := #[.tmp 30, .tmp 43]) rfl ?_); at_builtin; refine Kd.R_append k31 (w0 := w) w.heap.size rfl (.tmp 30) (.tmp 43) 22 31 (.agg #[(.int .i64 0), (.int .i64 0), (.int .i64 0), (.int .i64 0)]) 32 rfl Tryd.underlying22 info31 rfl (by decide) (by omega) u5 x5_3 (⟨wrap64 (1900 + (wrap64 (Int.tdiv t365 12))), wrap64 ((Int.tmod t365 12) + 1), wrap64 (t366 + 1), wrap64 (t367 - x0_3)⟩ : S31) [.int .i64 (wrap64 (1900 + (wrap64 (Int.tdiv t365 12)))), .int .i64 (wrap64 ((Int.tmod t365 12) + 1)), .int .i64 (wrap64 (t366 + 1)), .int .i64 (wrap64 (t367 - x0_3))] (fun _ => True) (fun _ => False) rfl rfl ?aP (fun _ hk => hk.elim) ?aF ?aO ?aB ?aS ?aL ?_; (case aP => exact k31_mkM _ _ _ (⟨wrap64 (1900 + (wrap64 (Int.tdiv t365 12))), wrap64 ((Int.tmod t365 12) + 1), wrap64 (t366 + 1), wrap64 (t367 - x0_3)⟩ : S31)); (case aB => exact (by repeat (first | (with_reducible first | exact HB.out | apply below_alloc | apply pw_below_drewN | apply below_drew1) | exact HB.out))); (case aF => exact (fun _ _ => trivial)); (case aO => exact (by (with_reducible repeat (first | apply Kd.R_alloc | apply Kd.R_drewN | apply Kd.R_drew)); exact HO_5.out)); (case aS => exact (below_size (by repeat (first | (with_reducible first | exact HB.out | apply below_alloc | apply pw_below_drewN | apply below_drew1) | exact HB.out)))); (case aL => have := LMc13.out; omega); intro v372 w14 ho hb hg hat; rw [← Ny371.out] at ho; have n0_ := Aside0.mk (hb); have n1_ := Aside0.mk (ho); clear HB; clear HO_5; have HB := n0_; have HO373 := n1_; clear n0_ n1_; clear ho hb hg hat))
                    go_roundg k3
                    case measure => have := HJ2.out; have := HJ4.out; have := HK3.out; omega
                    case rel => exact ⟨(t367), (y371), (by first | rfl | (simp; done) | (simp [*]; done)), H', ⟨by have := HJ2.out; have := HJ4.out; have := HK3.out; omega⟩, ⟨by (with_reducible repeat (first | apply Kd.R_alloc | apply Kd.R_drewN | apply Kd.R_drew)); exact HO373.out⟩, ⟨by repeat (first | (with_reducible first | exact HB.out | apply below_alloc | apply pw_below_drewN | apply below_drew1) | exact HB.out)⟩⟩
                  · rw [if_neg c13] at H
                    exact absurd H (by simp)
              · rw [if_neg c7] at H
                have c7b0 : decide (x0_3 ≤ x1_4) = false := decide_eq_false c7
                clear c7
                obtain rfl := Option.some.inj H
                go_wp2
                go_ret
                exact ⟨_, by first | rfl | (simp [errW_none, errW_some] <;> rfl) | (simp [*, errW_none, errW_some] <;> rfl), by (with_reducible repeat (first | apply Kd.R_alloc | apply Kd.R_drewN | apply Kd.R_drew)); exact HO_5.out, by repeat (first | (with_reducible first | exact HB.out | apply below_alloc | apply pw_below_drewN | apply below_drew1) | exact HB.out)⟩

-- NOT PRINTED: function 14 (levylaw2_pieces)

-- NOT PRINTED: function 3 (levylaw2_DaysMonths)

-- NOT PRINTED: function 7 (levylaw2_DaysShares)

end Go.Proofs.YtlipkhhpjelicaaDoor.PA
