/- The Go functions of this seat that the laws of part A come to, each as a plain Lean function ('f', its loops 'l0' ..) with a proof that the call comes to its answer. Conditions: where a function comes to a package-level table, the world holds that table ('Tabs'). Written by a program of this session (a changed copy of the print). -/
import Derived.Test.YtidbcenbcllfnaaDoorJPAx0
import Derived.Test.YtidbcenbcllfnaaDoorJPAx2
import Derived.Test.YtidbcenbcllfnaaDoorJScScan
namespace Go.Proofs.YtidbcenbcllfnaaDoor.PA
open Go.RowKit Go.Proofs.YtidbcenbcllfnaaDoorW.PrintWords Go.Proofs.YtidbcenbcllfnaaDoorW.PrintLast Go.Proofs.YtidbcenbcllfnaaDoorW.PrintMore
attribute [local go_sem] max2_int min2_int max_two min_two max_three min_three max_four min_four   -- for this text's walks alone
set_option linter.unusedVariables false
set_option linter.unusedSimpArgs false

/-! ### levylaw4_WordsJoins: function 5 -/
mutual
def levylaw4_WordsJoins.j0 : Nat → ByteArray → ByteArray → List (S33) → List (S33) → Bool → Option (Bool)
  | 0, _, _, _, _, _ => none
  | k + 1, x0, x1, x5, x8, x42 => if x42 = true then (some true) else (levylaw4_WordsJoins.l0 k x0 x1 x5 x8 0)
def levylaw4_WordsJoins.l0 : Nat → ByteArray → ByteArray → List (S33) → List (S33) → Int → Option (Bool)
  | 0, _, _, _, _, _ => none
  | k + 1, x0, x1, x5, x8, x11 => if x11 < (x8.length : Int) then (if 0 ≤ x11 then (levylaw4_WordsJoins.l0 k x0 x1 x5 (x8.set (x11 : Int).toNat (⟨(rd_T33 x8 x11).f0, wrap64 ((wrap64 (((rd_T33 x8 x11).f1) + (x0.size : Int))) + 1), (rd_T33 x8 x11).f2, (rd_T33 x8 x11).f3, (rd_T33 x8 x11).f4⟩ : S33)) (wrap64 (x11 + 1))) else (none)) else (if x0.size + 1 ≤ 9223372036854775807 then (if (x0 ++ (⟨#[10]⟩ : ByteArray)).size + x1.size ≤ 9223372036854775807 then ((words_Scan.f ((x0 ++ (⟨#[10]⟩ : ByteArray)) ++ x1)).bind fun bt157 => ((levylaw4_num.f bt157.2.2).bind fun t162 => (if t162 = 0 then (if x5.length + x8.length < 2932031007402 then ((levylaw4_same.f k bt157.1 (x5 ++ x8)).bind fun t166 => (some t166)) else (none)) else (some false)))) else (none)) else (none))
end
def levylaw4_WordsJoins.f (k : Nat) (a0 : ByteArray) (a1 : ByteArray) : Option (Bool) := (levylaw4_known.f k).bind fun t142 => (if t142 = true then (if (wrap64 ((a0.size : Int) + (a1.size : Int))) > 7999 then (some true) else ((words_Scan.f a0).bind fun bt143 => ((words_Scan.f a1).bind fun bt148 => ((levylaw4_num.f bt143.2.2).bind fun t153 => (if t153 = 0 then ((levylaw4_num.f bt148.2.2).bind fun t154 => (levylaw4_WordsJoins.j0 k a0 a1 bt143.1 bt148.1 (t154 != 0))) else (levylaw4_WordsJoins.j0 k a0 a1 bt143.1 bt148.1 true)))))) else (some false))
theorem levylaw4_WordsJoins.mono_l : ∀ k, (∀ y0 y1 y2 y3 y4, LeO (levylaw4_WordsJoins.j0 k y0 y1 y2 y3 y4) (levylaw4_WordsJoins.j0 (k + 1) y0 y1 y2 y3 y4)) ∧ (∀ y0 y1 y2 y3 y4, LeO (levylaw4_WordsJoins.l0 k y0 y1 y2 y3 y4) (levylaw4_WordsJoins.l0 (k + 1) y0 y1 y2 y3 y4))
  | 0 => ⟨fun _ _ _ _ _ r h => by simp [levylaw4_WordsJoins.j0] at h, fun _ _ _ _ _ r h => by simp [levylaw4_WordsJoins.l0] at h⟩
  | k + 1 => by
    obtain ⟨ih0, ih1⟩ := levylaw4_WordsJoins.mono_l k
    refine ⟨?_, ?_⟩
    · intro y0 y1 y2 y3 y4
      unfold levylaw4_WordsJoins.j0
      repeat' first
      | (with_reducible exact ih0 _ _ _ _ _)
      | (with_reducible exact ih1 _ _ _ _ _)
      | (with_reducible exact levylaw4_known.mono _)
      | (with_reducible exact levylaw4_same.mono _ _ _)
      | (with_reducible exact LeO.refl _)
      | (with_reducible exact LeO.none _)
      | (with_reducible refine LeO.ite ?_ ?_)
      | (with_reducible refine LeO.bind ?_ (fun _ => ?_))
      | exact ih0 _ _ _ _ _
      | exact ih1 _ _ _ _ _
      | exact levylaw4_known.mono _
      | exact levylaw4_same.mono _ _ _
      | exact LeO.none _
      | refine LeO.ite ?_ ?_
      | refine LeO.bind ?_ (fun _ => ?_)
    · intro y0 y1 y2 y3 y4
      unfold levylaw4_WordsJoins.l0
      repeat' first
      | (with_reducible exact ih0 _ _ _ _ _)
      | (with_reducible exact ih1 _ _ _ _ _)
      | (with_reducible exact levylaw4_known.mono _)
      | (with_reducible exact levylaw4_same.mono _ _ _)
      | (with_reducible exact LeO.refl _)
      | (with_reducible exact LeO.none _)
      | (with_reducible refine LeO.ite ?_ ?_)
      | (with_reducible refine LeO.bind ?_ (fun _ => ?_))
      | exact ih0 _ _ _ _ _
      | exact ih1 _ _ _ _ _
      | exact levylaw4_known.mono _
      | exact levylaw4_same.mono _ _ _
      | exact LeO.none _
      | refine LeO.ite ?_ ?_
      | refine LeO.bind ?_ (fun _ => ?_)
theorem levylaw4_WordsJoins.mono : ∀ a0 a1 k, LeO (levylaw4_WordsJoins.f k a0 a1) (levylaw4_WordsJoins.f (k + 1) a0 a1) := by
  intro a0 a1 k
  obtain ⟨ih0, ih1⟩ := levylaw4_WordsJoins.mono_l k
  unfold levylaw4_WordsJoins.f
  repeat' first
      | (with_reducible exact ih0 _ _ _ _ _)
      | (with_reducible exact ih1 _ _ _ _ _)
      | (with_reducible exact levylaw4_known.mono _)
      | (with_reducible exact levylaw4_same.mono _ _ _)
      | (with_reducible exact LeO.refl _)
      | (with_reducible exact LeO.none _)
      | (with_reducible refine LeO.ite ?_ ?_)
      | (with_reducible refine LeO.bind ?_ (fun _ => ?_))
      | exact ih0 _ _ _ _ _
      | exact ih1 _ _ _ _ _
      | exact levylaw4_known.mono _
      | exact levylaw4_same.mono _ _ _
      | exact LeO.none _
      | refine LeO.ite ?_ ?_
      | refine LeO.bind ?_ (fun _ => ?_)
set_option maxHeartbeats 8000000 in
set_option maxRecDepth 100000 in
theorem levylaw4_WordsJoins.calls (k : Nat) (a0 : ByteArray) (a1 : ByteArray) (r : Bool) (w : World) (hT : Tabs w) (h : levylaw4_WordsJoins.f k a0 a1 = some r) :
    Calls Tryd.prog 5 #[.string a0, .string a1] w fun e w' => e = .returned (.bool r) ∧ Below w.heap.size w w' := by
  have HB := Aside0.mk (Below.refl w.heap.size w)
  have HT := Aside0.mk hT
  clear hT
  have H : ((levylaw4_known.f k).bind fun t142 => (if t142 = true then (if (wrap64 ((a0.size : Int) + (a1.size : Int))) > 7999 then (some true) else ((words_Scan.f a0).bind fun bt143 => ((words_Scan.f a1).bind fun bt148 => ((levylaw4_num.f bt143.2.2).bind fun t153 => (if t153 = 0 then ((levylaw4_num.f bt148.2.2).bind fun t154 => (levylaw4_WordsJoins.j0 k a0 a1 bt143.1 bt148.1 (t154 != 0))) else (levylaw4_WordsJoins.j0 k a0 a1 bt143.1 bt148.1 true)))))) else (some false))) = some r := h
  clear h
  replace H := Option.bind_eq_some_iff.mp H
  obtain ⟨t142, A30, H⟩ := H
  replace H : (if t142 = true then (if (wrap64 ((a0.size : Int) + (a1.size : Int))) > 7999 then (some true) else ((words_Scan.f a0).bind fun bt143 => ((words_Scan.f a1).bind fun bt148 => ((levylaw4_num.f bt143.2.2).bind fun t153 => (if t153 = 0 then ((levylaw4_num.f bt148.2.2).bind fun t154 => (levylaw4_WordsJoins.j0 k a0 a1 bt143.1 bt148.1 (t154 != 0))) else (levylaw4_WordsJoins.j0 k a0 a1 bt143.1 bt148.1 true)))))) else (some false)) = some r := H
  have A3 := Aside0.mk A30
  clear A30
  by_cases c4 : t142 = true
  · subst c4
    have H1 : (if (wrap64 ((a0.size : Int) + (a1.size : Int))) > 7999 then (some true) else ((words_Scan.f a0).bind fun bt143 => ((words_Scan.f a1).bind fun bt148 => ((levylaw4_num.f bt143.2.2).bind fun t153 => (if t153 = 0 then ((levylaw4_num.f bt148.2.2).bind fun t154 => (levylaw4_WordsJoins.j0 k a0 a1 bt143.1 bt148.1 (t154 != 0))) else (levylaw4_WordsJoins.j0 k a0 a1 bt143.1 bt148.1 true)))))) = some r := by rw [if_pos rfl] at H; exact H
    clear H
    have H := H1
    clear H1
    by_cases c5 : (wrap64 ((a0.size : Int) + (a1.size : Int))) > 7999
    · rw [if_pos c5] at H
      have c5b0 : decide (7999 < (wrap64 ((a0.size : Int) + (a1.size : Int)))) = true := decide_eq_true c5
      clear c5
      obtain rfl := Option.some.inj H
      go_enter Tryd.func5, Tryd.ntmps5
      go_wp2_with (first | ((with_reducible refine gate_callee (f := 15) rfl ?_); refine goesL_ (some 15) rfl rfl Tryd.func15 (by kernel_rfl) rfl #[] rfl (by (try simp only [List.map_toArray, List.map_cons, List.map_nil]); first | done | rfl | (simp only [List.length_drop, List.length_take]; rfl)) ?_; (with_reducible refine (levylaw4_known.calls k  true _ ?side1 A3.out).mono ?_); (case side1 => first | (with_reducible exact HT.out) | (with_reducible exact HT.out.below HB.out) | (with_reducible refine Tabs.below HT.out ?_; repeat (first | (with_reducible first | exact HB.out | apply below_alloc | apply pw_below_drewN | apply below_drew1) | exact HB.out))); rintro e w6 ⟨rfl, hb⟩; refine ⟨_, rfl, ?_⟩; have n0_ := Aside0.mk (below_step (by repeat (first | (with_reducible first | exact HB.out | apply below_alloc | apply pw_below_drewN | apply below_drew1) | exact HB.out)) hb); clear HB; have HB := n0_; clear n0_; (try clear hb); (try clear hb2); (try clear hk); (try clear hi)))
      go_ret
      exact ⟨by first | rfl | (simp [errW_none, errW_some] <;> rfl) | (simp [*, errW_none, errW_some] <;> rfl), by repeat (first | (with_reducible first | exact HB.out | apply below_alloc | apply pw_below_drewN | apply below_drew1) | exact HB.out)⟩
    · rw [if_neg c5] at H
      have c5b0 : decide (7999 < (wrap64 ((a0.size : Int) + (a1.size : Int)))) = false := decide_eq_false c5
      clear c5
      replace H := Option.bind_eq_some_iff.mp H
      obtain ⟨⟨t143, t144, t145⟩, A70, H⟩ := H
      replace H : ((words_Scan.f a1).bind fun bt148 => ((levylaw4_num.f t145).bind fun t153 => (if t153 = 0 then ((levylaw4_num.f bt148.2.2).bind fun t154 => (levylaw4_WordsJoins.j0 k a0 a1 t143 bt148.1 (t154 != 0))) else (levylaw4_WordsJoins.j0 k a0 a1 t143 bt148.1 true)))) = some r := H
      have A7 := Aside0.mk A70
      clear A70
      replace H := Option.bind_eq_some_iff.mp H
      obtain ⟨⟨t148, t149, t150⟩, A80, H⟩ := H
      replace H : ((levylaw4_num.f t145).bind fun t153 => (if t153 = 0 then ((levylaw4_num.f t150).bind fun t154 => (levylaw4_WordsJoins.j0 k a0 a1 t143 t148 (t154 != 0))) else (levylaw4_WordsJoins.j0 k a0 a1 t143 t148 true))) = some r := H
      have A8 := Aside0.mk A80
      clear A80
      have HC9 := Aside0.mk H
      clear H
      go_enter Tryd.func5, Tryd.ntmps5
      go_upto_region 7 with (first | ((with_reducible refine gate_callee (f := 15) rfl ?_); refine goesL_ (some 15) rfl rfl Tryd.func15 (by kernel_rfl) rfl #[] rfl (by (try simp only [List.map_toArray, List.map_cons, List.map_nil]); first | done | rfl | (simp only [List.length_drop, List.length_take]; rfl)) ?_; (with_reducible refine (levylaw4_known.calls k  true _ ?side1 A3.out).mono ?_); (case side1 => first | (with_reducible exact HT.out) | (with_reducible exact HT.out.below HB.out) | (with_reducible refine Tabs.below HT.out ?_; repeat (first | (with_reducible first | exact HB.out | apply below_alloc | apply pw_below_drewN | apply below_drew1) | exact HB.out))); rintro e w10 ⟨rfl, hb⟩; refine ⟨_, rfl, ?_⟩; have n0_ := Aside0.mk (below_step (by repeat (first | (with_reducible first | exact HB.out | apply below_alloc | apply pw_below_drewN | apply below_drew1) | exact HB.out)) hb); clear HB; have HB := n0_; clear n0_; (try clear hb); (try clear hb2); (try clear hk); (try clear hi)) | ((with_reducible refine gate_callee (f := 11) rfl ?_); refine goesL_ (some 25) rfl rfl Tryd.func11 (by kernel_rfl) rfl #[.string a0] rfl (by (try simp only [List.map_toArray, List.map_cons, List.map_nil]); first | done | rfl | (simp only [List.length_drop, List.length_take]; rfl)) ?_; (with_reducible refine (words_Scan.calls a0 t143 t144 t145 _ ?side1 A7.out).mono ?_); (case side1 => first | (with_reducible exact HT.out) | (with_reducible exact HT.out.below HB.out) | (with_reducible refine Tabs.below HT.out ?_; repeat (first | (with_reducible first | exact HB.out | apply below_alloc | apply pw_below_drewN | apply below_drew1) | exact HB.out))); rintro e w11 ⟨v146, rfl, ho0, hb⟩; refine ⟨_, rfl, ?_⟩; have n0_ := Aside0.mk (Kd.R_lower ho0 (below_size (by repeat (first | (with_reducible first | exact HB.out | apply below_alloc | apply pw_below_drewN | apply below_drew1) | exact HB.out)))); have n1_ := Aside0.mk (below_step (by repeat (first | (with_reducible first | exact HB.out | apply below_alloc | apply pw_below_drewN | apply below_drew1) | exact HB.out)) hb); clear HB; have HO147 := n0_; have HB := n1_; clear n0_ n1_; (try clear hb); (try clear hb2); (try clear hk); (try clear hi); (try clear ho0)) | ((with_reducible refine gate_callee (f := 11) rfl ?_); refine goesL_ (some 31) rfl rfl Tryd.func11 (by kernel_rfl) rfl #[.string a1] rfl (by (try simp only [List.map_toArray, List.map_cons, List.map_nil]); first | done | rfl | (simp only [List.length_drop, List.length_take]; rfl)) ?_; (with_reducible refine (words_Scan.calls a1 t148 t149 t150 _ ?side1 A8.out).mono ?_); (case side1 => first | (with_reducible exact HT.out) | (with_reducible exact HT.out.below HB.out) | (with_reducible refine Tabs.below HT.out ?_; repeat (first | (with_reducible first | exact HB.out | apply below_alloc | apply pw_below_drewN | apply below_drew1) | exact HB.out))); rintro e w12 ⟨v151, rfl, ho0, hb⟩; refine ⟨_, rfl, ?_⟩; have n0_ := Aside0.mk (Kd.R_elder' (by (with_reducible repeat (first | apply Kd.R_alloc | apply Kd.R_drewN | apply Kd.R_drew)); exact HO147.out) (Kd.R_base ho0) hb); have n1_ := Aside0.mk (Kd.R_lower (Kd.R_new' ho0 (Kd.R_lt (by (with_reducible repeat (first | apply Kd.R_alloc | apply Kd.R_drewN | apply Kd.R_drew)); exact HO147.out))) (below_size (by repeat (first | (with_reducible first | exact HB.out | apply below_alloc | apply pw_below_drewN | apply below_drew1) | exact HB.out)))); have n2_ := Aside0.mk (below_step (by repeat (first | (with_reducible first | exact HB.out | apply below_alloc | apply pw_below_drewN | apply below_drew1) | exact HB.out)) hb); clear HO147; clear HB; have HO147 := n0_; have HO152 := n1_; have HB := n2_; clear n0_ n1_ n2_; (try clear hb); (try clear hb2); (try clear hk); (try clear hi); (try clear ho0)))
      (try simp only [Act.put, List.setIfInBounds_toArray, List.set_cons_zero, List.set_cons_succ])
      go_cut [42] (fun v42 wc => ∃ (kq : Nat) (x42_8 : Bool), v42 = .bool x42_8 ∧ Aside0 (levylaw4_WordsJoins.j0 kq a0 a1 t143 t148 x42_8 = some r) ∧ Aside0 (kq ≤ k) ∧ Aside0 (Kd.R k33 33 wc w.heap.size (fun k_ => some k_ ≠ (v151 : Value).ownBlock) v146 t143) ∧ Aside0 (Kd.R k33 33 wc w.heap.size (fun k_ => some k_ ≠ (v146 : Value).ownBlock) v151 t148) ∧ Aside0 (Below w.heap.size w wc))
      case first =>
        have H := HC9.out
        clear HC9
        replace H := Option.bind_eq_some_iff.mp H
        obtain ⟨t153, A130, H⟩ := H
        replace H : (if t153 = 0 then ((levylaw4_num.f t150).bind fun t154 => (levylaw4_WordsJoins.j0 k a0 a1 t143 t148 (t154 != 0))) else (levylaw4_WordsJoins.j0 k a0 a1 t143 t148 true)) = some r := H
        have A13 := Aside0.mk A130
        clear A130
        by_cases c14 : t153 = 0
        · rw [if_pos c14] at H
          have c14b0 : (t153 == 0) = true := beq_iff_eq.mpr c14
          have c14b1 : (t153 != 0) = false := bne_eq_false_iff_eq.mpr c14
          clear c14
          (first | rw [c14b0] | (simp only [i64_w, i32_w]; rw [c14b0]) | skip)
          replace H := Option.bind_eq_some_iff.mp H
          obtain ⟨t154, A150, H⟩ := H
          replace H : (levylaw4_WordsJoins.j0 k a0 a1 t143 t148 (t154 != 0)) = some r := H
          have A15 := Aside0.mk A150
          clear A150
          have H' := Aside0.mk H
          clear H
          go_wp2_with (first | ((with_reducible refine gate_callee (f := 13) rfl ?_); refine goesL_ (some 36) rfl rfl Tryd.func13 (by kernel_rfl) rfl #[.int .i64 t145] rfl (by (try simp only [List.map_toArray, List.map_cons, List.map_nil]); first | done | rfl | (simp only [List.length_drop, List.length_take]; rfl)) ?_; (with_reducible refine (levylaw4_num.calls t145 t153 _ A13.out).mono ?_); rintro e w' ⟨rfl, ⟨nd, rfl⟩⟩; refine ⟨_, rfl, ?_⟩) | (go_at_call 13; (with_reducible refine (levylaw4_num.calls t150 t154 _ A15.out).mono ?_); rintro e w' ⟨rfl, ⟨nd, rfl⟩⟩))
          go_meet
          case rel => exact ⟨_, ((t154 != 0)), (by first | rfl | (simp; done) | (simp [*]; done)), H', ⟨by first | omega | exact Nat.le_refl _⟩, ⟨by (with_reducible repeat (first | apply Kd.R_alloc | apply Kd.R_drewN | apply Kd.R_drew)); exact Kd.R_mono HO147.out (fun _ hk => hk.2)⟩, ⟨by (with_reducible repeat (first | apply Kd.R_alloc | apply Kd.R_drewN | apply Kd.R_drew)); exact Kd.R_mono HO152.out (fun _ hk => hk.2)⟩, ⟨by repeat (first | (with_reducible first | exact HB.out | apply below_alloc | apply pw_below_drewN | apply below_drew1) | exact HB.out)⟩⟩
        · rw [if_neg c14] at H
          have c14b0 : (t153 == 0) = false := beq_eq_false_iff_ne.mpr c14
          have c14b1 : (t153 != 0) = true := bne_iff_ne.mpr c14
          (first | rw [c14b0] | (simp only [i64_w, i32_w]; rw [c14b0]) | skip)
          have H' := Aside0.mk H
          clear H
          go_wp2_with (first | ((with_reducible refine gate_callee (f := 13) rfl ?_); refine goesL_ (some 36) rfl rfl Tryd.func13 (by kernel_rfl) rfl #[.int .i64 t145] rfl (by (try simp only [List.map_toArray, List.map_cons, List.map_nil]); first | done | rfl | (simp only [List.length_drop, List.length_take]; rfl)) ?_; (with_reducible refine (levylaw4_num.calls t145 t153 _ A13.out).mono ?_); rintro e w' ⟨rfl, ⟨nd, rfl⟩⟩; refine ⟨_, rfl, ?_⟩))
          go_meet
          case rel => exact ⟨_, (true), (by first | rfl | (simp; done) | (simp [*]; done)), H', ⟨by first | omega | exact Nat.le_refl _⟩, ⟨by (with_reducible repeat (first | apply Kd.R_alloc | apply Kd.R_drewN | apply Kd.R_drew)); exact Kd.R_mono HO147.out (fun _ hk => hk.2)⟩, ⟨by (with_reducible repeat (first | apply Kd.R_alloc | apply Kd.R_drewN | apply Kd.R_drew)); exact Kd.R_mono HO152.out (fun _ hk => hk.2)⟩, ⟨by repeat (first | (with_reducible first | exact HB.out | apply below_alloc | apply pw_below_drewN | apply below_drew1) | exact HB.out)⟩⟩
      case rest =>
        clear HC9
        try clear c1
        try clear p2
        try clear c4
        try clear c5
        try clear c5b0
        try clear p6
        try clear c11
        try clear c13
        try clear c14
        try clear c14b0
        try clear c14b1
        try clear c15
        obtain ⟨kq, x42_8, rfl, HA, HJ8, HO_5, HO_8, HB⟩ := hcut
        cases kq with
        | zero => exact absurd HA.out (by simp [levylaw4_WordsJoins.j0])
        | succ kj8 =>
          have H := HA.out
          clear HA
          simp only [levylaw4_WordsJoins.j0] at H
          by_cases c16 : x42_8 = true
          · subst c16
            have H1 : (some true) = some r := by rw [if_pos rfl] at H; exact H
            clear H
            have H := H1
            clear H1
            obtain rfl := Option.some.inj H
            go_wp2
            go_ret
            exact ⟨by first | rfl | (simp [errW_none, errW_some] <;> rfl) | (simp [*, errW_none, errW_some] <;> rfl), by repeat (first | (with_reducible first | exact HB.out | apply below_alloc | apply pw_below_drewN | apply below_drew1) | exact HB.out)⟩
          · replace c16 := Bool.eq_false_iff.mpr c16
            subst c16
            have H1 : (levylaw4_WordsJoins.l0 kj8 a0 a1 t143 t148 0) = some r := by rw [if_neg (show ¬ (false = true) by decide)] at H; exact H
            clear H
            have H := H1
            clear H1
            have H' := Aside0.mk H
            clear H
            go_wp2
            go_loopg [11] kj8 (fun kq v11 w' => ∃ (x8_2 : List (S33)) (x11_2 : Int), v11 = .int .i64 x11_2 ∧ Aside0 (levylaw4_WordsJoins.l0 kq a0 a1 t143 x8_2 x11_2 = some r) ∧ Aside0 (kq ≤ kj8) ∧ Aside0 (Kd.R k33 33 w' w.heap.size (fun k_ => some k_ ≠ (v151 : Value).ownBlock) v146 t143) ∧ Aside0 (Kd.R k33 33 w' w.heap.size (fun k_ => some k_ ≠ (v146 : Value).ownBlock) v151 x8_2) ∧ Aside0 (Below w.heap.size w w'))
            case atStart => exact ⟨(t148), (0), (by first | rfl | (simp; done) | (simp [*]; done)), H', ⟨Nat.le_refl _⟩, ⟨by (with_reducible repeat (first | apply Kd.R_alloc | apply Kd.R_drewN | apply Kd.R_drew)); exact HO_5.out⟩, ⟨by (with_reducible repeat (first | apply Kd.R_alloc | apply Kd.R_drewN | apply Kd.R_drew)); exact HO_8.out⟩, ⟨by repeat (first | (with_reducible first | exact HB.out | apply below_alloc | apply pw_below_drewN | apply below_drew1) | exact HB.out)⟩⟩
            case round =>
              clear H'
              try clear c1
              try clear p2
              try clear c4
              try clear c5
              try clear c5b0
              try clear p6
              try clear c11
              try clear c13
              try clear c14
              try clear c14b0
              try clear c14b1
              try clear c15
              try clear c16
              try clear p2
              try clear p6
              obtain ⟨x8_2, x11_2, rfl, HA, HK2, HO_5, HO_8, HB⟩ := hrel
              cases gk with
              | zero => exact absurd HA.out (by simp [levylaw4_WordsJoins.l0])
              | succ k2 =>
                have H := HA.out
                clear HA
                simp only [levylaw4_WordsJoins.l0] at H
                by_cases c17 : x11_2 < (x8_2.length : Int)
                · rw [if_pos c17] at H
                  have c17b0 : decide (x11_2 < (x8_2.length : Int)) = true := decide_eq_true c17
                  clear c17
                  by_cases c18 : 0 ≤ x11_2
                  · rw [if_pos c18] at H
                    have c18b0 : decide (0 ≤ x11_2) = true := decide_eq_true c18
                    clear c18
                    obtain ⟨y156, hy156⟩ : ∃ y_ : List (S33), y_ = (x8_2.set (x11_2 : Int).toNat (⟨(rd_T33 x8_2 x11_2).f0, wrap64 ((wrap64 (((rd_T33 x8_2 x11_2).f1) + (a0.size : Int))) + 1), (rd_T33 x8_2 x11_2).f2, (rd_T33 x8_2 x11_2).f3, (rd_T33 x8_2 x11_2).f4⟩ : S33)) := ⟨_, rfl⟩
                    replace H : (levylaw4_WordsJoins.l0 k2 a0 a1 t143 y156 (wrap64 (x11_2 + 1))) = some r := by first | (rw [hy156]; with_reducible exact H) | (have H2_ := (Option.bind_some _ _).symm.trans H; rw [hy156]; with_reducible exact H2_) | (have H2_ := (Option.bind_some _ _).symm.trans H; with_reducible exact H2_) | with_reducible exact H | (rw [hy156]; exact H) | exact H
                    have Ny156 := Aside0.mk hy156
                    clear hy156
                    have H' := Aside0.mk H
                    clear H
                    obtain ⟨Ao20, co20, eo20⟩ := Kd.R_slice HO_8.out
                    subst eo20
                    have p155 : 0 ≤ (x11_2 : Int) := of_decide_eq_true (by first | (with_reducible assumption) | assumption)
                    have q155 : x11_2 < (x8_2.length : Int) := of_decide_eq_true (by first | (with_reducible assumption) | assumption)
                    obtain ⟨ad155, e155, hx155_0, hx155_1, hx155_2, hx155_3, hx155_4⟩ := at_T33 (Kd.R_reads' HO_8.out).2.2 x11_2 p155 q155
                    cases e155
                    replace p155 := eq_true p155
                    replace q155 := eq_true q155
                    have p19 : 0 ≤ (x11_2 : Int) := of_decide_eq_true (by first | (with_reducible assumption) | assumption)
                    have q19 : (x11_2 : Int) < ((x8_2.length : Int) : Int) := of_decide_eq_true (by first | (with_reducible assumption) | assumption)
                    obtain ⟨go19, co19, eo19, gb19, gl19, cl19, HG19⟩ := Kd.R_form HO_8.out (by omega)
                    (first | cases eo19 | (injection eo19 with ea_ en_ ec_; (first | subst ea_ | (injection ea_ with ea_; subst ea_)); subst ec_; clear en_))
                    have GB19 := Aside0.mk gb19
                    have GG19 := Aside0.mk HG19
                    clear gb19 gl19 HG19
                    (first | simp only [add_plain] at hx155_0 | skip)
                    (first | simp only [add_plain] at hx155_1 | skip)
                    (first | simp only [add_plain] at hx155_2 | skip)
                    (first | simp only [add_plain] at hx155_3 | skip)
                    (first | simp only [add_plain] at hx155_4 | skip)
                    obtain ⟨ce19, hcl19, hM19, hcc19, hfr19⟩ := Kd.R_elem HO_8.out z33 (x11_2 : Int) p19 q19
                    obtain rfl := k33_openM hM19
                    have hx19_0 : wr.cell? ⟨go19, (x11_2 : Int).toNat * 5, none⟩ = some (.int .i64 ((rd_T33 x8_2 x11_2).f0)) := hcc19 0 _ rfl
                    have hx19_1 : wr.cell? ⟨go19, (x11_2 : Int).toNat * 5 + 1, none⟩ = some (.int .i64 ((rd_T33 x8_2 x11_2).f1)) := hcc19 1 _ rfl
                    have hx19_2 : wr.cell? ⟨go19, (x11_2 : Int).toNat * 5 + 2, none⟩ = some (.string ((rd_T33 x8_2 x11_2).f2)) := hcc19 2 _ rfl
                    have hx19_3 : wr.cell? ⟨go19, (x11_2 : Int).toNat * 5 + 3, none⟩ = some (.int .i64 ((rd_T33 x8_2 x11_2).f3)) := hcc19 3 _ rfl
                    have hx19_4 : wr.cell? ⟨go19, (x11_2 : Int).toNat * 5 + 4, none⟩ = some (.int .i64 ((rd_T33 x8_2 x11_2).f4)) := hcc19 4 _ rfl
                    have hf19_0 : wr.frozen? ⟨go19, (x11_2 : Int).toNat * 5, none⟩ = false := hfr19 0
                    have hf19_1 : wr.frozen? ⟨go19, (x11_2 : Int).toNat * 5 + 1, none⟩ = false := hfr19 1
                    have hf19_2 : wr.frozen? ⟨go19, (x11_2 : Int).toNat * 5 + 2, none⟩ = false := hfr19 2
                    have hf19_3 : wr.frozen? ⟨go19, (x11_2 : Int).toNat * 5 + 3, none⟩ = false := hfr19 3
                    have hf19_4 : wr.frozen? ⟨go19, (x11_2 : Int).toNat * 5 + 4, none⟩ = false := hfr19 4
                    clear hcl19 hcc19 hfr19 hM19
                    replace p19 := eq_true p19
                    replace q19 := eq_true q19
                    have HX21 := Aside0.mk (show Kd.R k33 33 wr w.heap.size (fun k_ => some k_ ≠ (v146 : Value).ownBlock) (.slice (some ⟨go19, 0, none⟩) x8_2.length co20) x8_2 from (by (with_reducible repeat (first | apply Kd.R_alloc | apply Kd.R_drewN | apply Kd.R_drew)); exact HO_8.out))
                    obtain ⟨ce21, hcl21, hM21, hcc21, hfr21⟩ := Kd.R_elem HX21.out z33 (x11_2 : Int) (of_decide_eq_true (by first | (with_reducible assumption) | assumption)) (by have h_ : (x11_2 : Int) < ((x8_2.length : Int) : Int) := of_decide_eq_true (by first | (with_reducible assumption) | assumption); first | exact h_ | (have e_ := (Kd.R_reads' HO_8.out).1; omega) | simpa using h_)
                    obtain rfl := k33_openM hM21
                    have HP21 := Kd.R_seg HX21.out (x11_2 : Int) (of_decide_eq_true (by first | (with_reducible assumption) | assumption)) (by have h_ : (x11_2 : Int) < ((x8_2.length : Int) : Int) := of_decide_eq_true (by first | (with_reducible assumption) | assumption); first | exact h_ | (have e_ := (Kd.R_reads' HO_8.out).1; omega) | simpa using h_) (seg := [.int .i64 (wrap64 ((wrap64 (((rd_T33 x8_2 x11_2).f1) + (a0.size : Int))) + 1))]) (j := 1) hcl21 hcc21 (show 2 ≤ 5 from by decide) (x' := (⟨(rd_T33 x8_2 x11_2).f0, wrap64 ((wrap64 (((rd_T33 x8_2 x11_2).f1) + (a0.size : Int))) + 1), (rd_T33 x8_2 x11_2).f2, (rd_T33 x8_2 x11_2).f3, (rd_T33 x8_2 x11_2).f4⟩ : S33)) (k33_mkM _ _ _ (⟨(rd_T33 x8_2 x11_2).f0, wrap64 ((wrap64 (((rd_T33 x8_2 x11_2).f1) + (a0.size : Int))) + 1), (rd_T33 x8_2 x11_2).f2, (rd_T33 x8_2 x11_2).f3, (rd_T33 x8_2 x11_2).f4⟩ : S33) ) (fun _ hk => hk)
                    have hx21_1 := hcc21 1 _ rfl
                    (try simp only [show (k33).sz = 5 from rfl, Nat.mul_one, Nat.add_zero] at hx21_1)
                    have hf21_1 := hfr21 1
                    (try simp only [show (k33).sz = 5 from rfl, Nat.mul_one, Nat.add_zero] at hf21_1)
                    clear hcl21 hcc21 hfr21 hM21
                    go_wp2_with (first | ((with_reducible refine gate_store (t := 3) (p := 61) rfl ?_); refine store_event (t := 3) (p := 61) (v := ?vo_w22) (w1 := (wr.setCell ⟨go19, (x11_2 : Int).toNat * 5 + 1, none⟩ (.int .i64 (wrap64 ((wrap64 (((rd_T33 x8_2 x11_2).f1) + (a0.size : Int))) + 1))))) ?hg ?ho ?hn ?hr ?_; (case ho => rfl); (case hg => rfl); (case hn => rfl); (case hr => first | (go_simp; done) | (go_simp; rfl)); intro w22 hw; have hg : wr.grownBy w22 (some go19) := (by rw [hw]; exact HP21.2); have hp_ : Kd.R k33 33 w22 w.heap.size (fun k_ => some k_ ≠ (v146 : Value).ownBlock) (.slice (some ⟨go19, 0, none⟩) x8_2.length co20) y156 := (by rw [hw, Ny156.out]; exact HP21.1); clear HP21; have n0_ := Aside0.mk (Kd.R_after (v := (.slice (some ⟨go19, 0, none⟩) x8_2.length co20)) (v1 := (.slice (some ⟨go19, 0, none⟩) x8_2.length co20)) (ok := (fun _ => True)) (by (with_reducible repeat (first | apply Kd.R_alloc | apply Kd.R_drewN | apply Kd.R_drew)); exact Kd.R_mono HO_5.out (fun _ hk => ⟨trivial, hk⟩)) hg (.inl rfl)); have n1_ := Aside0.mk (hp_); have n2_ := Aside0.mk ((by rw [hw]; exact below_set (HB.out) GB19.out : Below w.heap.size w w22)); clear HO_5; clear HO_8; clear HB; have HO_5 := n0_; have HO_8 := n1_; have HB := n2_; clear n0_ n1_ n2_; clear hg hw hp_))
                    go_roundg k2
                    case measure => have := HJ8.out; have := HK2.out; omega
                    case rel => exact ⟨(y156), (wrap64 (x11_2 + 1)), (by first | rfl | (simp; done) | (simp [*]; done)), H', ⟨by have := HJ8.out; have := HK2.out; omega⟩, ⟨by (with_reducible repeat (first | apply Kd.R_alloc | apply Kd.R_drewN | apply Kd.R_drew)); exact Kd.R_mono HO_5.out (fun _ hk => hk.2)⟩, ⟨by (with_reducible repeat (first | apply Kd.R_alloc | apply Kd.R_drewN | apply Kd.R_drew)); exact HO_8.out⟩, ⟨by repeat (first | (with_reducible first | exact HB.out | apply below_alloc | apply pw_below_drewN | apply below_drew1) | exact HB.out)⟩⟩
                  · rw [if_neg c18] at H
                    exact absurd H (by simp)
                · rw [if_neg c17] at H
                  have c17b0 : decide (x11_2 < (x8_2.length : Int)) = false := decide_eq_false c17
                  clear c17
                  by_cases c23 : a0.size + 1 ≤ 9223372036854775807
                  · rw [if_pos c23] at H
                    have c23b0 := eq_true c23
                    have c23b1 : decide (a0.size + 1 ≤ 9223372036854775807) = true := decide_eq_true c23
                    try have c23b2 : (9223372036854775807 < a0.size + 1) = False := eq_false (Nat.not_lt.2 c23)
                    by_cases c24 : (a0 ++ (⟨#[10]⟩ : ByteArray)).size + a1.size ≤ 9223372036854775807
                    · rw [if_pos c24] at H
                      have c24b0 := eq_true c24
                      have c24b1 : decide ((a0 ++ (⟨#[10]⟩ : ByteArray)).size + a1.size ≤ 9223372036854775807) = true := decide_eq_true c24
                      try have c24b2 : (9223372036854775807 < (a0 ++ (⟨#[10]⟩ : ByteArray)).size + a1.size) = False := eq_false (Nat.not_lt.2 c24)
                      (try have c24b3 : (9223372036854775807 < a0.size + 1 + a1.size) = False := eq_false (Nat.not_lt.2 (Nat.le_trans (Nat.le_of_eq (by simp only [ByteArray.size_append] <;> first | rfl | exact Nat.add_assoc _ _ _ | exact congrArg (· + 1) (Nat.add_assoc _ _ _))) c24)))
                      (try have c24b4 : (a0.size + 1 + a1.size ≤ 9223372036854775807) = True := eq_true (Nat.le_trans (Nat.le_of_eq (by simp only [ByteArray.size_append] <;> first | rfl | exact Nat.add_assoc _ _ _ | exact congrArg (· + 1) (Nat.add_assoc _ _ _))) c24))
                      replace H := Option.bind_eq_some_iff.mp H
                      obtain ⟨⟨t157, t158, t159⟩, A250, H⟩ := H
                      replace H : ((levylaw4_num.f t159).bind fun t162 => (if t162 = 0 then (if t143.length + x8_2.length < 2932031007402 then ((levylaw4_same.f k2 t157 (t143 ++ x8_2)).bind fun t166 => (some t166)) else (none)) else (some false))) = some r := H
                      have A25 := Aside0.mk A250
                      clear A250
                      replace H := Option.bind_eq_some_iff.mp H
                      obtain ⟨t162, A260, H⟩ := H
                      replace H : (if t162 = 0 then (if t143.length + x8_2.length < 2932031007402 then ((levylaw4_same.f k2 t157 (t143 ++ x8_2)).bind fun t166 => (some t166)) else (none)) else (some false)) = some r := H
                      have A26 := Aside0.mk A260
                      clear A260
                      by_cases c27 : t162 = 0
                      · rw [if_pos c27] at H
                        have c27b0 : (t162 == 0) = true := beq_iff_eq.mpr c27
                        have c27b1 : (t162 != 0) = false := bne_eq_false_iff_eq.mpr c27
                        clear c27
                        by_cases c28 : t143.length + x8_2.length < 2932031007402
                        · rw [if_pos c28] at H
                          have LMc28 := Aside0.mk c28
                          clear c28
                          obtain ⟨y163, hy163⟩ : ∃ y_ : List (S33), y_ = (t143 ++ x8_2) := ⟨_, rfl⟩
                          replace H : ((levylaw4_same.f k2 t157 y163).bind fun t166 => (some t166)) = some r := by first | (rw [hy163]; with_reducible exact H) | (have H2_ := (Option.bind_some _ _).symm.trans H; rw [hy163]; with_reducible exact H2_) | (have H2_ := (Option.bind_some _ _).symm.trans H; with_reducible exact H2_) | with_reducible exact H | (rw [hy163]; exact H) | exact H
                          have Ny163 := Aside0.mk hy163
                          clear hy163
                          replace H := Option.bind_eq_some_iff.mp H
                          obtain ⟨t166, A290, H⟩ := H
                          replace H : (some t166) = some r := H
                          have A29 := Aside0.mk A290
                          clear A290
                          obtain rfl := Option.some.inj H
                          obtain ⟨Ao30, co30, eo30⟩ := Kd.R_slice HO_8.out
                          subst eo30
                          go_wp2_with (first | ((with_reducible refine gate_callee (f := 11) rfl ?_); refine goesL_ (some 67) rfl rfl Tryd.func11 (by kernel_rfl) rfl #[.string ((a0 ++ (⟨#[10]⟩ : ByteArray)) ++ a1)] rfl (by (try simp only [List.map_toArray, List.map_cons, List.map_nil]); first | done | rfl | (simp only [List.length_drop, List.length_take]; rfl)) ?_; (with_reducible refine (words_Scan.calls ((a0 ++ (⟨#[10]⟩ : ByteArray)) ++ a1) t157 t158 t159 _ ?side1 A25.out).mono ?_); (case side1 => first | (with_reducible exact HT.out) | (with_reducible exact HT.out.below HB.out) | (with_reducible refine Tabs.below HT.out ?_; repeat (first | (with_reducible first | exact HB.out | apply below_alloc | apply pw_below_drewN | apply below_drew1) | exact HB.out))); rintro e w31 ⟨v160, rfl, ho0, hb⟩; refine ⟨_, rfl, ?_⟩; have n0_ := Aside0.mk (Kd.R_elder' (by (with_reducible repeat (first | apply Kd.R_alloc | apply Kd.R_drewN | apply Kd.R_drew)); exact HO_5.out) (Kd.R_base ho0) hb); have n1_ := Aside0.mk (Kd.R_elder' (by (with_reducible repeat (first | apply Kd.R_alloc | apply Kd.R_drewN | apply Kd.R_drew)); exact HO_8.out) (Kd.R_base ho0) hb); have n2_ := Aside0.mk (Kd.R_lower (Kd.R_new' (Kd.R_new' ho0 (Kd.R_lt (by (with_reducible repeat (first | apply Kd.R_alloc | apply Kd.R_drewN | apply Kd.R_drew)); exact HO_5.out))) (Kd.R_lt (by (with_reducible repeat (first | apply Kd.R_alloc | apply Kd.R_drewN | apply Kd.R_drew)); exact HO_8.out))) (below_size (by repeat (first | (with_reducible first | exact HB.out | apply below_alloc | apply pw_below_drewN | apply below_drew1) | exact HB.out)))); have n3_ := Aside0.mk (below_step (by repeat (first | (with_reducible first | exact HB.out | apply below_alloc | apply pw_below_drewN | apply below_drew1) | exact HB.out)) hb); clear HO_5; clear HO_8; clear HB; have HO_5 := n0_; have HO_8 := n1_; have HO161 := n2_; have HB := n3_; clear n0_ n1_ n2_ n3_; (try clear hb); (try clear hb2); (try clear hk); (try clear hi); (try clear ho0)) | ((with_reducible refine gate_callee (f := 13) rfl ?_); refine goesL_ (some 72) rfl rfl Tryd.func13 (by kernel_rfl) rfl #[.int .i64 t159] rfl (by (try simp only [List.map_toArray, List.map_cons, List.map_nil]); first | done | rfl | (simp only [List.length_drop, List.length_take]; rfl)) ?_; (with_reducible refine (levylaw4_num.calls t159 t162 _ A26.out).mono ?_); rintro e w' ⟨rfl, ⟨nd, rfl⟩⟩; refine ⟨_, rfl, ?_⟩) | ((with_reducible refine gate_builtin (b := .append) (xs := #[.tmp 76, .tmp 77]) rfl ?_); (try (refine gate_guard (by rfl) ?_; dsimp only)); at_builtin; refine Kd.R_append_rows k33 (w0 := w) w.heap.size rfl (.tmp 76) (.tmp 77) 22 33 (.agg #[(.int .i64 0), (.int .i64 0), (.string ⟨#[]⟩), (.int .i64 0), (.int .i64 0)]) 48 rfl Tryd.underlying22 info33 rfl (by decide) (by omega) v146 t143 x8_2 _ _ _ (fun k_ => some k_ ≠ (.slice Ao30 x8_2.length co30 : Value).ownBlock ∧ some k_ ≠ (v160 : Value).ownBlock) (fun _ => False) rfl rfl ?aO ?aR (fun _ _ h => h) (fun _ h => h.elim) ?aF ?aB ?aS ?aL ?_; (case aR => repeat (first | exact (Kd.R_reads' HO_8.out).2.2 | (with_reducible refine Kd.C_alloc ?_ _) | (with_reducible refine Kd.C_drewN ?_ _) | (with_reducible refine Kd.C_drew ?_))); (case aB => exact (by repeat (first | (with_reducible first | exact HB.out | apply below_alloc | apply pw_below_drewN | apply below_drew1) | exact HB.out))); (case aF => exact (fun k_ hk => ⟨Kd.fresh' (Kd.R_lt (by (with_reducible repeat (first | apply Kd.R_alloc | apply Kd.R_drewN | apply Kd.R_drew)); exact HO_8.out)) k_ hk, Kd.fresh' (Kd.R_lt (by (with_reducible repeat (first | apply Kd.R_alloc | apply Kd.R_drewN | apply Kd.R_drew)); exact HO161.out)) k_ hk⟩)); (case aO => exact (by (with_reducible repeat (first | apply Kd.R_alloc | apply Kd.R_drewN | apply Kd.R_drew)); exact HO_5.out)); (case aS => exact (below_size (by repeat (first | (with_reducible first | exact HB.out | apply below_alloc | apply pw_below_drewN | apply below_drew1) | exact HB.out)))); (case aL => have := LMc28.out; omega); intro v164 w32 ho hb hg hat; rw [← Ny163.out] at ho; have n0_ := Aside0.mk (Kd.R_after (ok := (fun k_ => some k_ ≠ (v160 : Value).ownBlock)) (by (with_reducible repeat (first | apply Kd.R_alloc | apply Kd.R_drewN | apply Kd.R_drew)); exact Kd.R_mono HO_8.out (fun _ hk => ⟨hk.2, hk.1⟩)) hg hat); have n1_ := Aside0.mk (Kd.R_after (ok := (fun k_ => some k_ ≠ (.slice Ao30 x8_2.length co30 : Value).ownBlock)) (by (with_reducible repeat (first | apply Kd.R_alloc | apply Kd.R_drewN | apply Kd.R_drew)); exact Kd.R_mono HO161.out (fun _ hk => ⟨hk.2, hk.1.2⟩)) hg hat); have n2_ := Aside0.mk (hb); have n3_ := Aside0.mk (ho); clear HO_8; clear HO161; clear HB; clear HO_5; have HO_8 := n0_; have HO161 := n1_; have HB := n2_; have HO165 := n3_; clear n0_ n1_ n2_ n3_; clear ho hb hg hat; obtain ⟨Ao33, co33, eo33⟩ := Kd.R_slice HO161.out; subst eo33; obtain ⟨Ao34, co34, eo34⟩ := Kd.R_slice HO165.out; subst eo34) | (go_at_call 14; (with_reducible refine (levylaw4_same.calls k2 _ _ t157 _ _ y163 t166 _ ?side1 ?side2 ?side3 ?side4 A29.out).mono ?_); (case side1 => repeat (first | exact (Kd.R_reads' HO161.out).2.2 | (with_reducible refine Kd.C_alloc ?_ _) | (with_reducible refine Kd.C_drewN ?_ _) | (with_reducible refine Kd.C_drew ?_))); (case side2 => exact (Kd.R_reads' HO161.out).2.1); (case side3 => repeat (first | exact (Kd.R_reads' HO165.out).2.2 | (with_reducible refine Kd.C_alloc ?_ _) | (with_reducible refine Kd.C_drewN ?_ _) | (with_reducible refine Kd.C_drew ?_))); (case side4 => exact (Kd.R_reads' HO165.out).2.1); rintro e w' ⟨rfl, ⟨nd, rfl⟩⟩))
                          go_ret
                          exact ⟨by first | rfl | (simp [errW_none, errW_some] <;> rfl) | (simp [*, errW_none, errW_some] <;> rfl), by repeat (first | (with_reducible first | exact HB.out | apply below_alloc | apply pw_below_drewN | apply below_drew1) | exact HB.out)⟩
                        · rw [if_neg c28] at H
                          exact absurd H (by simp)
                      · rw [if_neg c27] at H
                        have c27b0 : (t162 == 0) = false := beq_eq_false_iff_ne.mpr c27
                        have c27b1 : (t162 != 0) = true := bne_iff_ne.mpr c27
                        obtain rfl := Option.some.inj H
                        obtain ⟨Ao35, co35, eo35⟩ := Kd.R_slice HO_8.out
                        subst eo35
                        go_wp2_with (first | ((with_reducible refine gate_callee (f := 11) rfl ?_); refine goesL_ (some 67) rfl rfl Tryd.func11 (by kernel_rfl) rfl #[.string ((a0 ++ (⟨#[10]⟩ : ByteArray)) ++ a1)] rfl (by (try simp only [List.map_toArray, List.map_cons, List.map_nil]); first | done | rfl | (simp only [List.length_drop, List.length_take]; rfl)) ?_; (with_reducible refine (words_Scan.calls ((a0 ++ (⟨#[10]⟩ : ByteArray)) ++ a1) t157 t158 t159 _ ?side1 A25.out).mono ?_); (case side1 => first | (with_reducible exact HT.out) | (with_reducible exact HT.out.below HB.out) | (with_reducible refine Tabs.below HT.out ?_; repeat (first | (with_reducible first | exact HB.out | apply below_alloc | apply pw_below_drewN | apply below_drew1) | exact HB.out))); rintro e w36 ⟨v160, rfl, ho0, hb⟩; refine ⟨_, rfl, ?_⟩; have n0_ := Aside0.mk (Kd.R_elder' (by (with_reducible repeat (first | apply Kd.R_alloc | apply Kd.R_drewN | apply Kd.R_drew)); exact HO_5.out) (Kd.R_base ho0) hb); have n1_ := Aside0.mk (Kd.R_elder' (by (with_reducible repeat (first | apply Kd.R_alloc | apply Kd.R_drewN | apply Kd.R_drew)); exact HO_8.out) (Kd.R_base ho0) hb); have n2_ := Aside0.mk (Kd.R_lower (Kd.R_new' (Kd.R_new' ho0 (Kd.R_lt (by (with_reducible repeat (first | apply Kd.R_alloc | apply Kd.R_drewN | apply Kd.R_drew)); exact HO_5.out))) (Kd.R_lt (by (with_reducible repeat (first | apply Kd.R_alloc | apply Kd.R_drewN | apply Kd.R_drew)); exact HO_8.out))) (below_size (by repeat (first | (with_reducible first | exact HB.out | apply below_alloc | apply pw_below_drewN | apply below_drew1) | exact HB.out)))); have n3_ := Aside0.mk (below_step (by repeat (first | (with_reducible first | exact HB.out | apply below_alloc | apply pw_below_drewN | apply below_drew1) | exact HB.out)) hb); clear HO_5; clear HO_8; clear HB; have HO_5 := n0_; have HO_8 := n1_; have HO161 := n2_; have HB := n3_; clear n0_ n1_ n2_ n3_; (try clear hb); (try clear hb2); (try clear hk); (try clear hi); (try clear ho0)) | ((with_reducible refine gate_callee (f := 13) rfl ?_); refine goesL_ (some 72) rfl rfl Tryd.func13 (by kernel_rfl) rfl #[.int .i64 t159] rfl (by (try simp only [List.map_toArray, List.map_cons, List.map_nil]); first | done | rfl | (simp only [List.length_drop, List.length_take]; rfl)) ?_; (with_reducible refine (levylaw4_num.calls t159 t162 _ A26.out).mono ?_); rintro e w' ⟨rfl, ⟨nd, rfl⟩⟩; refine ⟨_, rfl, ?_⟩))
                        go_ret
                        exact ⟨by first | rfl | (simp [errW_none, errW_some] <;> rfl) | (simp [*, errW_none, errW_some] <;> rfl), by repeat (first | (with_reducible first | exact HB.out | apply below_alloc | apply pw_below_drewN | apply below_drew1) | exact HB.out)⟩
                    · rw [if_neg c24] at H
                      exact absurd H (by simp)
                  · rw [if_neg c23] at H
                    exact absurd H (by simp)
  · replace c4 := Bool.eq_false_iff.mpr c4
    subst c4
    have H1 : (some false) = some r := by rw [if_neg (show ¬ (false = true) by decide)] at H; exact H
    clear H
    have H := H1
    clear H1
    obtain rfl := Option.some.inj H
    go_enter Tryd.func5, Tryd.ntmps5
    go_wp2_with (first | ((with_reducible refine gate_callee (f := 15) rfl ?_); refine goesL_ (some 15) rfl rfl Tryd.func15 (by kernel_rfl) rfl #[] rfl (by (try simp only [List.map_toArray, List.map_cons, List.map_nil]); first | done | rfl | (simp only [List.length_drop, List.length_take]; rfl)) ?_; (with_reducible refine (levylaw4_known.calls k  false _ ?side1 A3.out).mono ?_); (case side1 => first | (with_reducible exact HT.out) | (with_reducible exact HT.out.below HB.out) | (with_reducible refine Tabs.below HT.out ?_; repeat (first | (with_reducible first | exact HB.out | apply below_alloc | apply pw_below_drewN | apply below_drew1) | exact HB.out))); rintro e w37 ⟨rfl, hb⟩; refine ⟨_, rfl, ?_⟩; have n0_ := Aside0.mk (below_step (by repeat (first | (with_reducible first | exact HB.out | apply below_alloc | apply pw_below_drewN | apply below_drew1) | exact HB.out)) hb); clear HB; have HB := n0_; clear n0_; (try clear hb); (try clear hb2); (try clear hk); (try clear hi)))
    go_ret
    exact ⟨by first | rfl | (simp [errW_none, errW_some] <;> rfl) | (simp [*, errW_none, errW_some] <;> rfl), by repeat (first | (with_reducible first | exact HB.out | apply below_alloc | apply pw_below_drewN | apply below_drew1) | exact HB.out)⟩

/-- THE ONE PURE STATEMENT of levylaw4_WordsJoins: yours. -/
def levylaw4_WordsJoins.Pure : Prop := ∀ (a0 : ByteArray) (a1 : ByteArray), a0.size ≤ 140737488351232 → a1.size ≤ 140737488351232 → ∃ k, levylaw4_WordsJoins.f k a0 a1 = some true
theorem levylaw4_WordsJoins.walk (P : levylaw4_WordsJoins.Pure) (a0 : ByteArray) (a1 : ByteArray) (w : World) (hT : Tabs w) (w0 : a0.size ≤ 140737488351232) (w1 : a1.size ≤ 140737488351232) :
    Calls Tryd.prog 5 #[.string a0, .string a1] w fun e w' => e = .returned (.bool true) ∧ Below w.heap.size w w' := by
  obtain ⟨k, h⟩ := P a0 a1 w0 w1
  refine (levylaw4_WordsJoins.calls k a0 a1 true w hT h).mono ?_
  rintro e w' ⟨rfl, hd⟩
  exact ⟨rfl, hd⟩

end Go.Proofs.YtidbcenbcllfnaaDoor.PA
