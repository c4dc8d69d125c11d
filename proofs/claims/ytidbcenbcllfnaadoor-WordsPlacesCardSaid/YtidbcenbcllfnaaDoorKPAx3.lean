/- The Go functions of this seat that the laws of part A come to, each as a plain Lean function ('f', its loops 'l0' ..) with a proof that the call comes to its answer. Conditions: where a function comes to a package-level table, the world holds that table ('Tabs'). Written by a program of this session (a changed copy of the print). -/
import Derived.Test.YtidbcenbcllfnaaDoorKPAx0
import Derived.Test.YtidbcenbcllfnaaDoorKPAx1
import Derived.Test.YtidbcenbcllfnaaDoorKPAx2
import Derived.Test.YtidbcenbcllfnaaDoorKScScan
namespace Go.Proofs.YtidbcenbcllfnaaDoor.PA
open Go.RowKit Go.Proofs.YtidbcenbcllfnaaDoorW.PrintWords Go.Proofs.YtidbcenbcllfnaaDoorW.PrintLast Go.Proofs.YtidbcenbcllfnaaDoorW.PrintMore
attribute [local go_sem] max2_int min2_int max_two min_two max_three min_three max_four min_four   -- for this text's walks alone
set_option linter.unusedVariables false
set_option linter.unusedSimpArgs false

attribute [local go_sem high] eqA33
/-! ### levylaw4_WordsPlaces: function 4 -/
mutual
def levylaw4_WordsPlaces.l0 : Nat → ByteArray → List (S33) → Int → Option (Bool)
  | 0, _, _, _ => none
  | k + 1, x0, x3, x6 => if x6 < (x3.length : Int) then (if 0 ≤ x6 then (if ((rd_T33 x3 x6).f1) < 0 then (levylaw4_WordsPlaces.j1 k x0 x3 x6 true ((rd_T33 x3 x6).f0) ((rd_T33 x3 x6).f1) ((rd_T33 x3 x6).f2) ((rd_T33 x3 x6).f3) ((rd_T33 x3 x6).f4)) else (if ((rd_T33 x3 x6).f1) > (x0.size : Int) then (levylaw4_WordsPlaces.j1 k x0 x3 x6 true ((rd_T33 x3 x6).f0) ((rd_T33 x3 x6).f1) ((rd_T33 x3 x6).f2) ((rd_T33 x3 x6).f3) ((rd_T33 x3 x6).f4)) else (if x6 > 0 then (if 0 ≤ (wrap64 (x6 - 1)) then (if (wrap64 (x6 - 1)) < (x3.length : Int) then (if ((rd_T33 x3 x6).f1) ≤ ((rd_T33 x3 (wrap64 (x6 - 1))).f1) then (if ((rd_T33 x3 x6).f0) = 8 then (levylaw4_WordsPlaces.j1 k x0 x3 x6 (decide (((rd_T33 x3 x6).f1) < ((rd_T33 x3 (wrap64 (x6 - 1))).f1))) ((rd_T33 x3 x6).f0) ((rd_T33 x3 x6).f1) ((rd_T33 x3 x6).f2) ((rd_T33 x3 x6).f3) ((rd_T33 x3 x6).f4)) else (levylaw4_WordsPlaces.j1 k x0 x3 x6 true ((rd_T33 x3 x6).f0) ((rd_T33 x3 x6).f1) ((rd_T33 x3 x6).f2) ((rd_T33 x3 x6).f3) ((rd_T33 x3 x6).f4))) else (levylaw4_WordsPlaces.j1 k x0 x3 x6 (decide (((rd_T33 x3 x6).f1) < ((rd_T33 x3 (wrap64 (x6 - 1))).f1))) ((rd_T33 x3 x6).f0) ((rd_T33 x3 x6).f1) ((rd_T33 x3 x6).f2) ((rd_T33 x3 x6).f3) ((rd_T33 x3 x6).f4))) else (none)) else (none)) else (levylaw4_WordsPlaces.j1 k x0 x3 x6 false ((rd_T33 x3 x6).f0) ((rd_T33 x3 x6).f1) ((rd_T33 x3 x6).f2) ((rd_T33 x3 x6).f3) ((rd_T33 x3 x6).f4))))) else (none)) else (some true)
def levylaw4_WordsPlaces.j1 : Nat → ByteArray → List (S33) → Int → Bool → Int → Int → ByteArray → Int → Int → Option (Bool)
  | 0, _, _, _, _, _, _, _, _, _ => none
  | k + 1, x0, x3, x6, x80, x128000, x128001, x128002, x128003, x128004 => if x80 = true then (some false) else (if x128000 = 8 then (if x6 = 0 then (some false) else (if 0 ≤ (wrap64 (x6 - 1)) then (if (wrap64 (x6 - 1)) < (x3.length : Int) then (if ((rd_T33 x3 (wrap64 (x6 - 1))).f0) = 8 then (some false) else (levylaw4_WordsPlaces.l0 k x0 x3 (wrap64 (x6 + 1)))) else (none)) else (none))) else (if (wrap64 (x6 + 1)) = (x3.length : Int) then (levylaw4_WordsPlaces.j2 k x0 x3 x6 true x128000 x128001 x128002 x128003 x128004) else (if 0 ≤ (wrap64 (x6 + 1)) then (if (wrap64 (x6 + 1)) < (x3.length : Int) then (levylaw4_WordsPlaces.j2 k x0 x3 x6 (decide (((rd_T33 x3 (wrap64 (x6 + 1))).f1) ≤ x128001)) x128000 x128001 x128002 x128003 x128004) else (none)) else (none))))
def levylaw4_WordsPlaces.j2 : Nat → ByteArray → List (S33) → Int → Bool → Int → Int → ByteArray → Int → Int → Option (Bool)
  | 0, _, _, _, _, _, _, _, _, _ => none
  | k + 1, x0, x3, x6, x110, x128000, x128001, x128002, x128003, x128004 => if x110 = true then (some false) else (if 0 ≤ (wrap64 (x6 + 1)) then (if (wrap64 (x6 + 1)) < (x3.length : Int) then (if 0 ≤ x128001 then (if x128001 ≤ ((rd_T33 x3 (wrap64 (x6 + 1))).f1) then (if ((rd_T33 x3 (wrap64 (x6 + 1))).f1) ≤ (x0.size : Int) then ((words_Scan.f (x0.extract (x128001 : Int).toNat (((rd_T33 x3 (wrap64 (x6 + 1))).f1) : Int).toNat)).bind fun bt134 => ((levylaw4_num.f bt134.2.2).bind fun t139 => (if t139 = 0 then (if (bt134.1.length : Int) = 2 then (if 0 < (bt134.1.length : Int) then (if (!(((rd_T33 bt134.1 0).f0) == x128000) || (!(((rd_T33 bt134.1 0).f1) == 0) || (!((((rd_T33 bt134.1 0).f2).toList) == x128002.toList) || (!(((rd_T33 bt134.1 0).f3) == x128003) || (!(((rd_T33 bt134.1 0).f4) == x128004)))))) = true then (some false) else (if 1 < (bt134.1.length : Int) then (if ((rd_T33 bt134.1 1).f0) = 8 then (levylaw4_WordsPlaces.l0 k x0 x3 (wrap64 (x6 + 1))) else (some false)) else (none))) else (none)) else (some false)) else (some false)))) else (none)) else (none)) else (none)) else (none)) else (none))
end
def levylaw4_WordsPlaces.f (k : Nat) (a0 : ByteArray) : Option (Bool) := (levylaw4_known.f k).bind fun t119 => (if t119 = true then (if (a0.size : Int) > 4000 then (some true) else ((words_Scan.f a0).bind fun bt120 => ((levylaw4_num.f bt120.2.2).bind fun t125 => (if t125 = 0 then (levylaw4_WordsPlaces.l0 k a0 bt120.1 0) else (some true))))) else (some false))
theorem levylaw4_WordsPlaces.mono_l : ∀ k, (∀ y0 y1 y2, LeO (levylaw4_WordsPlaces.l0 k y0 y1 y2) (levylaw4_WordsPlaces.l0 (k + 1) y0 y1 y2)) ∧ (∀ y0 y1 y2 y3 y4 y5 y6 y7 y8, LeO (levylaw4_WordsPlaces.j1 k y0 y1 y2 y3 y4 y5 y6 y7 y8) (levylaw4_WordsPlaces.j1 (k + 1) y0 y1 y2 y3 y4 y5 y6 y7 y8)) ∧ (∀ y0 y1 y2 y3 y4 y5 y6 y7 y8, LeO (levylaw4_WordsPlaces.j2 k y0 y1 y2 y3 y4 y5 y6 y7 y8) (levylaw4_WordsPlaces.j2 (k + 1) y0 y1 y2 y3 y4 y5 y6 y7 y8))
  | 0 => ⟨fun _ _ _ r h => by simp [levylaw4_WordsPlaces.l0] at h, fun _ _ _ _ _ _ _ _ _ r h => by simp [levylaw4_WordsPlaces.j1] at h, fun _ _ _ _ _ _ _ _ _ r h => by simp [levylaw4_WordsPlaces.j2] at h⟩
  | k + 1 => by
    obtain ⟨ih0, ih1, ih2⟩ := levylaw4_WordsPlaces.mono_l k
    refine ⟨?_, ?_, ?_⟩
    · intro y0 y1 y2
      unfold levylaw4_WordsPlaces.l0
      repeat' first
      | (with_reducible exact ih0 _ _ _)
      | (with_reducible exact ih1 _ _ _ _ _ _ _ _ _)
      | (with_reducible exact ih2 _ _ _ _ _ _ _ _ _)
      | (with_reducible exact levylaw4_known.mono _)
      | (with_reducible exact LeO.refl _)
      | (with_reducible exact LeO.none _)
      | (with_reducible refine LeO.ite ?_ ?_)
      | (with_reducible refine LeO.bind ?_ (fun _ => ?_))
      | exact ih0 _ _ _
      | exact ih1 _ _ _ _ _ _ _ _ _
      | exact ih2 _ _ _ _ _ _ _ _ _
      | exact levylaw4_known.mono _
      | exact LeO.none _
      | refine LeO.ite ?_ ?_
      | refine LeO.bind ?_ (fun _ => ?_)
    · intro y0 y1 y2 y3 y4 y5 y6 y7 y8
      unfold levylaw4_WordsPlaces.j1
      repeat' first
      | (with_reducible exact ih0 _ _ _)
      | (with_reducible exact ih1 _ _ _ _ _ _ _ _ _)
      | (with_reducible exact ih2 _ _ _ _ _ _ _ _ _)
      | (with_reducible exact levylaw4_known.mono _)
      | (with_reducible exact LeO.refl _)
      | (with_reducible exact LeO.none _)
      | (with_reducible refine LeO.ite ?_ ?_)
      | (with_reducible refine LeO.bind ?_ (fun _ => ?_))
      | exact ih0 _ _ _
      | exact ih1 _ _ _ _ _ _ _ _ _
      | exact ih2 _ _ _ _ _ _ _ _ _
      | exact levylaw4_known.mono _
      | exact LeO.none _
      | refine LeO.ite ?_ ?_
      | refine LeO.bind ?_ (fun _ => ?_)
    · intro y0 y1 y2 y3 y4 y5 y6 y7 y8
      unfold levylaw4_WordsPlaces.j2
      repeat' first
      | (with_reducible exact ih0 _ _ _)
      | (with_reducible exact ih1 _ _ _ _ _ _ _ _ _)
      | (with_reducible exact ih2 _ _ _ _ _ _ _ _ _)
      | (with_reducible exact levylaw4_known.mono _)
      | (with_reducible exact LeO.refl _)
      | (with_reducible exact LeO.none _)
      | (with_reducible refine LeO.ite ?_ ?_)
      | (with_reducible refine LeO.bind ?_ (fun _ => ?_))
      | exact ih0 _ _ _
      | exact ih1 _ _ _ _ _ _ _ _ _
      | exact ih2 _ _ _ _ _ _ _ _ _
      | exact levylaw4_known.mono _
      | exact LeO.none _
      | refine LeO.ite ?_ ?_
      | refine LeO.bind ?_ (fun _ => ?_)
theorem levylaw4_WordsPlaces.mono : ∀ a0 k, LeO (levylaw4_WordsPlaces.f k a0) (levylaw4_WordsPlaces.f (k + 1) a0) := by
  intro a0 k
  obtain ⟨ih0, ih1, ih2⟩ := levylaw4_WordsPlaces.mono_l k
  unfold levylaw4_WordsPlaces.f
  repeat' first
      | (with_reducible exact ih0 _ _ _)
      | (with_reducible exact ih1 _ _ _ _ _ _ _ _ _)
      | (with_reducible exact ih2 _ _ _ _ _ _ _ _ _)
      | (with_reducible exact levylaw4_known.mono _)
      | (with_reducible exact LeO.refl _)
      | (with_reducible exact LeO.none _)
      | (with_reducible refine LeO.ite ?_ ?_)
      | (with_reducible refine LeO.bind ?_ (fun _ => ?_))
      | exact ih0 _ _ _
      | exact ih1 _ _ _ _ _ _ _ _ _
      | exact ih2 _ _ _ _ _ _ _ _ _
      | exact levylaw4_known.mono _
      | exact LeO.none _
      | refine LeO.ite ?_ ?_
      | refine LeO.bind ?_ (fun _ => ?_)
set_option maxHeartbeats 8000000 in
set_option maxRecDepth 100000 in
theorem levylaw4_WordsPlaces.calls (k : Nat) (a0 : ByteArray) (r : Bool) (w : World) (hT : Tabs w) (h : levylaw4_WordsPlaces.f k a0 = some r) :
    Calls Tryd.prog 4 #[.string a0] w fun e w' => e = .returned (.bool r) ∧ Below w.heap.size w w' := by
  have hu33 := Tryd.underlying33
  have HB := Aside0.mk (Below.refl w.heap.size w)
  have HT := Aside0.mk hT
  clear hT
  have H : ((levylaw4_known.f k).bind fun t119 => (if t119 = true then (if (a0.size : Int) > 4000 then (some true) else ((words_Scan.f a0).bind fun bt120 => ((levylaw4_num.f bt120.2.2).bind fun t125 => (if t125 = 0 then (levylaw4_WordsPlaces.l0 k a0 bt120.1 0) else (some true))))) else (some false))) = some r := h
  clear h
  replace H := Option.bind_eq_some_iff.mp H
  obtain ⟨t119, A20, H⟩ := H
  replace H : (if t119 = true then (if (a0.size : Int) > 4000 then (some true) else ((words_Scan.f a0).bind fun bt120 => ((levylaw4_num.f bt120.2.2).bind fun t125 => (if t125 = 0 then (levylaw4_WordsPlaces.l0 k a0 bt120.1 0) else (some true))))) else (some false)) = some r := H
  have A2 := Aside0.mk A20
  clear A20
  by_cases c3 : t119 = true
  · subst c3
    have H1 : (if (a0.size : Int) > 4000 then (some true) else ((words_Scan.f a0).bind fun bt120 => ((levylaw4_num.f bt120.2.2).bind fun t125 => (if t125 = 0 then (levylaw4_WordsPlaces.l0 k a0 bt120.1 0) else (some true))))) = some r := by rw [if_pos rfl] at H; exact H
    clear H
    have H := H1
    clear H1
    by_cases c4 : (a0.size : Int) > 4000
    · rw [if_pos c4] at H
      have c4b0 : decide (4000 < (a0.size : Int)) = true := decide_eq_true c4
      have c4b1 : decide (4000 < a0.size) = true := decide_eq_true (by omega)
      clear c4
      obtain rfl := Option.some.inj H
      go_enter Tryd.func4, Tryd.ntmps4
      go_wp2_with (first | (go_at_call 15; (with_reducible refine (levylaw4_known.calls k  true _ ?side1 A2.out).mono ?_); (case side1 => first | (with_reducible exact HT.out) | (with_reducible exact HT.out.below HB.out) | (with_reducible refine Tabs.below HT.out ?_; repeat (first | (with_reducible first | exact HB.out | apply below_alloc | apply pw_below_drewN | apply below_drew1) | exact HB.out))); rintro e w5 ⟨rfl, hb⟩; have n0_ := Aside0.mk (below_step (by repeat (first | (with_reducible first | exact HB.out | apply below_alloc | apply pw_below_drewN | apply below_drew1) | exact HB.out)) hb); clear HB; have HB := n0_; clear n0_; (try clear hb); (try clear hb2); (try clear hk); (try clear hi)))
      repeat (go_quiet (first | (go_at_call 15; (with_reducible refine (levylaw4_known.calls k  true _ ?side1 A2.out).mono ?_); (case side1 => first | (with_reducible exact HT.out) | (with_reducible exact HT.out.below HB.out) | (with_reducible refine Tabs.below HT.out ?_; repeat (first | (with_reducible first | exact HB.out | apply below_alloc | apply pw_below_drewN | apply below_drew1) | exact HB.out))); rintro e w5 ⟨rfl, hb⟩; have n0_ := Aside0.mk (below_step (by repeat (first | (with_reducible first | exact HB.out | apply below_alloc | apply pw_below_drewN | apply below_drew1) | exact HB.out)) hb); clear HB; have HB := n0_; clear n0_; (try clear hb); (try clear hb2); (try clear hk); (try clear hi))); try go_wp2_with (first | (go_at_call 15; (with_reducible refine (levylaw4_known.calls k  true _ ?side1 A2.out).mono ?_); (case side1 => first | (with_reducible exact HT.out) | (with_reducible exact HT.out.below HB.out) | (with_reducible refine Tabs.below HT.out ?_; repeat (first | (with_reducible first | exact HB.out | apply below_alloc | apply pw_below_drewN | apply below_drew1) | exact HB.out))); rintro e w5 ⟨rfl, hb⟩; have n0_ := Aside0.mk (below_step (by repeat (first | (with_reducible first | exact HB.out | apply below_alloc | apply pw_below_drewN | apply below_drew1) | exact HB.out)) hb); clear HB; have HB := n0_; clear n0_; (try clear hb); (try clear hb2); (try clear hk); (try clear hi))))
      go_ret
      exact ⟨by first | rfl | (simp [errW_none, errW_some] <;> rfl) | (simp [*, errW_none, errW_some] <;> rfl), by repeat (first | (with_reducible first | exact HB.out | apply below_alloc | apply pw_below_drewN | apply below_drew1) | exact HB.out)⟩
    · rw [if_neg c4] at H
      have c4b0 : decide (4000 < (a0.size : Int)) = false := decide_eq_false c4
      have c4b1 : decide (4000 < a0.size) = false := decide_eq_false (by omega)
      clear c4
      replace H := Option.bind_eq_some_iff.mp H
      obtain ⟨⟨t120, t121, t122⟩, A60, H⟩ := H
      replace H : ((levylaw4_num.f t122).bind fun t125 => (if t125 = 0 then (levylaw4_WordsPlaces.l0 k a0 t120 0) else (some true))) = some r := H
      have A6 := Aside0.mk A60
      clear A60
      replace H := Option.bind_eq_some_iff.mp H
      obtain ⟨t125, A70, H⟩ := H
      replace H : (if t125 = 0 then (levylaw4_WordsPlaces.l0 k a0 t120 0) else (some true)) = some r := H
      have A7 := Aside0.mk A70
      clear A70
      by_cases c8 : t125 = 0
      · rw [if_pos c8] at H
        have c8b0 : (t125 == 0) = true := beq_iff_eq.mpr c8
        have c8b1 : (t125 != 0) = false := bne_eq_false_iff_eq.mpr c8
        clear c8
        have H' := Aside0.mk H
        clear H
        go_enter Tryd.func4, Tryd.ntmps4
        go_wp2_with (first | (go_at_call 15; (with_reducible refine (levylaw4_known.calls k  true _ ?side1 A2.out).mono ?_); (case side1 => first | (with_reducible exact HT.out) | (with_reducible exact HT.out.below HB.out) | (with_reducible refine Tabs.below HT.out ?_; repeat (first | (with_reducible first | exact HB.out | apply below_alloc | apply pw_below_drewN | apply below_drew1) | exact HB.out))); rintro e w9 ⟨rfl, hb⟩; have n0_ := Aside0.mk (below_step (by repeat (first | (with_reducible first | exact HB.out | apply below_alloc | apply pw_below_drewN | apply below_drew1) | exact HB.out)) hb); clear HB; have HB := n0_; clear n0_; (try clear hb); (try clear hb2); (try clear hk); (try clear hi)) | (go_at_call 11; (with_reducible refine (words_Scan.calls a0 t120 t121 t122 _ ?side1 A6.out).mono ?_); (case side1 => first | (with_reducible exact HT.out) | (with_reducible exact HT.out.below HB.out) | (with_reducible refine Tabs.below HT.out ?_; repeat (first | (with_reducible first | exact HB.out | apply below_alloc | apply pw_below_drewN | apply below_drew1) | exact HB.out))); rintro e w10 ⟨v123, rfl, ho0, hb⟩; have n0_ := Aside0.mk (Kd.R_lower ho0 (below_size (by repeat (first | (with_reducible first | exact HB.out | apply below_alloc | apply pw_below_drewN | apply below_drew1) | exact HB.out)))); have n1_ := Aside0.mk (below_step (by repeat (first | (with_reducible first | exact HB.out | apply below_alloc | apply pw_below_drewN | apply below_drew1) | exact HB.out)) hb); clear HB; have HO124 := n0_; have HB := n1_; clear n0_ n1_; (try clear hb); (try clear hb2); (try clear hk); (try clear hi); (try clear ho0)) | (go_at_call 13; (with_reducible refine (levylaw4_num.calls t122 t125 _ A7.out).mono ?_); rintro e w' ⟨rfl, ⟨nd, rfl⟩⟩; (try first | exact ⟨rfl, _, World.drewN_drewN _ _ _⟩ | exact ⟨rfl, _, Eq.trans (World.drewN_drewN _ _ _) (congrArg (World.drewN _) (Nat.add_assoc _ _ _))⟩)))
        repeat (go_quiet (first | (go_at_call 15; (with_reducible refine (levylaw4_known.calls k  true _ ?side1 A2.out).mono ?_); (case side1 => first | (with_reducible exact HT.out) | (with_reducible exact HT.out.below HB.out) | (with_reducible refine Tabs.below HT.out ?_; repeat (first | (with_reducible first | exact HB.out | apply below_alloc | apply pw_below_drewN | apply below_drew1) | exact HB.out))); rintro e w9 ⟨rfl, hb⟩; have n0_ := Aside0.mk (below_step (by repeat (first | (with_reducible first | exact HB.out | apply below_alloc | apply pw_below_drewN | apply below_drew1) | exact HB.out)) hb); clear HB; have HB := n0_; clear n0_; (try clear hb); (try clear hb2); (try clear hk); (try clear hi)) | (go_at_call 11; (with_reducible refine (words_Scan.calls a0 t120 t121 t122 _ ?side1 A6.out).mono ?_); (case side1 => first | (with_reducible exact HT.out) | (with_reducible exact HT.out.below HB.out) | (with_reducible refine Tabs.below HT.out ?_; repeat (first | (with_reducible first | exact HB.out | apply below_alloc | apply pw_below_drewN | apply below_drew1) | exact HB.out))); rintro e w10 ⟨v123, rfl, ho0, hb⟩; have n0_ := Aside0.mk (Kd.R_lower ho0 (below_size (by repeat (first | (with_reducible first | exact HB.out | apply below_alloc | apply pw_below_drewN | apply below_drew1) | exact HB.out)))); have n1_ := Aside0.mk (below_step (by repeat (first | (with_reducible first | exact HB.out | apply below_alloc | apply pw_below_drewN | apply below_drew1) | exact HB.out)) hb); clear HB; have HO124 := n0_; have HB := n1_; clear n0_ n1_; (try clear hb); (try clear hb2); (try clear hk); (try clear hi); (try clear ho0)) | (go_at_call 13; (with_reducible refine (levylaw4_num.calls t122 t125 _ A7.out).mono ?_); rintro e w' ⟨rfl, ⟨nd, rfl⟩⟩; (try first | exact ⟨rfl, _, World.drewN_drewN _ _ _⟩ | exact ⟨rfl, _, Eq.trans (World.drewN_drewN _ _ _) (congrArg (World.drewN _) (Nat.add_assoc _ _ _))⟩))); try go_wp2_with (first | (go_at_call 15; (with_reducible refine (levylaw4_known.calls k  true _ ?side1 A2.out).mono ?_); (case side1 => first | (with_reducible exact HT.out) | (with_reducible exact HT.out.below HB.out) | (with_reducible refine Tabs.below HT.out ?_; repeat (first | (with_reducible first | exact HB.out | apply below_alloc | apply pw_below_drewN | apply below_drew1) | exact HB.out))); rintro e w9 ⟨rfl, hb⟩; have n0_ := Aside0.mk (below_step (by repeat (first | (with_reducible first | exact HB.out | apply below_alloc | apply pw_below_drewN | apply below_drew1) | exact HB.out)) hb); clear HB; have HB := n0_; clear n0_; (try clear hb); (try clear hb2); (try clear hk); (try clear hi)) | (go_at_call 11; (with_reducible refine (words_Scan.calls a0 t120 t121 t122 _ ?side1 A6.out).mono ?_); (case side1 => first | (with_reducible exact HT.out) | (with_reducible exact HT.out.below HB.out) | (with_reducible refine Tabs.below HT.out ?_; repeat (first | (with_reducible first | exact HB.out | apply below_alloc | apply pw_below_drewN | apply below_drew1) | exact HB.out))); rintro e w10 ⟨v123, rfl, ho0, hb⟩; have n0_ := Aside0.mk (Kd.R_lower ho0 (below_size (by repeat (first | (with_reducible first | exact HB.out | apply below_alloc | apply pw_below_drewN | apply below_drew1) | exact HB.out)))); have n1_ := Aside0.mk (below_step (by repeat (first | (with_reducible first | exact HB.out | apply below_alloc | apply pw_below_drewN | apply below_drew1) | exact HB.out)) hb); clear HB; have HO124 := n0_; have HB := n1_; clear n0_ n1_; (try clear hb); (try clear hb2); (try clear hk); (try clear hi); (try clear ho0)) | (go_at_call 13; (with_reducible refine (levylaw4_num.calls t122 t125 _ A7.out).mono ?_); rintro e w' ⟨rfl, ⟨nd, rfl⟩⟩; (try first | exact ⟨rfl, _, World.drewN_drewN _ _ _⟩ | exact ⟨rfl, _, Eq.trans (World.drewN_drewN _ _ _) (congrArg (World.drewN _) (Nat.add_assoc _ _ _))⟩))))
        go_loopg [6] k (fun kq v6 w' => ∃ (x6_1 : Int), v6 = .int .i64 x6_1 ∧ Aside0 (levylaw4_WordsPlaces.l0 kq a0 t120 x6_1 = some r) ∧ Aside0 (kq ≤ k) ∧ Aside0 (Kd.R k33 33 w' w.heap.size (fun _ => True) v123 t120) ∧ Aside0 (Below w.heap.size w w'))
        case atStart => exact ⟨(0), (by first | rfl | (simp; done) | (simp [*]; done)), H', ⟨Nat.le_refl _⟩, ⟨by (with_reducible repeat (first | apply Kd.R_alloc | apply Kd.R_drewN | apply Kd.R_drew)); exact HO124.out⟩, ⟨by repeat (first | (with_reducible first | exact HB.out | apply below_alloc | apply pw_below_drewN | apply below_drew1) | exact HB.out)⟩⟩
        case round =>
          clear H'
          try clear p2
          try clear c3
          try clear c4
          try clear c4b0
          try clear c4b1
          try clear c8
          try clear c8b0
          try clear c8b1
          obtain ⟨x6_1, rfl, HA, HK1, HO_3, HB⟩ := hrel
          cases gk with
          | zero => exact absurd HA.out (by simp [levylaw4_WordsPlaces.l0])
          | succ k1 =>
            have H := HA.out
            clear HA
            simp only [levylaw4_WordsPlaces.l0] at H
            by_cases c11 : x6_1 < (t120.length : Int)
            · rw [if_pos c11] at H
              have c11b0 : decide (x6_1 < (t120.length : Int)) = true := decide_eq_true c11
              clear c11
              by_cases c12 : 0 ≤ x6_1
              · rw [if_pos c12] at H
                have c12b0 : decide (0 ≤ x6_1) = true := decide_eq_true c12
                clear c12
                have HC13 := Aside0.mk H
                clear H
                obtain ⟨Ao14, co14, eo14⟩ := Kd.R_slice HO_3.out
                subst eo14
                have p126 : 0 ≤ (x6_1 : Int) := of_decide_eq_true (by first | (with_reducible assumption) | assumption)
                have q126 : x6_1 < (t120.length : Int) := of_decide_eq_true (by first | (with_reducible assumption) | assumption)
                obtain ⟨ad126, e126, hx126_0, hx126_1, hx126_2, hx126_3, hx126_4⟩ := at_T33 (Kd.R_reads' HO_3.out).2.2 x6_1 p126 q126
                cases e126
                replace p126 := eq_true p126
                replace q126 := eq_true q126
                go_upto_region 12 with (first | ((with_reducible refine gate_dst (N := 7) rfl ?_); (try (refine gate_guard (by rfl) ?_; dsimp only)); refine box_event ?hg (N := 7) ?hd (cs := #[.int .i64 0, .int .i64 0, .string (⟨#[]⟩ : ByteArray), .int .i64 0, .int .i64 0]) (t := 33) ?hr ?_; (case hd => rfl); (case hg => rfl); (case hr => first | (go_simp; done) | (go_simp; rfl)); intro gb127 hg w15 hbox hb; have n0_ := Aside0.mk (Kd.R_below (Kd.R_elderB (by (with_reducible repeat (first | apply Kd.R_alloc | apply Kd.R_drewN | apply Kd.R_drew)); exact HO_3.out) gb127 (Nat.le_of_eq hg.symm)) hb); have n1_ := Aside0.mk (below_step (by repeat (first | (with_reducible first | exact HB.out | apply below_alloc | apply pw_below_drewN | apply below_drew1) | exact HB.out)) hb); have n2_ := Aside0.mk (hbox); have n3_ := Aside0.mk ((by rw [hg]; exact (below_size (by repeat (first | (with_reducible first | exact HB.out | apply below_alloc | apply pw_below_drewN | apply below_drew1) | exact HB.out))) : w.heap.size ≤ gb127)); have n4_ := Aside0.mk ((by rw [hg]; exact (below_size (by repeat (first | (with_reducible first | exact HB.out | apply below_alloc | apply pw_below_drewN | apply below_drew1) | exact HB.out))) : w.heap.size ≤ gb127)); clear HO_3; clear HB; have HO_3 := n0_; have HB := n1_; have BK127 := n2_; have GW127 := n3_; have GE127 := n4_; clear n0_ n1_ n2_ n3_ n4_; clear hb hbox hg; have hcz16_0 : w15.cell? ⟨gb127, 0, none⟩ = some (.int .i64 0) := (blk_cell BK127.out 0).trans rfl; have hcz16_1 : w15.cell? ⟨gb127, 1, none⟩ = some (.int .i64 0) := (blk_cell BK127.out 1).trans rfl; have hcz16_2 : w15.cell? ⟨gb127, 2, none⟩ = some (.string (⟨#[]⟩ : ByteArray)) := (blk_cell BK127.out 2).trans rfl; have hcz16_3 : w15.cell? ⟨gb127, 3, none⟩ = some (.int .i64 0) := (blk_cell BK127.out 3).trans rfl; have hcz16_4 : w15.cell? ⟨gb127, 4, none⟩ = some (.int .i64 0) := (blk_cell BK127.out 4).trans rfl; have hfz16_0 := blk_frozen BK127.out 0; have hfz16_1 := blk_frozen BK127.out 1; have hfz16_2 := blk_frozen BK127.out 2; have hfz16_3 := blk_frozen BK127.out 3; have hfz16_4 := blk_frozen BK127.out 4))
                repeat (go_quiet (first | ((with_reducible refine gate_dst (N := 7) rfl ?_); (try (refine gate_guard (by rfl) ?_; dsimp only)); refine box_event ?hg (N := 7) ?hd (cs := #[.int .i64 0, .int .i64 0, .string (⟨#[]⟩ : ByteArray), .int .i64 0, .int .i64 0]) (t := 33) ?hr ?_; (case hd => rfl); (case hg => rfl); (case hr => first | (go_simp; done) | (go_simp; rfl)); intro gb127 hg w15 hbox hb; have n0_ := Aside0.mk (Kd.R_below (Kd.R_elderB (by (with_reducible repeat (first | apply Kd.R_alloc | apply Kd.R_drewN | apply Kd.R_drew)); exact HO_3.out) gb127 (Nat.le_of_eq hg.symm)) hb); have n1_ := Aside0.mk (below_step (by repeat (first | (with_reducible first | exact HB.out | apply below_alloc | apply pw_below_drewN | apply below_drew1) | exact HB.out)) hb); have n2_ := Aside0.mk (hbox); have n3_ := Aside0.mk ((by rw [hg]; exact (below_size (by repeat (first | (with_reducible first | exact HB.out | apply below_alloc | apply pw_below_drewN | apply below_drew1) | exact HB.out))) : w.heap.size ≤ gb127)); have n4_ := Aside0.mk ((by rw [hg]; exact (below_size (by repeat (first | (with_reducible first | exact HB.out | apply below_alloc | apply pw_below_drewN | apply below_drew1) | exact HB.out))) : w.heap.size ≤ gb127)); clear HO_3; clear HB; have HO_3 := n0_; have HB := n1_; have BK127 := n2_; have GW127 := n3_; have GE127 := n4_; clear n0_ n1_ n2_ n3_ n4_; clear hb hbox hg; have hcz16_0 : w15.cell? ⟨gb127, 0, none⟩ = some (.int .i64 0) := (blk_cell BK127.out 0).trans rfl; have hcz16_1 : w15.cell? ⟨gb127, 1, none⟩ = some (.int .i64 0) := (blk_cell BK127.out 1).trans rfl; have hcz16_2 : w15.cell? ⟨gb127, 2, none⟩ = some (.string (⟨#[]⟩ : ByteArray)) := (blk_cell BK127.out 2).trans rfl; have hcz16_3 : w15.cell? ⟨gb127, 3, none⟩ = some (.int .i64 0) := (blk_cell BK127.out 3).trans rfl; have hcz16_4 : w15.cell? ⟨gb127, 4, none⟩ = some (.int .i64 0) := (blk_cell BK127.out 4).trans rfl; have hfz16_0 := blk_frozen BK127.out 0; have hfz16_1 := blk_frozen BK127.out 1; have hfz16_2 := blk_frozen BK127.out 2; have hfz16_3 := blk_frozen BK127.out 3; have hfz16_4 := blk_frozen BK127.out 4)); go_upto_region 12 with (first | ((with_reducible refine gate_dst (N := 7) rfl ?_); (try (refine gate_guard (by rfl) ?_; dsimp only)); refine box_event ?hg (N := 7) ?hd (cs := #[.int .i64 0, .int .i64 0, .string (⟨#[]⟩ : ByteArray), .int .i64 0, .int .i64 0]) (t := 33) ?hr ?_; (case hd => rfl); (case hg => rfl); (case hr => first | (go_simp; done) | (go_simp; rfl)); intro gb127 hg w15 hbox hb; have n0_ := Aside0.mk (Kd.R_below (Kd.R_elderB (by (with_reducible repeat (first | apply Kd.R_alloc | apply Kd.R_drewN | apply Kd.R_drew)); exact HO_3.out) gb127 (Nat.le_of_eq hg.symm)) hb); have n1_ := Aside0.mk (below_step (by repeat (first | (with_reducible first | exact HB.out | apply below_alloc | apply pw_below_drewN | apply below_drew1) | exact HB.out)) hb); have n2_ := Aside0.mk (hbox); have n3_ := Aside0.mk ((by rw [hg]; exact (below_size (by repeat (first | (with_reducible first | exact HB.out | apply below_alloc | apply pw_below_drewN | apply below_drew1) | exact HB.out))) : w.heap.size ≤ gb127)); have n4_ := Aside0.mk ((by rw [hg]; exact (below_size (by repeat (first | (with_reducible first | exact HB.out | apply below_alloc | apply pw_below_drewN | apply below_drew1) | exact HB.out))) : w.heap.size ≤ gb127)); clear HO_3; clear HB; have HO_3 := n0_; have HB := n1_; have BK127 := n2_; have GW127 := n3_; have GE127 := n4_; clear n0_ n1_ n2_ n3_ n4_; clear hb hbox hg; have hcz16_0 : w15.cell? ⟨gb127, 0, none⟩ = some (.int .i64 0) := (blk_cell BK127.out 0).trans rfl; have hcz16_1 : w15.cell? ⟨gb127, 1, none⟩ = some (.int .i64 0) := (blk_cell BK127.out 1).trans rfl; have hcz16_2 : w15.cell? ⟨gb127, 2, none⟩ = some (.string (⟨#[]⟩ : ByteArray)) := (blk_cell BK127.out 2).trans rfl; have hcz16_3 : w15.cell? ⟨gb127, 3, none⟩ = some (.int .i64 0) := (blk_cell BK127.out 3).trans rfl; have hcz16_4 : w15.cell? ⟨gb127, 4, none⟩ = some (.int .i64 0) := (blk_cell BK127.out 4).trans rfl; have hfz16_0 := blk_frozen BK127.out 0; have hfz16_1 := blk_frozen BK127.out 1; have hfz16_2 := blk_frozen BK127.out 2; have hfz16_3 := blk_frozen BK127.out 3; have hfz16_4 := blk_frozen BK127.out 4)))
                (try simp only [Act.put, List.setIfInBounds_toArray, List.set_cons_zero, List.set_cons_succ])
                go_cut [80] (fun v80 wc => ∃ (kq : Nat) (x80_12 : Bool), v80 = .bool x80_12 ∧ Aside0 (levylaw4_WordsPlaces.j1 kq a0 t120 x6_1 x80_12 ((rd_T33 t120 x6_1).f0) ((rd_T33 t120 x6_1).f1) ((rd_T33 t120 x6_1).f2) ((rd_T33 t120 x6_1).f3) ((rd_T33 t120 x6_1).f4) = some r) ∧ Aside0 (kq ≤ k1) ∧ Aside0 (Kd.R k33 33 wc w.heap.size (fun k_ => k_ ≠ gb127) (.slice (some ad126) t120.length co14) t120) ∧ Aside0 (wc.heap[gb127]? = some (.cells #[.int .i64 ((rd_T33 t120 x6_1).f0), .int .i64 ((rd_T33 t120 x6_1).f1), .string ((rd_T33 t120 x6_1).f2), .int .i64 ((rd_T33 t120 x6_1).f3), .int .i64 ((rd_T33 t120 x6_1).f4)] 33 (0, 0))) ∧ Aside0 (Below w.heap.size w wc))
                case first =>
                  have H := HC13.out
                  clear HC13
                  by_cases c17 : ((rd_T33 t120 x6_1).f1) < 0
                  · rw [if_pos c17] at H
                    have c17b0 : decide (((rd_T33 t120 x6_1).f1) < 0) = true := decide_eq_true c17
                    clear c17
                    (first | rw [c17b0] | (simp only [i64_w, i32_w]; rw [c17b0]) | skip)
                    have H' := Aside0.mk H
                    clear H
                    have hcz18_0 : w15.cell? ⟨gb127, 0, none⟩ = some (.int .i64 0) := (blk_cell BK127.out 0).trans rfl
                    have hcz18_1 : w15.cell? ⟨gb127, 1, none⟩ = some (.int .i64 0) := (blk_cell BK127.out 1).trans rfl
                    have hcz18_2 : w15.cell? ⟨gb127, 2, none⟩ = some (.string (⟨#[]⟩ : ByteArray)) := (blk_cell BK127.out 2).trans rfl
                    have hcz18_3 : w15.cell? ⟨gb127, 3, none⟩ = some (.int .i64 0) := (blk_cell BK127.out 3).trans rfl
                    have hcz18_4 : w15.cell? ⟨gb127, 4, none⟩ = some (.int .i64 0) := (blk_cell BK127.out 4).trans rfl
                    have hfz18_0 := blk_frozen BK127.out 0
                    have hfz18_1 := blk_frozen BK127.out 1
                    have hfz18_2 := blk_frozen BK127.out 2
                    have hfz18_3 := blk_frozen BK127.out 3
                    have hfz18_4 := blk_frozen BK127.out 4
                    go_wp2
                    repeat (go_quiet (fail); try go_wp2)
                    go_meet
                    case rel => exact ⟨_, (true), (by first | rfl | (simp; done) | (simp [*]; done)), H', ⟨by have := HK1.out; first | omega | exact Nat.le_refl _⟩, ⟨by (with_reducible repeat (first | apply Kd.R_alloc | apply Kd.R_drewN | apply Kd.R_drew)); exact Kd.R_mono (Kd.R_far (p := ⟨gb127, 4, none⟩) (Kd.R_far (p := ⟨gb127, 3, none⟩) (Kd.R_far (p := ⟨gb127, 2, none⟩) (Kd.R_far (p := ⟨gb127, 1, none⟩) (Kd.R_far (p := ⟨gb127, 0, none⟩) (Kd.R_mono HO_3.out (fun k_ hk => (⟨hk, hk.2⟩ : _ ∧ k_ ≠ gb127))) (fun _ hk => hk.2) (.int .i64 ((rd_T33 t120 x6_1).f0))) (fun _ hk => hk.2) (.int .i64 ((rd_T33 t120 x6_1).f1))) (fun _ hk => hk.2) (.string ((rd_T33 t120 x6_1).f2))) (fun _ hk => hk.2) (.int .i64 ((rd_T33 t120 x6_1).f3))) (fun _ hk => hk.2) (.int .i64 ((rd_T33 t120 x6_1).f4))) (fun _ hk => hk.1.2)⟩, ⟨by (with_reducible repeat (first | refine blk_drewN ?_ _ | refine blk_drew ?_ | refine blk_alloc ?_ _)); refine blk_put (cs := #[.int .i64 ((rd_T33 t120 x6_1).f0), .int .i64 ((rd_T33 t120 x6_1).f1), .string ((rd_T33 t120 x6_1).f2), .int .i64 ((rd_T33 t120 x6_1).f3), .int .i64 0]) ?_ 4 _ rfl; (with_reducible repeat (first | refine blk_drewN ?_ _ | refine blk_drew ?_ | refine blk_alloc ?_ _)); refine blk_put (cs := #[.int .i64 ((rd_T33 t120 x6_1).f0), .int .i64 ((rd_T33 t120 x6_1).f1), .string ((rd_T33 t120 x6_1).f2), .int .i64 0, .int .i64 0]) ?_ 3 _ rfl; (with_reducible repeat (first | refine blk_drewN ?_ _ | refine blk_drew ?_ | refine blk_alloc ?_ _)); refine blk_put (cs := #[.int .i64 ((rd_T33 t120 x6_1).f0), .int .i64 ((rd_T33 t120 x6_1).f1), .string (⟨#[]⟩ : ByteArray), .int .i64 0, .int .i64 0]) ?_ 2 _ rfl; (with_reducible repeat (first | refine blk_drewN ?_ _ | refine blk_drew ?_ | refine blk_alloc ?_ _)); refine blk_put (cs := #[.int .i64 ((rd_T33 t120 x6_1).f0), .int .i64 0, .string (⟨#[]⟩ : ByteArray), .int .i64 0, .int .i64 0]) ?_ 1 _ rfl; (with_reducible repeat (first | refine blk_drewN ?_ _ | refine blk_drew ?_ | refine blk_alloc ?_ _)); refine blk_put (cs := #[.int .i64 0, .int .i64 0, .string (⟨#[]⟩ : ByteArray), .int .i64 0, .int .i64 0]) ?_ 0 _ rfl; (with_reducible repeat (first | refine blk_drewN ?_ _ | refine blk_drew ?_ | refine blk_alloc ?_ _)); exact BK127.out⟩, ⟨by repeat (first | (with_reducible first | exact HB.out | apply below_alloc | apply pw_below_drewN | apply below_drew1 | refine below_set ?_ GE127.out) | exact HB.out)⟩⟩
                  · rw [if_neg c17] at H
                    have c17b0 : decide (((rd_T33 t120 x6_1).f1) < 0) = false := decide_eq_false c17
                    clear c17
                    (first | rw [c17b0] | (simp only [i64_w, i32_w]; rw [c17b0]) | skip)
                    by_cases c19 : ((rd_T33 t120 x6_1).f1) > (a0.size : Int)
                    · rw [if_pos c19] at H
                      have c19b0 : decide ((a0.size : Int) < ((rd_T33 t120 x6_1).f1)) = true := decide_eq_true c19
                      clear c19
                      have H' := Aside0.mk H
                      clear H
                      have hcz20_0 : w15.cell? ⟨gb127, 0, none⟩ = some (.int .i64 0) := (blk_cell BK127.out 0).trans rfl
                      have hcz20_1 : w15.cell? ⟨gb127, 1, none⟩ = some (.int .i64 0) := (blk_cell BK127.out 1).trans rfl
                      have hcz20_2 : w15.cell? ⟨gb127, 2, none⟩ = some (.string (⟨#[]⟩ : ByteArray)) := (blk_cell BK127.out 2).trans rfl
                      have hcz20_3 : w15.cell? ⟨gb127, 3, none⟩ = some (.int .i64 0) := (blk_cell BK127.out 3).trans rfl
                      have hcz20_4 : w15.cell? ⟨gb127, 4, none⟩ = some (.int .i64 0) := (blk_cell BK127.out 4).trans rfl
                      have hfz20_0 := blk_frozen BK127.out 0
                      have hfz20_1 := blk_frozen BK127.out 1
                      have hfz20_2 := blk_frozen BK127.out 2
                      have hfz20_3 := blk_frozen BK127.out 3
                      have hfz20_4 := blk_frozen BK127.out 4
                      go_wp2
                      repeat (go_quiet (fail); try go_wp2)
                      go_meet
                      case rel => exact ⟨_, (true), (by first | rfl | (simp; done) | (simp [*]; done)), H', ⟨by have := HK1.out; first | omega | exact Nat.le_refl _⟩, ⟨by (with_reducible repeat (first | apply Kd.R_alloc | apply Kd.R_drewN | apply Kd.R_drew)); exact Kd.R_mono (Kd.R_far (p := ⟨gb127, 4, none⟩) (Kd.R_far (p := ⟨gb127, 3, none⟩) (Kd.R_far (p := ⟨gb127, 2, none⟩) (Kd.R_far (p := ⟨gb127, 1, none⟩) (Kd.R_far (p := ⟨gb127, 0, none⟩) (Kd.R_mono HO_3.out (fun k_ hk => (⟨hk, hk.2⟩ : _ ∧ k_ ≠ gb127))) (fun _ hk => hk.2) (.int .i64 ((rd_T33 t120 x6_1).f0))) (fun _ hk => hk.2) (.int .i64 ((rd_T33 t120 x6_1).f1))) (fun _ hk => hk.2) (.string ((rd_T33 t120 x6_1).f2))) (fun _ hk => hk.2) (.int .i64 ((rd_T33 t120 x6_1).f3))) (fun _ hk => hk.2) (.int .i64 ((rd_T33 t120 x6_1).f4))) (fun _ hk => hk.1.2)⟩, ⟨by (with_reducible repeat (first | refine blk_drewN ?_ _ | refine blk_drew ?_ | refine blk_alloc ?_ _)); refine blk_put (cs := #[.int .i64 ((rd_T33 t120 x6_1).f0), .int .i64 ((rd_T33 t120 x6_1).f1), .string ((rd_T33 t120 x6_1).f2), .int .i64 ((rd_T33 t120 x6_1).f3), .int .i64 0]) ?_ 4 _ rfl; (with_reducible repeat (first | refine blk_drewN ?_ _ | refine blk_drew ?_ | refine blk_alloc ?_ _)); refine blk_put (cs := #[.int .i64 ((rd_T33 t120 x6_1).f0), .int .i64 ((rd_T33 t120 x6_1).f1), .string ((rd_T33 t120 x6_1).f2), .int .i64 0, .int .i64 0]) ?_ 3 _ rfl; (with_reducible repeat (first | refine blk_drewN ?_ _ | refine blk_drew ?_ | refine blk_alloc ?_ _)); refine blk_put (cs := #[.int .i64 ((rd_T33 t120 x6_1).f0), .int .i64 ((rd_T33 t120 x6_1).f1), .string (⟨#[]⟩ : ByteArray), .int .i64 0, .int .i64 0]) ?_ 2 _ rfl; (with_reducible repeat (first | refine blk_drewN ?_ _ | refine blk_drew ?_ | refine blk_alloc ?_ _)); refine blk_put (cs := #[.int .i64 ((rd_T33 t120 x6_1).f0), .int .i64 0, .string (⟨#[]⟩ : ByteArray), .int .i64 0, .int .i64 0]) ?_ 1 _ rfl; (with_reducible repeat (first | refine blk_drewN ?_ _ | refine blk_drew ?_ | refine blk_alloc ?_ _)); refine blk_put (cs := #[.int .i64 0, .int .i64 0, .string (⟨#[]⟩ : ByteArray), .int .i64 0, .int .i64 0]) ?_ 0 _ rfl; (with_reducible repeat (first | refine blk_drewN ?_ _ | refine blk_drew ?_ | refine blk_alloc ?_ _)); exact BK127.out⟩, ⟨by repeat (first | (with_reducible first | exact HB.out | apply below_alloc | apply pw_below_drewN | apply below_drew1 | refine below_set ?_ GE127.out) | exact HB.out)⟩⟩
                    · rw [if_neg c19] at H
                      have c19b0 : decide ((a0.size : Int) < ((rd_T33 t120 x6_1).f1)) = false := decide_eq_false c19
                      clear c19
                      by_cases c21 : x6_1 > 0
                      · rw [if_pos c21] at H
                        have c21b0 : decide (0 < x6_1) = true := decide_eq_true c21
                        clear c21
                        obtain ⟨ji22, hji22⟩ : ∃ j_ : Int, (wrap64 (x6_1 - 1)) = j_ := ⟨_, rfl⟩
                        replace H : (if 0 ≤ (ji22) then (if (ji22) < (t120.length : Int) then (if ((rd_T33 t120 x6_1).f1) ≤ ((rd_T33 t120 (ji22)).f1) then (if ((rd_T33 t120 x6_1).f0) = 8 then (levylaw4_WordsPlaces.j1 k1 a0 t120 x6_1 (decide (((rd_T33 t120 x6_1).f1) < ((rd_T33 t120 (ji22)).f1))) ((rd_T33 t120 x6_1).f0) ((rd_T33 t120 x6_1).f1) ((rd_T33 t120 x6_1).f2) ((rd_T33 t120 x6_1).f3) ((rd_T33 t120 x6_1).f4)) else (levylaw4_WordsPlaces.j1 k1 a0 t120 x6_1 true ((rd_T33 t120 x6_1).f0) ((rd_T33 t120 x6_1).f1) ((rd_T33 t120 x6_1).f2) ((rd_T33 t120 x6_1).f3) ((rd_T33 t120 x6_1).f4))) else (levylaw4_WordsPlaces.j1 k1 a0 t120 x6_1 (decide (((rd_T33 t120 x6_1).f1) < ((rd_T33 t120 (ji22)).f1))) ((rd_T33 t120 x6_1).f0) ((rd_T33 t120 x6_1).f1) ((rd_T33 t120 x6_1).f2) ((rd_T33 t120 x6_1).f3) ((rd_T33 t120 x6_1).f4))) else (none)) else (none)) = some r := by first | (rw [hji22] at H; exact H) | (simp only [hji22] at H ⊢; exact H)
                        have hji22w : (IntKind.i64.wrap (x6_1 - 1)) = ji22 := (i64_w _).trans hji22
                        by_cases c23 : 0 ≤ (ji22)
                        · rw [if_pos c23] at H
                          have c23b0 : decide (0 ≤ (ji22)) = true := decide_eq_true c23
                          clear c23
                          by_cases c24 : (ji22) < (t120.length : Int)
                          · rw [if_pos c24] at H
                            have c24b0 : decide ((ji22) < (t120.length : Int)) = true := decide_eq_true c24
                            clear c24
                            by_cases c25 : ((rd_T33 t120 x6_1).f1) ≤ ((rd_T33 t120 (ji22)).f1)
                            · rw [if_pos c25] at H
                              have c25b0 : decide (((rd_T33 t120 x6_1).f1) ≤ ((rd_T33 t120 (ji22)).f1)) = true := decide_eq_true c25
                              clear c25
                              by_cases c26 : ((rd_T33 t120 x6_1).f0) = 8
                              · rw [if_pos c26] at H
                                have c26b0 : (((rd_T33 t120 x6_1).f0) == 8) = true := beq_iff_eq.mpr c26
                                have c26b1 : (((rd_T33 t120 x6_1).f0) != 8) = false := bne_eq_false_iff_eq.mpr c26
                                clear c26
                                have H' := Aside0.mk H
                                clear H
                                have hcz27_0 : w15.cell? ⟨gb127, 0, none⟩ = some (.int .i64 0) := (blk_cell BK127.out 0).trans rfl
                                have hcz27_1 : w15.cell? ⟨gb127, 1, none⟩ = some (.int .i64 0) := (blk_cell BK127.out 1).trans rfl
                                have hcz27_2 : w15.cell? ⟨gb127, 2, none⟩ = some (.string (⟨#[]⟩ : ByteArray)) := (blk_cell BK127.out 2).trans rfl
                                have hcz27_3 : w15.cell? ⟨gb127, 3, none⟩ = some (.int .i64 0) := (blk_cell BK127.out 3).trans rfl
                                have hcz27_4 : w15.cell? ⟨gb127, 4, none⟩ = some (.int .i64 0) := (blk_cell BK127.out 4).trans rfl
                                have hfz27_0 := blk_frozen BK127.out 0
                                have hfz27_1 := blk_frozen BK127.out 1
                                have hfz27_2 := blk_frozen BK127.out 2
                                have hfz27_3 := blk_frozen BK127.out 3
                                have hfz27_4 := blk_frozen BK127.out 4
                                have p128 : 0 ≤ ((ji22) : Int) := of_decide_eq_true (by first | (with_reducible assumption) | assumption)
                                have q128 : (ji22) < (t120.length : Int) := of_decide_eq_true (by first | (with_reducible assumption) | assumption)
                                obtain ⟨ad128, e128, hx128_0, hx128_1, hx128_2, hx128_3, hx128_4⟩ := at_T33 (Kd.R_reads' HO_3.out).2.2 (ji22) p128 q128
                                obtain rfl : ad126 = ad128 := (by injection e128)
                                have hn128_0 : ad126.block ≠ gb127 := Kd.own_blk (Kd.R_away HO_3.out (fun _ hk => hk.2))
                                have hn128_1 : ad126.block ≠ gb127 := Kd.own_blk (Kd.R_away HO_3.out (fun _ hk => hk.2))
                                have hn128_2 : ad126.block ≠ gb127 := Kd.own_blk (Kd.R_away HO_3.out (fun _ hk => hk.2))
                                have hn128_3 : ad126.block ≠ gb127 := Kd.own_blk (Kd.R_away HO_3.out (fun _ hk => hk.2))
                                have hn128_4 : ad126.block ≠ gb127 := Kd.own_blk (Kd.R_away HO_3.out (fun _ hk => hk.2))
                                have hs128_0 := hx128_0
                                have hs128_1 := hx128_1
                                have hs128_2 := hx128_2
                                have hs128_3 := hx128_3
                                have hs128_4 := hx128_4
                                replace hx128_0 := (cell_far (p := ⟨gb127, 0, none⟩) (by first | (rw [add_block]; exact hn128_0) | (show (Addr.add _ _).block ≠ _; rw [add_block]; exact hn128_0) | exact hn128_0) (.int .i64 ((rd_T33 t120 x6_1).f0))).trans hx128_0
                                replace hx128_1 := (cell_far (p := ⟨gb127, 0, none⟩) (by first | (rw [add_block]; exact hn128_0) | (show (Addr.add _ _).block ≠ _; rw [add_block]; exact hn128_0) | exact hn128_0) (.int .i64 ((rd_T33 t120 x6_1).f0))).trans hx128_1
                                replace hx128_2 := (cell_far (p := ⟨gb127, 0, none⟩) (by first | (rw [add_block]; exact hn128_0) | (show (Addr.add _ _).block ≠ _; rw [add_block]; exact hn128_0) | exact hn128_0) (.int .i64 ((rd_T33 t120 x6_1).f0))).trans hx128_2
                                replace hx128_3 := (cell_far (p := ⟨gb127, 0, none⟩) (by first | (rw [add_block]; exact hn128_0) | (show (Addr.add _ _).block ≠ _; rw [add_block]; exact hn128_0) | exact hn128_0) (.int .i64 ((rd_T33 t120 x6_1).f0))).trans hx128_3
                                replace hx128_4 := (cell_far (p := ⟨gb127, 0, none⟩) (by first | (rw [add_block]; exact hn128_0) | (show (Addr.add _ _).block ≠ _; rw [add_block]; exact hn128_0) | exact hn128_0) (.int .i64 ((rd_T33 t120 x6_1).f0))).trans hx128_4
                                replace hx128_0 := (cell_far (p := ⟨gb127, 1, none⟩) (by first | (rw [add_block]; exact hn128_1) | (show (Addr.add _ _).block ≠ _; rw [add_block]; exact hn128_1) | exact hn128_1) (.int .i64 ((rd_T33 t120 x6_1).f1))).trans hx128_0
                                replace hx128_1 := (cell_far (p := ⟨gb127, 1, none⟩) (by first | (rw [add_block]; exact hn128_1) | (show (Addr.add _ _).block ≠ _; rw [add_block]; exact hn128_1) | exact hn128_1) (.int .i64 ((rd_T33 t120 x6_1).f1))).trans hx128_1
                                replace hx128_2 := (cell_far (p := ⟨gb127, 1, none⟩) (by first | (rw [add_block]; exact hn128_1) | (show (Addr.add _ _).block ≠ _; rw [add_block]; exact hn128_1) | exact hn128_1) (.int .i64 ((rd_T33 t120 x6_1).f1))).trans hx128_2
                                replace hx128_3 := (cell_far (p := ⟨gb127, 1, none⟩) (by first | (rw [add_block]; exact hn128_1) | (show (Addr.add _ _).block ≠ _; rw [add_block]; exact hn128_1) | exact hn128_1) (.int .i64 ((rd_T33 t120 x6_1).f1))).trans hx128_3
                                replace hx128_4 := (cell_far (p := ⟨gb127, 1, none⟩) (by first | (rw [add_block]; exact hn128_1) | (show (Addr.add _ _).block ≠ _; rw [add_block]; exact hn128_1) | exact hn128_1) (.int .i64 ((rd_T33 t120 x6_1).f1))).trans hx128_4
                                replace hx128_0 := (cell_far (p := ⟨gb127, 2, none⟩) (by first | (rw [add_block]; exact hn128_2) | (show (Addr.add _ _).block ≠ _; rw [add_block]; exact hn128_2) | exact hn128_2) (.string ((rd_T33 t120 x6_1).f2))).trans hx128_0
                                replace hx128_1 := (cell_far (p := ⟨gb127, 2, none⟩) (by first | (rw [add_block]; exact hn128_2) | (show (Addr.add _ _).block ≠ _; rw [add_block]; exact hn128_2) | exact hn128_2) (.string ((rd_T33 t120 x6_1).f2))).trans hx128_1
                                replace hx128_2 := (cell_far (p := ⟨gb127, 2, none⟩) (by first | (rw [add_block]; exact hn128_2) | (show (Addr.add _ _).block ≠ _; rw [add_block]; exact hn128_2) | exact hn128_2) (.string ((rd_T33 t120 x6_1).f2))).trans hx128_2
                                replace hx128_3 := (cell_far (p := ⟨gb127, 2, none⟩) (by first | (rw [add_block]; exact hn128_2) | (show (Addr.add _ _).block ≠ _; rw [add_block]; exact hn128_2) | exact hn128_2) (.string ((rd_T33 t120 x6_1).f2))).trans hx128_3
                                replace hx128_4 := (cell_far (p := ⟨gb127, 2, none⟩) (by first | (rw [add_block]; exact hn128_2) | (show (Addr.add _ _).block ≠ _; rw [add_block]; exact hn128_2) | exact hn128_2) (.string ((rd_T33 t120 x6_1).f2))).trans hx128_4
                                replace hx128_0 := (cell_far (p := ⟨gb127, 3, none⟩) (by first | (rw [add_block]; exact hn128_3) | (show (Addr.add _ _).block ≠ _; rw [add_block]; exact hn128_3) | exact hn128_3) (.int .i64 ((rd_T33 t120 x6_1).f3))).trans hx128_0
                                replace hx128_1 := (cell_far (p := ⟨gb127, 3, none⟩) (by first | (rw [add_block]; exact hn128_3) | (show (Addr.add _ _).block ≠ _; rw [add_block]; exact hn128_3) | exact hn128_3) (.int .i64 ((rd_T33 t120 x6_1).f3))).trans hx128_1
                                replace hx128_2 := (cell_far (p := ⟨gb127, 3, none⟩) (by first | (rw [add_block]; exact hn128_3) | (show (Addr.add _ _).block ≠ _; rw [add_block]; exact hn128_3) | exact hn128_3) (.int .i64 ((rd_T33 t120 x6_1).f3))).trans hx128_2
                                replace hx128_3 := (cell_far (p := ⟨gb127, 3, none⟩) (by first | (rw [add_block]; exact hn128_3) | (show (Addr.add _ _).block ≠ _; rw [add_block]; exact hn128_3) | exact hn128_3) (.int .i64 ((rd_T33 t120 x6_1).f3))).trans hx128_3
                                replace hx128_4 := (cell_far (p := ⟨gb127, 3, none⟩) (by first | (rw [add_block]; exact hn128_3) | (show (Addr.add _ _).block ≠ _; rw [add_block]; exact hn128_3) | exact hn128_3) (.int .i64 ((rd_T33 t120 x6_1).f3))).trans hx128_4
                                replace hx128_0 := (cell_far (p := ⟨gb127, 4, none⟩) (by first | (rw [add_block]; exact hn128_4) | (show (Addr.add _ _).block ≠ _; rw [add_block]; exact hn128_4) | exact hn128_4) (.int .i64 ((rd_T33 t120 x6_1).f4))).trans hx128_0
                                replace hx128_1 := (cell_far (p := ⟨gb127, 4, none⟩) (by first | (rw [add_block]; exact hn128_4) | (show (Addr.add _ _).block ≠ _; rw [add_block]; exact hn128_4) | exact hn128_4) (.int .i64 ((rd_T33 t120 x6_1).f4))).trans hx128_1
                                replace hx128_2 := (cell_far (p := ⟨gb127, 4, none⟩) (by first | (rw [add_block]; exact hn128_4) | (show (Addr.add _ _).block ≠ _; rw [add_block]; exact hn128_4) | exact hn128_4) (.int .i64 ((rd_T33 t120 x6_1).f4))).trans hx128_2
                                replace hx128_3 := (cell_far (p := ⟨gb127, 4, none⟩) (by first | (rw [add_block]; exact hn128_4) | (show (Addr.add _ _).block ≠ _; rw [add_block]; exact hn128_4) | exact hn128_4) (.int .i64 ((rd_T33 t120 x6_1).f4))).trans hx128_3
                                replace hx128_4 := (cell_far (p := ⟨gb127, 4, none⟩) (by first | (rw [add_block]; exact hn128_4) | (show (Addr.add _ _).block ≠ _; rw [add_block]; exact hn128_4) | exact hn128_4) (.int .i64 ((rd_T33 t120 x6_1).f4))).trans hx128_4
                                (try have hy128_0 := fun (n_ : Nat) => ((cell_far (p := ⟨gb127, 4, none⟩) (by exact hn128_4) (.int .i64 ((rd_T33 t120 x6_1).f4))).trans ((cell_far (p := ⟨gb127, 3, none⟩) (by exact hn128_3) (.int .i64 ((rd_T33 t120 x6_1).f3))).trans ((cell_far (p := ⟨gb127, 2, none⟩) (by exact hn128_2) (.string ((rd_T33 t120 x6_1).f2))).trans ((cell_far (p := ⟨gb127, 1, none⟩) (by exact hn128_1) (.int .i64 ((rd_T33 t120 x6_1).f1))).trans ((cell_far (p := ⟨gb127, 0, none⟩) (by exact hn128_0) (.int .i64 ((rd_T33 t120 x6_1).f0))).trans (show (w15.drewN n_).cell? _ = some _ from hs128_0)))))))
                                (try have hy128_1 := fun (n_ : Nat) => ((cell_far (p := ⟨gb127, 4, none⟩) (by exact hn128_4) (.int .i64 ((rd_T33 t120 x6_1).f4))).trans ((cell_far (p := ⟨gb127, 3, none⟩) (by exact hn128_3) (.int .i64 ((rd_T33 t120 x6_1).f3))).trans ((cell_far (p := ⟨gb127, 2, none⟩) (by exact hn128_2) (.string ((rd_T33 t120 x6_1).f2))).trans ((cell_far (p := ⟨gb127, 1, none⟩) (by exact hn128_1) (.int .i64 ((rd_T33 t120 x6_1).f1))).trans ((cell_far (p := ⟨gb127, 0, none⟩) (by exact hn128_0) (.int .i64 ((rd_T33 t120 x6_1).f0))).trans (show (w15.drewN n_).cell? _ = some _ from hs128_1)))))))
                                (try have hy128_2 := fun (n_ : Nat) => ((cell_far (p := ⟨gb127, 4, none⟩) (by exact hn128_4) (.int .i64 ((rd_T33 t120 x6_1).f4))).trans ((cell_far (p := ⟨gb127, 3, none⟩) (by exact hn128_3) (.int .i64 ((rd_T33 t120 x6_1).f3))).trans ((cell_far (p := ⟨gb127, 2, none⟩) (by exact hn128_2) (.string ((rd_T33 t120 x6_1).f2))).trans ((cell_far (p := ⟨gb127, 1, none⟩) (by exact hn128_1) (.int .i64 ((rd_T33 t120 x6_1).f1))).trans ((cell_far (p := ⟨gb127, 0, none⟩) (by exact hn128_0) (.int .i64 ((rd_T33 t120 x6_1).f0))).trans (show (w15.drewN n_).cell? _ = some _ from hs128_2)))))))
                                (try have hy128_3 := fun (n_ : Nat) => ((cell_far (p := ⟨gb127, 4, none⟩) (by exact hn128_4) (.int .i64 ((rd_T33 t120 x6_1).f4))).trans ((cell_far (p := ⟨gb127, 3, none⟩) (by exact hn128_3) (.int .i64 ((rd_T33 t120 x6_1).f3))).trans ((cell_far (p := ⟨gb127, 2, none⟩) (by exact hn128_2) (.string ((rd_T33 t120 x6_1).f2))).trans ((cell_far (p := ⟨gb127, 1, none⟩) (by exact hn128_1) (.int .i64 ((rd_T33 t120 x6_1).f1))).trans ((cell_far (p := ⟨gb127, 0, none⟩) (by exact hn128_0) (.int .i64 ((rd_T33 t120 x6_1).f0))).trans (show (w15.drewN n_).cell? _ = some _ from hs128_3)))))))
                                (try have hy128_4 := fun (n_ : Nat) => ((cell_far (p := ⟨gb127, 4, none⟩) (by exact hn128_4) (.int .i64 ((rd_T33 t120 x6_1).f4))).trans ((cell_far (p := ⟨gb127, 3, none⟩) (by exact hn128_3) (.int .i64 ((rd_T33 t120 x6_1).f3))).trans ((cell_far (p := ⟨gb127, 2, none⟩) (by exact hn128_2) (.string ((rd_T33 t120 x6_1).f2))).trans ((cell_far (p := ⟨gb127, 1, none⟩) (by exact hn128_1) (.int .i64 ((rd_T33 t120 x6_1).f1))).trans ((cell_far (p := ⟨gb127, 0, none⟩) (by exact hn128_0) (.int .i64 ((rd_T33 t120 x6_1).f0))).trans (show (w15.drewN n_).cell? _ = some _ from hs128_4)))))))
                                clear hs128_0
                                clear hs128_1
                                clear hs128_2
                                clear hs128_3
                                clear hs128_4
                                clear hn128_0
                                clear hn128_1
                                clear hn128_2
                                clear hn128_3
                                clear hn128_4
                                replace p128 := eq_true p128
                                replace q128 := eq_true q128
                                have p129 : 0 ≤ ((ji22) : Int) := of_decide_eq_true (by first | (with_reducible assumption) | assumption)
                                have q129 : (ji22) < (t120.length : Int) := of_decide_eq_true (by first | (with_reducible assumption) | assumption)
                                obtain ⟨ad129, e129, hx129_0, hx129_1, hx129_2, hx129_3, hx129_4⟩ := at_T33 (Kd.R_reads' HO_3.out).2.2 (ji22) p129 q129
                                obtain rfl : ad126 = ad129 := (by injection e129)
                                have hn129_0 : ad126.block ≠ gb127 := Kd.own_blk (Kd.R_away HO_3.out (fun _ hk => hk.2))
                                have hn129_1 : ad126.block ≠ gb127 := Kd.own_blk (Kd.R_away HO_3.out (fun _ hk => hk.2))
                                have hn129_2 : ad126.block ≠ gb127 := Kd.own_blk (Kd.R_away HO_3.out (fun _ hk => hk.2))
                                have hn129_3 : ad126.block ≠ gb127 := Kd.own_blk (Kd.R_away HO_3.out (fun _ hk => hk.2))
                                have hn129_4 : ad126.block ≠ gb127 := Kd.own_blk (Kd.R_away HO_3.out (fun _ hk => hk.2))
                                have hs129_0 := hx129_0
                                have hs129_1 := hx129_1
                                have hs129_2 := hx129_2
                                have hs129_3 := hx129_3
                                have hs129_4 := hx129_4
                                replace hx129_0 := (cell_far (p := ⟨gb127, 0, none⟩) (by first | (rw [add_block]; exact hn129_0) | (show (Addr.add _ _).block ≠ _; rw [add_block]; exact hn129_0) | exact hn129_0) (.int .i64 ((rd_T33 t120 x6_1).f0))).trans hx129_0
                                replace hx129_1 := (cell_far (p := ⟨gb127, 0, none⟩) (by first | (rw [add_block]; exact hn129_0) | (show (Addr.add _ _).block ≠ _; rw [add_block]; exact hn129_0) | exact hn129_0) (.int .i64 ((rd_T33 t120 x6_1).f0))).trans hx129_1
                                replace hx129_2 := (cell_far (p := ⟨gb127, 0, none⟩) (by first | (rw [add_block]; exact hn129_0) | (show (Addr.add _ _).block ≠ _; rw [add_block]; exact hn129_0) | exact hn129_0) (.int .i64 ((rd_T33 t120 x6_1).f0))).trans hx129_2
                                replace hx129_3 := (cell_far (p := ⟨gb127, 0, none⟩) (by first | (rw [add_block]; exact hn129_0) | (show (Addr.add _ _).block ≠ _; rw [add_block]; exact hn129_0) | exact hn129_0) (.int .i64 ((rd_T33 t120 x6_1).f0))).trans hx129_3
                                replace hx129_4 := (cell_far (p := ⟨gb127, 0, none⟩) (by first | (rw [add_block]; exact hn129_0) | (show (Addr.add _ _).block ≠ _; rw [add_block]; exact hn129_0) | exact hn129_0) (.int .i64 ((rd_T33 t120 x6_1).f0))).trans hx129_4
                                replace hx129_0 := (cell_far (p := ⟨gb127, 1, none⟩) (by first | (rw [add_block]; exact hn129_1) | (show (Addr.add _ _).block ≠ _; rw [add_block]; exact hn129_1) | exact hn129_1) (.int .i64 ((rd_T33 t120 x6_1).f1))).trans hx129_0
                                replace hx129_1 := (cell_far (p := ⟨gb127, 1, none⟩) (by first | (rw [add_block]; exact hn129_1) | (show (Addr.add _ _).block ≠ _; rw [add_block]; exact hn129_1) | exact hn129_1) (.int .i64 ((rd_T33 t120 x6_1).f1))).trans hx129_1
                                replace hx129_2 := (cell_far (p := ⟨gb127, 1, none⟩) (by first | (rw [add_block]; exact hn129_1) | (show (Addr.add _ _).block ≠ _; rw [add_block]; exact hn129_1) | exact hn129_1) (.int .i64 ((rd_T33 t120 x6_1).f1))).trans hx129_2
                                replace hx129_3 := (cell_far (p := ⟨gb127, 1, none⟩) (by first | (rw [add_block]; exact hn129_1) | (show (Addr.add _ _).block ≠ _; rw [add_block]; exact hn129_1) | exact hn129_1) (.int .i64 ((rd_T33 t120 x6_1).f1))).trans hx129_3
                                replace hx129_4 := (cell_far (p := ⟨gb127, 1, none⟩) (by first | (rw [add_block]; exact hn129_1) | (show (Addr.add _ _).block ≠ _; rw [add_block]; exact hn129_1) | exact hn129_1) (.int .i64 ((rd_T33 t120 x6_1).f1))).trans hx129_4
                                replace hx129_0 := (cell_far (p := ⟨gb127, 2, none⟩) (by first | (rw [add_block]; exact hn129_2) | (show (Addr.add _ _).block ≠ _; rw [add_block]; exact hn129_2) | exact hn129_2) (.string ((rd_T33 t120 x6_1).f2))).trans hx129_0
                                replace hx129_1 := (cell_far (p := ⟨gb127, 2, none⟩) (by first | (rw [add_block]; exact hn129_2) | (show (Addr.add _ _).block ≠ _; rw [add_block]; exact hn129_2) | exact hn129_2) (.string ((rd_T33 t120 x6_1).f2))).trans hx129_1
                                replace hx129_2 := (cell_far (p := ⟨gb127, 2, none⟩) (by first | (rw [add_block]; exact hn129_2) | (show (Addr.add _ _).block ≠ _; rw [add_block]; exact hn129_2) | exact hn129_2) (.string ((rd_T33 t120 x6_1).f2))).trans hx129_2
                                replace hx129_3 := (cell_far (p := ⟨gb127, 2, none⟩) (by first | (rw [add_block]; exact hn129_2) | (show (Addr.add _ _).block ≠ _; rw [add_block]; exact hn129_2) | exact hn129_2) (.string ((rd_T33 t120 x6_1).f2))).trans hx129_3
                                replace hx129_4 := (cell_far (p := ⟨gb127, 2, none⟩) (by first | (rw [add_block]; exact hn129_2) | (show (Addr.add _ _).block ≠ _; rw [add_block]; exact hn129_2) | exact hn129_2) (.string ((rd_T33 t120 x6_1).f2))).trans hx129_4
                                replace hx129_0 := (cell_far (p := ⟨gb127, 3, none⟩) (by first | (rw [add_block]; exact hn129_3) | (show (Addr.add _ _).block ≠ _; rw [add_block]; exact hn129_3) | exact hn129_3) (.int .i64 ((rd_T33 t120 x6_1).f3))).trans hx129_0
                                replace hx129_1 := (cell_far (p := ⟨gb127, 3, none⟩) (by first | (rw [add_block]; exact hn129_3) | (show (Addr.add _ _).block ≠ _; rw [add_block]; exact hn129_3) | exact hn129_3) (.int .i64 ((rd_T33 t120 x6_1).f3))).trans hx129_1
                                replace hx129_2 := (cell_far (p := ⟨gb127, 3, none⟩) (by first | (rw [add_block]; exact hn129_3) | (show (Addr.add _ _).block ≠ _; rw [add_block]; exact hn129_3) | exact hn129_3) (.int .i64 ((rd_T33 t120 x6_1).f3))).trans hx129_2
                                replace hx129_3 := (cell_far (p := ⟨gb127, 3, none⟩) (by first | (rw [add_block]; exact hn129_3) | (show (Addr.add _ _).block ≠ _; rw [add_block]; exact hn129_3) | exact hn129_3) (.int .i64 ((rd_T33 t120 x6_1).f3))).trans hx129_3
                                replace hx129_4 := (cell_far (p := ⟨gb127, 3, none⟩) (by first | (rw [add_block]; exact hn129_3) | (show (Addr.add _ _).block ≠ _; rw [add_block]; exact hn129_3) | exact hn129_3) (.int .i64 ((rd_T33 t120 x6_1).f3))).trans hx129_4
                                replace hx129_0 := (cell_far (p := ⟨gb127, 4, none⟩) (by first | (rw [add_block]; exact hn129_4) | (show (Addr.add _ _).block ≠ _; rw [add_block]; exact hn129_4) | exact hn129_4) (.int .i64 ((rd_T33 t120 x6_1).f4))).trans hx129_0
                                replace hx129_1 := (cell_far (p := ⟨gb127, 4, none⟩) (by first | (rw [add_block]; exact hn129_4) | (show (Addr.add _ _).block ≠ _; rw [add_block]; exact hn129_4) | exact hn129_4) (.int .i64 ((rd_T33 t120 x6_1).f4))).trans hx129_1
                                replace hx129_2 := (cell_far (p := ⟨gb127, 4, none⟩) (by first | (rw [add_block]; exact hn129_4) | (show (Addr.add _ _).block ≠ _; rw [add_block]; exact hn129_4) | exact hn129_4) (.int .i64 ((rd_T33 t120 x6_1).f4))).trans hx129_2
                                replace hx129_3 := (cell_far (p := ⟨gb127, 4, none⟩) (by first | (rw [add_block]; exact hn129_4) | (show (Addr.add _ _).block ≠ _; rw [add_block]; exact hn129_4) | exact hn129_4) (.int .i64 ((rd_T33 t120 x6_1).f4))).trans hx129_3
                                replace hx129_4 := (cell_far (p := ⟨gb127, 4, none⟩) (by first | (rw [add_block]; exact hn129_4) | (show (Addr.add _ _).block ≠ _; rw [add_block]; exact hn129_4) | exact hn129_4) (.int .i64 ((rd_T33 t120 x6_1).f4))).trans hx129_4
                                (try have hy129_0 := fun (n_ : Nat) => ((cell_far (p := ⟨gb127, 4, none⟩) (by exact hn129_4) (.int .i64 ((rd_T33 t120 x6_1).f4))).trans ((cell_far (p := ⟨gb127, 3, none⟩) (by exact hn129_3) (.int .i64 ((rd_T33 t120 x6_1).f3))).trans ((cell_far (p := ⟨gb127, 2, none⟩) (by exact hn129_2) (.string ((rd_T33 t120 x6_1).f2))).trans ((cell_far (p := ⟨gb127, 1, none⟩) (by exact hn129_1) (.int .i64 ((rd_T33 t120 x6_1).f1))).trans ((cell_far (p := ⟨gb127, 0, none⟩) (by exact hn129_0) (.int .i64 ((rd_T33 t120 x6_1).f0))).trans (show (w15.drewN n_).cell? _ = some _ from hs129_0)))))))
                                (try have hy129_1 := fun (n_ : Nat) => ((cell_far (p := ⟨gb127, 4, none⟩) (by exact hn129_4) (.int .i64 ((rd_T33 t120 x6_1).f4))).trans ((cell_far (p := ⟨gb127, 3, none⟩) (by exact hn129_3) (.int .i64 ((rd_T33 t120 x6_1).f3))).trans ((cell_far (p := ⟨gb127, 2, none⟩) (by exact hn129_2) (.string ((rd_T33 t120 x6_1).f2))).trans ((cell_far (p := ⟨gb127, 1, none⟩) (by exact hn129_1) (.int .i64 ((rd_T33 t120 x6_1).f1))).trans ((cell_far (p := ⟨gb127, 0, none⟩) (by exact hn129_0) (.int .i64 ((rd_T33 t120 x6_1).f0))).trans (show (w15.drewN n_).cell? _ = some _ from hs129_1)))))))
                                (try have hy129_2 := fun (n_ : Nat) => ((cell_far (p := ⟨gb127, 4, none⟩) (by exact hn129_4) (.int .i64 ((rd_T33 t120 x6_1).f4))).trans ((cell_far (p := ⟨gb127, 3, none⟩) (by exact hn129_3) (.int .i64 ((rd_T33 t120 x6_1).f3))).trans ((cell_far (p := ⟨gb127, 2, none⟩) (by exact hn129_2) (.string ((rd_T33 t120 x6_1).f2))).trans ((cell_far (p := ⟨gb127, 1, none⟩) (by exact hn129_1) (.int .i64 ((rd_T33 t120 x6_1).f1))).trans ((cell_far (p := ⟨gb127, 0, none⟩) (by exact hn129_0) (.int .i64 ((rd_T33 t120 x6_1).f0))).trans (show (w15.drewN n_).cell? _ = some _ from hs129_2)))))))
                                (try have hy129_3 := fun (n_ : Nat) => ((cell_far (p := ⟨gb127, 4, none⟩) (by exact hn129_4) (.int .i64 ((rd_T33 t120 x6_1).f4))).trans ((cell_far (p := ⟨gb127, 3, none⟩) (by exact hn129_3) (.int .i64 ((rd_T33 t120 x6_1).f3))).trans ((cell_far (p := ⟨gb127, 2, none⟩) (by exact hn129_2) (.string ((rd_T33 t120 x6_1).f2))).trans ((cell_far (p := ⟨gb127, 1, none⟩) (by exact hn129_1) (.int .i64 ((rd_T33 t120 x6_1).f1))).trans ((cell_far (p := ⟨gb127, 0, none⟩) (by exact hn129_0) (.int .i64 ((rd_T33 t120 x6_1).f0))).trans (show (w15.drewN n_).cell? _ = some _ from hs129_3)))))))
                                (try have hy129_4 := fun (n_ : Nat) => ((cell_far (p := ⟨gb127, 4, none⟩) (by exact hn129_4) (.int .i64 ((rd_T33 t120 x6_1).f4))).trans ((cell_far (p := ⟨gb127, 3, none⟩) (by exact hn129_3) (.int .i64 ((rd_T33 t120 x6_1).f3))).trans ((cell_far (p := ⟨gb127, 2, none⟩) (by exact hn129_2) (.string ((rd_T33 t120 x6_1).f2))).trans ((cell_far (p := ⟨gb127, 1, none⟩) (by exact hn129_1) (.int .i64 ((rd_T33 t120 x6_1).f1))).trans ((cell_far (p := ⟨gb127, 0, none⟩) (by exact hn129_0) (.int .i64 ((rd_T33 t120 x6_1).f0))).trans (show (w15.drewN n_).cell? _ = some _ from hs129_4)))))))
                                clear hs129_0
                                clear hs129_1
                                clear hs129_2
                                clear hs129_3
                                clear hs129_4
                                clear hn129_0
                                clear hn129_1
                                clear hn129_2
                                clear hn129_3
                                clear hn129_4
                                replace p129 := eq_true p129
                                replace q129 := eq_true q129
                                go_wp2
                                repeat (go_quiet (fail); try go_wp2)
                                go_meet
                                case rel => exact ⟨_, (decide (((rd_T33 t120 x6_1).f1) < ((rd_T33 t120 (ji22)).f1))), (by first | rfl | (simp; done) | (simp only [← hji22] <;> (first | rfl | simp)) | (simp [*]; done)), H', ⟨by have := HK1.out; first | omega | exact Nat.le_refl _⟩, ⟨by (with_reducible repeat (first | apply Kd.R_alloc | apply Kd.R_drewN | apply Kd.R_drew)); exact Kd.R_mono (Kd.R_far (p := ⟨gb127, 4, none⟩) (Kd.R_far (p := ⟨gb127, 3, none⟩) (Kd.R_far (p := ⟨gb127, 2, none⟩) (Kd.R_far (p := ⟨gb127, 1, none⟩) (Kd.R_far (p := ⟨gb127, 0, none⟩) (Kd.R_mono HO_3.out (fun k_ hk => (⟨hk, hk.2⟩ : _ ∧ k_ ≠ gb127))) (fun _ hk => hk.2) (.int .i64 ((rd_T33 t120 x6_1).f0))) (fun _ hk => hk.2) (.int .i64 ((rd_T33 t120 x6_1).f1))) (fun _ hk => hk.2) (.string ((rd_T33 t120 x6_1).f2))) (fun _ hk => hk.2) (.int .i64 ((rd_T33 t120 x6_1).f3))) (fun _ hk => hk.2) (.int .i64 ((rd_T33 t120 x6_1).f4))) (fun _ hk => hk.1.2)⟩, ⟨by (with_reducible repeat (first | refine blk_drewN ?_ _ | refine blk_drew ?_ | refine blk_alloc ?_ _)); refine blk_put (cs := #[.int .i64 ((rd_T33 t120 x6_1).f0), .int .i64 ((rd_T33 t120 x6_1).f1), .string ((rd_T33 t120 x6_1).f2), .int .i64 ((rd_T33 t120 x6_1).f3), .int .i64 0]) ?_ 4 _ rfl; (with_reducible repeat (first | refine blk_drewN ?_ _ | refine blk_drew ?_ | refine blk_alloc ?_ _)); refine blk_put (cs := #[.int .i64 ((rd_T33 t120 x6_1).f0), .int .i64 ((rd_T33 t120 x6_1).f1), .string ((rd_T33 t120 x6_1).f2), .int .i64 0, .int .i64 0]) ?_ 3 _ rfl; (with_reducible repeat (first | refine blk_drewN ?_ _ | refine blk_drew ?_ | refine blk_alloc ?_ _)); refine blk_put (cs := #[.int .i64 ((rd_T33 t120 x6_1).f0), .int .i64 ((rd_T33 t120 x6_1).f1), .string (⟨#[]⟩ : ByteArray), .int .i64 0, .int .i64 0]) ?_ 2 _ rfl; (with_reducible repeat (first | refine blk_drewN ?_ _ | refine blk_drew ?_ | refine blk_alloc ?_ _)); refine blk_put (cs := #[.int .i64 ((rd_T33 t120 x6_1).f0), .int .i64 0, .string (⟨#[]⟩ : ByteArray), .int .i64 0, .int .i64 0]) ?_ 1 _ rfl; (with_reducible repeat (first | refine blk_drewN ?_ _ | refine blk_drew ?_ | refine blk_alloc ?_ _)); refine blk_put (cs := #[.int .i64 0, .int .i64 0, .string (⟨#[]⟩ : ByteArray), .int .i64 0, .int .i64 0]) ?_ 0 _ rfl; (with_reducible repeat (first | refine blk_drewN ?_ _ | refine blk_drew ?_ | refine blk_alloc ?_ _)); exact BK127.out⟩, ⟨by repeat (first | (with_reducible first | exact HB.out | apply below_alloc | apply pw_below_drewN | apply below_drew1 | refine below_set ?_ GE127.out) | exact HB.out)⟩⟩
                              · rw [if_neg c26] at H
                                have c26b0 : (((rd_T33 t120 x6_1).f0) == 8) = false := beq_eq_false_iff_ne.mpr c26
                                have c26b1 : (((rd_T33 t120 x6_1).f0) != 8) = true := bne_iff_ne.mpr c26
                                have H' := Aside0.mk H
                                clear H
                                have hcz28_0 : w15.cell? ⟨gb127, 0, none⟩ = some (.int .i64 0) := (blk_cell BK127.out 0).trans rfl
                                have hcz28_1 : w15.cell? ⟨gb127, 1, none⟩ = some (.int .i64 0) := (blk_cell BK127.out 1).trans rfl
                                have hcz28_2 : w15.cell? ⟨gb127, 2, none⟩ = some (.string (⟨#[]⟩ : ByteArray)) := (blk_cell BK127.out 2).trans rfl
                                have hcz28_3 : w15.cell? ⟨gb127, 3, none⟩ = some (.int .i64 0) := (blk_cell BK127.out 3).trans rfl
                                have hcz28_4 : w15.cell? ⟨gb127, 4, none⟩ = some (.int .i64 0) := (blk_cell BK127.out 4).trans rfl
                                have hfz28_0 := blk_frozen BK127.out 0
                                have hfz28_1 := blk_frozen BK127.out 1
                                have hfz28_2 := blk_frozen BK127.out 2
                                have hfz28_3 := blk_frozen BK127.out 3
                                have hfz28_4 := blk_frozen BK127.out 4
                                have p128 : 0 ≤ ((ji22) : Int) := of_decide_eq_true (by first | (with_reducible assumption) | assumption)
                                have q128 : (ji22) < (t120.length : Int) := of_decide_eq_true (by first | (with_reducible assumption) | assumption)
                                obtain ⟨ad128, e128, hx128_0, hx128_1, hx128_2, hx128_3, hx128_4⟩ := at_T33 (Kd.R_reads' HO_3.out).2.2 (ji22) p128 q128
                                obtain rfl : ad126 = ad128 := (by injection e128)
                                have hn128_0 : ad126.block ≠ gb127 := Kd.own_blk (Kd.R_away HO_3.out (fun _ hk => hk.2))
                                have hn128_1 : ad126.block ≠ gb127 := Kd.own_blk (Kd.R_away HO_3.out (fun _ hk => hk.2))
                                have hn128_2 : ad126.block ≠ gb127 := Kd.own_blk (Kd.R_away HO_3.out (fun _ hk => hk.2))
                                have hn128_3 : ad126.block ≠ gb127 := Kd.own_blk (Kd.R_away HO_3.out (fun _ hk => hk.2))
                                have hn128_4 : ad126.block ≠ gb127 := Kd.own_blk (Kd.R_away HO_3.out (fun _ hk => hk.2))
                                have hs128_0 := hx128_0
                                have hs128_1 := hx128_1
                                have hs128_2 := hx128_2
                                have hs128_3 := hx128_3
                                have hs128_4 := hx128_4
                                replace hx128_0 := (cell_far (p := ⟨gb127, 0, none⟩) (by first | (rw [add_block]; exact hn128_0) | (show (Addr.add _ _).block ≠ _; rw [add_block]; exact hn128_0) | exact hn128_0) (.int .i64 ((rd_T33 t120 x6_1).f0))).trans hx128_0
                                replace hx128_1 := (cell_far (p := ⟨gb127, 0, none⟩) (by first | (rw [add_block]; exact hn128_0) | (show (Addr.add _ _).block ≠ _; rw [add_block]; exact hn128_0) | exact hn128_0) (.int .i64 ((rd_T33 t120 x6_1).f0))).trans hx128_1
                                replace hx128_2 := (cell_far (p := ⟨gb127, 0, none⟩) (by first | (rw [add_block]; exact hn128_0) | (show (Addr.add _ _).block ≠ _; rw [add_block]; exact hn128_0) | exact hn128_0) (.int .i64 ((rd_T33 t120 x6_1).f0))).trans hx128_2
                                replace hx128_3 := (cell_far (p := ⟨gb127, 0, none⟩) (by first | (rw [add_block]; exact hn128_0) | (show (Addr.add _ _).block ≠ _; rw [add_block]; exact hn128_0) | exact hn128_0) (.int .i64 ((rd_T33 t120 x6_1).f0))).trans hx128_3
                                replace hx128_4 := (cell_far (p := ⟨gb127, 0, none⟩) (by first | (rw [add_block]; exact hn128_0) | (show (Addr.add _ _).block ≠ _; rw [add_block]; exact hn128_0) | exact hn128_0) (.int .i64 ((rd_T33 t120 x6_1).f0))).trans hx128_4
                                replace hx128_0 := (cell_far (p := ⟨gb127, 1, none⟩) (by first | (rw [add_block]; exact hn128_1) | (show (Addr.add _ _).block ≠ _; rw [add_block]; exact hn128_1) | exact hn128_1) (.int .i64 ((rd_T33 t120 x6_1).f1))).trans hx128_0
                                replace hx128_1 := (cell_far (p := ⟨gb127, 1, none⟩) (by first | (rw [add_block]; exact hn128_1) | (show (Addr.add _ _).block ≠ _; rw [add_block]; exact hn128_1) | exact hn128_1) (.int .i64 ((rd_T33 t120 x6_1).f1))).trans hx128_1
                                replace hx128_2 := (cell_far (p := ⟨gb127, 1, none⟩) (by first | (rw [add_block]; exact hn128_1) | (show (Addr.add _ _).block ≠ _; rw [add_block]; exact hn128_1) | exact hn128_1) (.int .i64 ((rd_T33 t120 x6_1).f1))).trans hx128_2
                                replace hx128_3 := (cell_far (p := ⟨gb127, 1, none⟩) (by first | (rw [add_block]; exact hn128_1) | (show (Addr.add _ _).block ≠ _; rw [add_block]; exact hn128_1) | exact hn128_1) (.int .i64 ((rd_T33 t120 x6_1).f1))).trans hx128_3
                                replace hx128_4 := (cell_far (p := ⟨gb127, 1, none⟩) (by first | (rw [add_block]; exact hn128_1) | (show (Addr.add _ _).block ≠ _; rw [add_block]; exact hn128_1) | exact hn128_1) (.int .i64 ((rd_T33 t120 x6_1).f1))).trans hx128_4
                                replace hx128_0 := (cell_far (p := ⟨gb127, 2, none⟩) (by first | (rw [add_block]; exact hn128_2) | (show (Addr.add _ _).block ≠ _; rw [add_block]; exact hn128_2) | exact hn128_2) (.string ((rd_T33 t120 x6_1).f2))).trans hx128_0
                                replace hx128_1 := (cell_far (p := ⟨gb127, 2, none⟩) (by first | (rw [add_block]; exact hn128_2) | (show (Addr.add _ _).block ≠ _; rw [add_block]; exact hn128_2) | exact hn128_2) (.string ((rd_T33 t120 x6_1).f2))).trans hx128_1
                                replace hx128_2 := (cell_far (p := ⟨gb127, 2, none⟩) (by first | (rw [add_block]; exact hn128_2) | (show (Addr.add _ _).block ≠ _; rw [add_block]; exact hn128_2) | exact hn128_2) (.string ((rd_T33 t120 x6_1).f2))).trans hx128_2
                                replace hx128_3 := (cell_far (p := ⟨gb127, 2, none⟩) (by first | (rw [add_block]; exact hn128_2) | (show (Addr.add _ _).block ≠ _; rw [add_block]; exact hn128_2) | exact hn128_2) (.string ((rd_T33 t120 x6_1).f2))).trans hx128_3
                                replace hx128_4 := (cell_far (p := ⟨gb127, 2, none⟩) (by first | (rw [add_block]; exact hn128_2) | (show (Addr.add _ _).block ≠ _; rw [add_block]; exact hn128_2) | exact hn128_2) (.string ((rd_T33 t120 x6_1).f2))).trans hx128_4
                                replace hx128_0 := (cell_far (p := ⟨gb127, 3, none⟩) (by first | (rw [add_block]; exact hn128_3) | (show (Addr.add _ _).block ≠ _; rw [add_block]; exact hn128_3) | exact hn128_3) (.int .i64 ((rd_T33 t120 x6_1).f3))).trans hx128_0
                                replace hx128_1 := (cell_far (p := ⟨gb127, 3, none⟩) (by first | (rw [add_block]; exact hn128_3) | (show (Addr.add _ _).block ≠ _; rw [add_block]; exact hn128_3) | exact hn128_3) (.int .i64 ((rd_T33 t120 x6_1).f3))).trans hx128_1
                                replace hx128_2 := (cell_far (p := ⟨gb127, 3, none⟩) (by first | (rw [add_block]; exact hn128_3) | (show (Addr.add _ _).block ≠ _; rw [add_block]; exact hn128_3) | exact hn128_3) (.int .i64 ((rd_T33 t120 x6_1).f3))).trans hx128_2
                                replace hx128_3 := (cell_far (p := ⟨gb127, 3, none⟩) (by first | (rw [add_block]; exact hn128_3) | (show (Addr.add _ _).block ≠ _; rw [add_block]; exact hn128_3) | exact hn128_3) (.int .i64 ((rd_T33 t120 x6_1).f3))).trans hx128_3
                                replace hx128_4 := (cell_far (p := ⟨gb127, 3, none⟩) (by first | (rw [add_block]; exact hn128_3) | (show (Addr.add _ _).block ≠ _; rw [add_block]; exact hn128_3) | exact hn128_3) (.int .i64 ((rd_T33 t120 x6_1).f3))).trans hx128_4
                                replace hx128_0 := (cell_far (p := ⟨gb127, 4, none⟩) (by first | (rw [add_block]; exact hn128_4) | (show (Addr.add _ _).block ≠ _; rw [add_block]; exact hn128_4) | exact hn128_4) (.int .i64 ((rd_T33 t120 x6_1).f4))).trans hx128_0
                                replace hx128_1 := (cell_far (p := ⟨gb127, 4, none⟩) (by first | (rw [add_block]; exact hn128_4) | (show (Addr.add _ _).block ≠ _; rw [add_block]; exact hn128_4) | exact hn128_4) (.int .i64 ((rd_T33 t120 x6_1).f4))).trans hx128_1
                                replace hx128_2 := (cell_far (p := ⟨gb127, 4, none⟩) (by first | (rw [add_block]; exact hn128_4) | (show (Addr.add _ _).block ≠ _; rw [add_block]; exact hn128_4) | exact hn128_4) (.int .i64 ((rd_T33 t120 x6_1).f4))).trans hx128_2
                                replace hx128_3 := (cell_far (p := ⟨gb127, 4, none⟩) (by first | (rw [add_block]; exact hn128_4) | (show (Addr.add _ _).block ≠ _; rw [add_block]; exact hn128_4) | exact hn128_4) (.int .i64 ((rd_T33 t120 x6_1).f4))).trans hx128_3
                                replace hx128_4 := (cell_far (p := ⟨gb127, 4, none⟩) (by first | (rw [add_block]; exact hn128_4) | (show (Addr.add _ _).block ≠ _; rw [add_block]; exact hn128_4) | exact hn128_4) (.int .i64 ((rd_T33 t120 x6_1).f4))).trans hx128_4
                                (try have hy128_0 := fun (n_ : Nat) => ((cell_far (p := ⟨gb127, 4, none⟩) (by exact hn128_4) (.int .i64 ((rd_T33 t120 x6_1).f4))).trans ((cell_far (p := ⟨gb127, 3, none⟩) (by exact hn128_3) (.int .i64 ((rd_T33 t120 x6_1).f3))).trans ((cell_far (p := ⟨gb127, 2, none⟩) (by exact hn128_2) (.string ((rd_T33 t120 x6_1).f2))).trans ((cell_far (p := ⟨gb127, 1, none⟩) (by exact hn128_1) (.int .i64 ((rd_T33 t120 x6_1).f1))).trans ((cell_far (p := ⟨gb127, 0, none⟩) (by exact hn128_0) (.int .i64 ((rd_T33 t120 x6_1).f0))).trans (show (w15.drewN n_).cell? _ = some _ from hs128_0)))))))
                                (try have hy128_1 := fun (n_ : Nat) => ((cell_far (p := ⟨gb127, 4, none⟩) (by exact hn128_4) (.int .i64 ((rd_T33 t120 x6_1).f4))).trans ((cell_far (p := ⟨gb127, 3, none⟩) (by exact hn128_3) (.int .i64 ((rd_T33 t120 x6_1).f3))).trans ((cell_far (p := ⟨gb127, 2, none⟩) (by exact hn128_2) (.string ((rd_T33 t120 x6_1).f2))).trans ((cell_far (p := ⟨gb127, 1, none⟩) (by exact hn128_1) (.int .i64 ((rd_T33 t120 x6_1).f1))).trans ((cell_far (p := ⟨gb127, 0, none⟩) (by exact hn128_0) (.int .i64 ((rd_T33 t120 x6_1).f0))).trans (show (w15.drewN n_).cell? _ = some _ from hs128_1)))))))
                                (try have hy128_2 := fun (n_ : Nat) => ((cell_far (p := ⟨gb127, 4, none⟩) (by exact hn128_4) (.int .i64 ((rd_T33 t120 x6_1).f4))).trans ((cell_far (p := ⟨gb127, 3, none⟩) (by exact hn128_3) (.int .i64 ((rd_T33 t120 x6_1).f3))).trans ((cell_far (p := ⟨gb127, 2, none⟩) (by exact hn128_2) (.string ((rd_T33 t120 x6_1).f2))).trans ((cell_far (p := ⟨gb127, 1, none⟩) (by exact hn128_1) (.int .i64 ((rd_T33 t120 x6_1).f1))).trans ((cell_far (p := ⟨gb127, 0, none⟩) (by exact hn128_0) (.int .i64 ((rd_T33 t120 x6_1).f0))).trans (show (w15.drewN n_).cell? _ = some _ from hs128_2)))))))
                                (try have hy128_3 := fun (n_ : Nat) => ((cell_far (p := ⟨gb127, 4, none⟩) (by exact hn128_4) (.int .i64 ((rd_T33 t120 x6_1).f4))).trans ((cell_far (p := ⟨gb127, 3, none⟩) (by exact hn128_3) (.int .i64 ((rd_T33 t120 x6_1).f3))).trans ((cell_far (p := ⟨gb127, 2, none⟩) (by exact hn128_2) (.string ((rd_T33 t120 x6_1).f2))).trans ((cell_far (p := ⟨gb127, 1, none⟩) (by exact hn128_1) (.int .i64 ((rd_T33 t120 x6_1).f1))).trans ((cell_far (p := ⟨gb127, 0, none⟩) (by exact hn128_0) (.int .i64 ((rd_T33 t120 x6_1).f0))).trans (show (w15.drewN n_).cell? _ = some _ from hs128_3)))))))
                                (try have hy128_4 := fun (n_ : Nat) => ((cell_far (p := ⟨gb127, 4, none⟩) (by exact hn128_4) (.int .i64 ((rd_T33 t120 x6_1).f4))).trans ((cell_far (p := ⟨gb127, 3, none⟩) (by exact hn128_3) (.int .i64 ((rd_T33 t120 x6_1).f3))).trans ((cell_far (p := ⟨gb127, 2, none⟩) (by exact hn128_2) (.string ((rd_T33 t120 x6_1).f2))).trans ((cell_far (p := ⟨gb127, 1, none⟩) (by exact hn128_1) (.int .i64 ((rd_T33 t120 x6_1).f1))).trans ((cell_far (p := ⟨gb127, 0, none⟩) (by exact hn128_0) (.int .i64 ((rd_T33 t120 x6_1).f0))).trans (show (w15.drewN n_).cell? _ = some _ from hs128_4)))))))
                                clear hs128_0
                                clear hs128_1
                                clear hs128_2
                                clear hs128_3
                                clear hs128_4
                                clear hn128_0
                                clear hn128_1
                                clear hn128_2
                                clear hn128_3
                                clear hn128_4
                                replace p128 := eq_true p128
                                replace q128 := eq_true q128
                                go_wp2
                                repeat (go_quiet (fail); try go_wp2)
                                go_meet
                                case rel => exact ⟨_, (true), (by first | rfl | (simp; done) | (simp [*]; done)), H', ⟨by have := HK1.out; first | omega | exact Nat.le_refl _⟩, ⟨by (with_reducible repeat (first | apply Kd.R_alloc | apply Kd.R_drewN | apply Kd.R_drew)); exact Kd.R_mono (Kd.R_far (p := ⟨gb127, 4, none⟩) (Kd.R_far (p := ⟨gb127, 3, none⟩) (Kd.R_far (p := ⟨gb127, 2, none⟩) (Kd.R_far (p := ⟨gb127, 1, none⟩) (Kd.R_far (p := ⟨gb127, 0, none⟩) (Kd.R_mono HO_3.out (fun k_ hk => (⟨hk, hk.2⟩ : _ ∧ k_ ≠ gb127))) (fun _ hk => hk.2) (.int .i64 ((rd_T33 t120 x6_1).f0))) (fun _ hk => hk.2) (.int .i64 ((rd_T33 t120 x6_1).f1))) (fun _ hk => hk.2) (.string ((rd_T33 t120 x6_1).f2))) (fun _ hk => hk.2) (.int .i64 ((rd_T33 t120 x6_1).f3))) (fun _ hk => hk.2) (.int .i64 ((rd_T33 t120 x6_1).f4))) (fun _ hk => hk.1.2)⟩, ⟨by (with_reducible repeat (first | refine blk_drewN ?_ _ | refine blk_drew ?_ | refine blk_alloc ?_ _)); refine blk_put (cs := #[.int .i64 ((rd_T33 t120 x6_1).f0), .int .i64 ((rd_T33 t120 x6_1).f1), .string ((rd_T33 t120 x6_1).f2), .int .i64 ((rd_T33 t120 x6_1).f3), .int .i64 0]) ?_ 4 _ rfl; (with_reducible repeat (first | refine blk_drewN ?_ _ | refine blk_drew ?_ | refine blk_alloc ?_ _)); refine blk_put (cs := #[.int .i64 ((rd_T33 t120 x6_1).f0), .int .i64 ((rd_T33 t120 x6_1).f1), .string ((rd_T33 t120 x6_1).f2), .int .i64 0, .int .i64 0]) ?_ 3 _ rfl; (with_reducible repeat (first | refine blk_drewN ?_ _ | refine blk_drew ?_ | refine blk_alloc ?_ _)); refine blk_put (cs := #[.int .i64 ((rd_T33 t120 x6_1).f0), .int .i64 ((rd_T33 t120 x6_1).f1), .string (⟨#[]⟩ : ByteArray), .int .i64 0, .int .i64 0]) ?_ 2 _ rfl; (with_reducible repeat (first | refine blk_drewN ?_ _ | refine blk_drew ?_ | refine blk_alloc ?_ _)); refine blk_put (cs := #[.int .i64 ((rd_T33 t120 x6_1).f0), .int .i64 0, .string (⟨#[]⟩ : ByteArray), .int .i64 0, .int .i64 0]) ?_ 1 _ rfl; (with_reducible repeat (first | refine blk_drewN ?_ _ | refine blk_drew ?_ | refine blk_alloc ?_ _)); refine blk_put (cs := #[.int .i64 0, .int .i64 0, .string (⟨#[]⟩ : ByteArray), .int .i64 0, .int .i64 0]) ?_ 0 _ rfl; (with_reducible repeat (first | refine blk_drewN ?_ _ | refine blk_drew ?_ | refine blk_alloc ?_ _)); exact BK127.out⟩, ⟨by repeat (first | (with_reducible first | exact HB.out | apply below_alloc | apply pw_below_drewN | apply below_drew1 | refine below_set ?_ GE127.out) | exact HB.out)⟩⟩
                            · rw [if_neg c25] at H
                              have c25b0 : decide (((rd_T33 t120 x6_1).f1) ≤ ((rd_T33 t120 (ji22)).f1)) = false := decide_eq_false c25
                              clear c25
                              have H' := Aside0.mk H
                              clear H
                              have hcz29_0 : w15.cell? ⟨gb127, 0, none⟩ = some (.int .i64 0) := (blk_cell BK127.out 0).trans rfl
                              have hcz29_1 : w15.cell? ⟨gb127, 1, none⟩ = some (.int .i64 0) := (blk_cell BK127.out 1).trans rfl
                              have hcz29_2 : w15.cell? ⟨gb127, 2, none⟩ = some (.string (⟨#[]⟩ : ByteArray)) := (blk_cell BK127.out 2).trans rfl
                              have hcz29_3 : w15.cell? ⟨gb127, 3, none⟩ = some (.int .i64 0) := (blk_cell BK127.out 3).trans rfl
                              have hcz29_4 : w15.cell? ⟨gb127, 4, none⟩ = some (.int .i64 0) := (blk_cell BK127.out 4).trans rfl
                              have hfz29_0 := blk_frozen BK127.out 0
                              have hfz29_1 := blk_frozen BK127.out 1
                              have hfz29_2 := blk_frozen BK127.out 2
                              have hfz29_3 := blk_frozen BK127.out 3
                              have hfz29_4 := blk_frozen BK127.out 4
                              have p128 : 0 ≤ ((ji22) : Int) := of_decide_eq_true (by first | (with_reducible assumption) | assumption)
                              have q128 : (ji22) < (t120.length : Int) := of_decide_eq_true (by first | (with_reducible assumption) | assumption)
                              obtain ⟨ad128, e128, hx128_0, hx128_1, hx128_2, hx128_3, hx128_4⟩ := at_T33 (Kd.R_reads' HO_3.out).2.2 (ji22) p128 q128
                              obtain rfl : ad126 = ad128 := (by injection e128)
                              have hn128_0 : ad126.block ≠ gb127 := Kd.own_blk (Kd.R_away HO_3.out (fun _ hk => hk.2))
                              have hn128_1 : ad126.block ≠ gb127 := Kd.own_blk (Kd.R_away HO_3.out (fun _ hk => hk.2))
                              have hn128_2 : ad126.block ≠ gb127 := Kd.own_blk (Kd.R_away HO_3.out (fun _ hk => hk.2))
                              have hn128_3 : ad126.block ≠ gb127 := Kd.own_blk (Kd.R_away HO_3.out (fun _ hk => hk.2))
                              have hn128_4 : ad126.block ≠ gb127 := Kd.own_blk (Kd.R_away HO_3.out (fun _ hk => hk.2))
                              have hs128_0 := hx128_0
                              have hs128_1 := hx128_1
                              have hs128_2 := hx128_2
                              have hs128_3 := hx128_3
                              have hs128_4 := hx128_4
                              replace hx128_0 := (cell_far (p := ⟨gb127, 0, none⟩) (by first | (rw [add_block]; exact hn128_0) | (show (Addr.add _ _).block ≠ _; rw [add_block]; exact hn128_0) | exact hn128_0) (.int .i64 ((rd_T33 t120 x6_1).f0))).trans hx128_0
                              replace hx128_1 := (cell_far (p := ⟨gb127, 0, none⟩) (by first | (rw [add_block]; exact hn128_0) | (show (Addr.add _ _).block ≠ _; rw [add_block]; exact hn128_0) | exact hn128_0) (.int .i64 ((rd_T33 t120 x6_1).f0))).trans hx128_1
                              replace hx128_2 := (cell_far (p := ⟨gb127, 0, none⟩) (by first | (rw [add_block]; exact hn128_0) | (show (Addr.add _ _).block ≠ _; rw [add_block]; exact hn128_0) | exact hn128_0) (.int .i64 ((rd_T33 t120 x6_1).f0))).trans hx128_2
                              replace hx128_3 := (cell_far (p := ⟨gb127, 0, none⟩) (by first | (rw [add_block]; exact hn128_0) | (show (Addr.add _ _).block ≠ _; rw [add_block]; exact hn128_0) | exact hn128_0) (.int .i64 ((rd_T33 t120 x6_1).f0))).trans hx128_3
                              replace hx128_4 := (cell_far (p := ⟨gb127, 0, none⟩) (by first | (rw [add_block]; exact hn128_0) | (show (Addr.add _ _).block ≠ _; rw [add_block]; exact hn128_0) | exact hn128_0) (.int .i64 ((rd_T33 t120 x6_1).f0))).trans hx128_4
                              replace hx128_0 := (cell_far (p := ⟨gb127, 1, none⟩) (by first | (rw [add_block]; exact hn128_1) | (show (Addr.add _ _).block ≠ _; rw [add_block]; exact hn128_1) | exact hn128_1) (.int .i64 ((rd_T33 t120 x6_1).f1))).trans hx128_0
                              replace hx128_1 := (cell_far (p := ⟨gb127, 1, none⟩) (by first | (rw [add_block]; exact hn128_1) | (show (Addr.add _ _).block ≠ _; rw [add_block]; exact hn128_1) | exact hn128_1) (.int .i64 ((rd_T33 t120 x6_1).f1))).trans hx128_1
                              replace hx128_2 := (cell_far (p := ⟨gb127, 1, none⟩) (by first | (rw [add_block]; exact hn128_1) | (show (Addr.add _ _).block ≠ _; rw [add_block]; exact hn128_1) | exact hn128_1) (.int .i64 ((rd_T33 t120 x6_1).f1))).trans hx128_2
                              replace hx128_3 := (cell_far (p := ⟨gb127, 1, none⟩) (by first | (rw [add_block]; exact hn128_1) | (show (Addr.add _ _).block ≠ _; rw [add_block]; exact hn128_1) | exact hn128_1) (.int .i64 ((rd_T33 t120 x6_1).f1))).trans hx128_3
                              replace hx128_4 := (cell_far (p := ⟨gb127, 1, none⟩) (by first | (rw [add_block]; exact hn128_1) | (show (Addr.add _ _).block ≠ _; rw [add_block]; exact hn128_1) | exact hn128_1) (.int .i64 ((rd_T33 t120 x6_1).f1))).trans hx128_4
                              replace hx128_0 := (cell_far (p := ⟨gb127, 2, none⟩) (by first | (rw [add_block]; exact hn128_2) | (show (Addr.add _ _).block ≠ _; rw [add_block]; exact hn128_2) | exact hn128_2) (.string ((rd_T33 t120 x6_1).f2))).trans hx128_0
                              replace hx128_1 := (cell_far (p := ⟨gb127, 2, none⟩) (by first | (rw [add_block]; exact hn128_2) | (show (Addr.add _ _).block ≠ _; rw [add_block]; exact hn128_2) | exact hn128_2) (.string ((rd_T33 t120 x6_1).f2))).trans hx128_1
                              replace hx128_2 := (cell_far (p := ⟨gb127, 2, none⟩) (by first | (rw [add_block]; exact hn128_2) | (show (Addr.add _ _).block ≠ _; rw [add_block]; exact hn128_2) | exact hn128_2) (.string ((rd_T33 t120 x6_1).f2))).trans hx128_2
                              replace hx128_3 := (cell_far (p := ⟨gb127, 2, none⟩) (by first | (rw [add_block]; exact hn128_2) | (show (Addr.add _ _).block ≠ _; rw [add_block]; exact hn128_2) | exact hn128_2) (.string ((rd_T33 t120 x6_1).f2))).trans hx128_3
                              replace hx128_4 := (cell_far (p := ⟨gb127, 2, none⟩) (by first | (rw [add_block]; exact hn128_2) | (show (Addr.add _ _).block ≠ _; rw [add_block]; exact hn128_2) | exact hn128_2) (.string ((rd_T33 t120 x6_1).f2))).trans hx128_4
                              replace hx128_0 := (cell_far (p := ⟨gb127, 3, none⟩) (by first | (rw [add_block]; exact hn128_3) | (show (Addr.add _ _).block ≠ _; rw [add_block]; exact hn128_3) | exact hn128_3) (.int .i64 ((rd_T33 t120 x6_1).f3))).trans hx128_0
                              replace hx128_1 := (cell_far (p := ⟨gb127, 3, none⟩) (by first | (rw [add_block]; exact hn128_3) | (show (Addr.add _ _).block ≠ _; rw [add_block]; exact hn128_3) | exact hn128_3) (.int .i64 ((rd_T33 t120 x6_1).f3))).trans hx128_1
                              replace hx128_2 := (cell_far (p := ⟨gb127, 3, none⟩) (by first | (rw [add_block]; exact hn128_3) | (show (Addr.add _ _).block ≠ _; rw [add_block]; exact hn128_3) | exact hn128_3) (.int .i64 ((rd_T33 t120 x6_1).f3))).trans hx128_2
                              replace hx128_3 := (cell_far (p := ⟨gb127, 3, none⟩) (by first | (rw [add_block]; exact hn128_3) | (show (Addr.add _ _).block ≠ _; rw [add_block]; exact hn128_3) | exact hn128_3) (.int .i64 ((rd_T33 t120 x6_1).f3))).trans hx128_3
                              replace hx128_4 := (cell_far (p := ⟨gb127, 3, none⟩) (by first | (rw [add_block]; exact hn128_3) | (show (Addr.add _ _).block ≠ _; rw [add_block]; exact hn128_3) | exact hn128_3) (.int .i64 ((rd_T33 t120 x6_1).f3))).trans hx128_4
                              replace hx128_0 := (cell_far (p := ⟨gb127, 4, none⟩) (by first | (rw [add_block]; exact hn128_4) | (show (Addr.add _ _).block ≠ _; rw [add_block]; exact hn128_4) | exact hn128_4) (.int .i64 ((rd_T33 t120 x6_1).f4))).trans hx128_0
                              replace hx128_1 := (cell_far (p := ⟨gb127, 4, none⟩) (by first | (rw [add_block]; exact hn128_4) | (show (Addr.add _ _).block ≠ _; rw [add_block]; exact hn128_4) | exact hn128_4) (.int .i64 ((rd_T33 t120 x6_1).f4))).trans hx128_1
                              replace hx128_2 := (cell_far (p := ⟨gb127, 4, none⟩) (by first | (rw [add_block]; exact hn128_4) | (show (Addr.add _ _).block ≠ _; rw [add_block]; exact hn128_4) | exact hn128_4) (.int .i64 ((rd_T33 t120 x6_1).f4))).trans hx128_2
                              replace hx128_3 := (cell_far (p := ⟨gb127, 4, none⟩) (by first | (rw [add_block]; exact hn128_4) | (show (Addr.add _ _).block ≠ _; rw [add_block]; exact hn128_4) | exact hn128_4) (.int .i64 ((rd_T33 t120 x6_1).f4))).trans hx128_3
                              replace hx128_4 := (cell_far (p := ⟨gb127, 4, none⟩) (by first | (rw [add_block]; exact hn128_4) | (show (Addr.add _ _).block ≠ _; rw [add_block]; exact hn128_4) | exact hn128_4) (.int .i64 ((rd_T33 t120 x6_1).f4))).trans hx128_4
                              (try have hy128_0 := fun (n_ : Nat) => ((cell_far (p := ⟨gb127, 4, none⟩) (by exact hn128_4) (.int .i64 ((rd_T33 t120 x6_1).f4))).trans ((cell_far (p := ⟨gb127, 3, none⟩) (by exact hn128_3) (.int .i64 ((rd_T33 t120 x6_1).f3))).trans ((cell_far (p := ⟨gb127, 2, none⟩) (by exact hn128_2) (.string ((rd_T33 t120 x6_1).f2))).trans ((cell_far (p := ⟨gb127, 1, none⟩) (by exact hn128_1) (.int .i64 ((rd_T33 t120 x6_1).f1))).trans ((cell_far (p := ⟨gb127, 0, none⟩) (by exact hn128_0) (.int .i64 ((rd_T33 t120 x6_1).f0))).trans (show (w15.drewN n_).cell? _ = some _ from hs128_0)))))))
                              (try have hy128_1 := fun (n_ : Nat) => ((cell_far (p := ⟨gb127, 4, none⟩) (by exact hn128_4) (.int .i64 ((rd_T33 t120 x6_1).f4))).trans ((cell_far (p := ⟨gb127, 3, none⟩) (by exact hn128_3) (.int .i64 ((rd_T33 t120 x6_1).f3))).trans ((cell_far (p := ⟨gb127, 2, none⟩) (by exact hn128_2) (.string ((rd_T33 t120 x6_1).f2))).trans ((cell_far (p := ⟨gb127, 1, none⟩) (by exact hn128_1) (.int .i64 ((rd_T33 t120 x6_1).f1))).trans ((cell_far (p := ⟨gb127, 0, none⟩) (by exact hn128_0) (.int .i64 ((rd_T33 t120 x6_1).f0))).trans (show (w15.drewN n_).cell? _ = some _ from hs128_1)))))))
                              (try have hy128_2 := fun (n_ : Nat) => ((cell_far (p := ⟨gb127, 4, none⟩) (by exact hn128_4) (.int .i64 ((rd_T33 t120 x6_1).f4))).trans ((cell_far (p := ⟨gb127, 3, none⟩) (by exact hn128_3) (.int .i64 ((rd_T33 t120 x6_1).f3))).trans ((cell_far (p := ⟨gb127, 2, none⟩) (by exact hn128_2) (.string ((rd_T33 t120 x6_1).f2))).trans ((cell_far (p := ⟨gb127, 1, none⟩) (by exact hn128_1) (.int .i64 ((rd_T33 t120 x6_1).f1))).trans ((cell_far (p := ⟨gb127, 0, none⟩) (by exact hn128_0) (.int .i64 ((rd_T33 t120 x6_1).f0))).trans (show (w15.drewN n_).cell? _ = some _ from hs128_2)))))))
                              (try have hy128_3 := fun (n_ : Nat) => ((cell_far (p := ⟨gb127, 4, none⟩) (by exact hn128_4) (.int .i64 ((rd_T33 t120 x6_1).f4))).trans ((cell_far (p := ⟨gb127, 3, none⟩) (by exact hn128_3) (.int .i64 ((rd_T33 t120 x6_1).f3))).trans ((cell_far (p := ⟨gb127, 2, none⟩) (by exact hn128_2) (.string ((rd_T33 t120 x6_1).f2))).trans ((cell_far (p := ⟨gb127, 1, none⟩) (by exact hn128_1) (.int .i64 ((rd_T33 t120 x6_1).f1))).trans ((cell_far (p := ⟨gb127, 0, none⟩) (by exact hn128_0) (.int .i64 ((rd_T33 t120 x6_1).f0))).trans (show (w15.drewN n_).cell? _ = some _ from hs128_3)))))))
                              (try have hy128_4 := fun (n_ : Nat) => ((cell_far (p := ⟨gb127, 4, none⟩) (by exact hn128_4) (.int .i64 ((rd_T33 t120 x6_1).f4))).trans ((cell_far (p := ⟨gb127, 3, none⟩) (by exact hn128_3) (.int .i64 ((rd_T33 t120 x6_1).f3))).trans ((cell_far (p := ⟨gb127, 2, none⟩) (by exact hn128_2) (.string ((rd_T33 t120 x6_1).f2))).trans ((cell_far (p := ⟨gb127, 1, none⟩) (by exact hn128_1) (.int .i64 ((rd_T33 t120 x6_1).f1))).trans ((cell_far (p := ⟨gb127, 0, none⟩) (by exact hn128_0) (.int .i64 ((rd_T33 t120 x6_1).f0))).trans (show (w15.drewN n_).cell? _ = some _ from hs128_4)))))))
                              clear hs128_0
                              clear hs128_1
                              clear hs128_2
                              clear hs128_3
                              clear hs128_4
                              clear hn128_0
                              clear hn128_1
                              clear hn128_2
                              clear hn128_3
                              clear hn128_4
                              replace p128 := eq_true p128
                              replace q128 := eq_true q128
                              have p130 : 0 ≤ ((ji22) : Int) := of_decide_eq_true (by first | (with_reducible assumption) | assumption)
                              have q130 : (ji22) < (t120.length : Int) := of_decide_eq_true (by first | (with_reducible assumption) | assumption)
                              obtain ⟨ad130, e130, hx130_0, hx130_1, hx130_2, hx130_3, hx130_4⟩ := at_T33 (Kd.R_reads' HO_3.out).2.2 (ji22) p130 q130
                              obtain rfl : ad126 = ad130 := (by injection e130)
                              have hn130_0 : ad126.block ≠ gb127 := Kd.own_blk (Kd.R_away HO_3.out (fun _ hk => hk.2))
                              have hn130_1 : ad126.block ≠ gb127 := Kd.own_blk (Kd.R_away HO_3.out (fun _ hk => hk.2))
                              have hn130_2 : ad126.block ≠ gb127 := Kd.own_blk (Kd.R_away HO_3.out (fun _ hk => hk.2))
                              have hn130_3 : ad126.block ≠ gb127 := Kd.own_blk (Kd.R_away HO_3.out (fun _ hk => hk.2))
                              have hn130_4 : ad126.block ≠ gb127 := Kd.own_blk (Kd.R_away HO_3.out (fun _ hk => hk.2))
                              have hs130_0 := hx130_0
                              have hs130_1 := hx130_1
                              have hs130_2 := hx130_2
                              have hs130_3 := hx130_3
                              have hs130_4 := hx130_4
                              replace hx130_0 := (cell_far (p := ⟨gb127, 0, none⟩) (by first | (rw [add_block]; exact hn130_0) | (show (Addr.add _ _).block ≠ _; rw [add_block]; exact hn130_0) | exact hn130_0) (.int .i64 ((rd_T33 t120 x6_1).f0))).trans hx130_0
                              replace hx130_1 := (cell_far (p := ⟨gb127, 0, none⟩) (by first | (rw [add_block]; exact hn130_0) | (show (Addr.add _ _).block ≠ _; rw [add_block]; exact hn130_0) | exact hn130_0) (.int .i64 ((rd_T33 t120 x6_1).f0))).trans hx130_1
                              replace hx130_2 := (cell_far (p := ⟨gb127, 0, none⟩) (by first | (rw [add_block]; exact hn130_0) | (show (Addr.add _ _).block ≠ _; rw [add_block]; exact hn130_0) | exact hn130_0) (.int .i64 ((rd_T33 t120 x6_1).f0))).trans hx130_2
                              replace hx130_3 := (cell_far (p := ⟨gb127, 0, none⟩) (by first | (rw [add_block]; exact hn130_0) | (show (Addr.add _ _).block ≠ _; rw [add_block]; exact hn130_0) | exact hn130_0) (.int .i64 ((rd_T33 t120 x6_1).f0))).trans hx130_3
                              replace hx130_4 := (cell_far (p := ⟨gb127, 0, none⟩) (by first | (rw [add_block]; exact hn130_0) | (show (Addr.add _ _).block ≠ _; rw [add_block]; exact hn130_0) | exact hn130_0) (.int .i64 ((rd_T33 t120 x6_1).f0))).trans hx130_4
                              replace hx130_0 := (cell_far (p := ⟨gb127, 1, none⟩) (by first | (rw [add_block]; exact hn130_1) | (show (Addr.add _ _).block ≠ _; rw [add_block]; exact hn130_1) | exact hn130_1) (.int .i64 ((rd_T33 t120 x6_1).f1))).trans hx130_0
                              replace hx130_1 := (cell_far (p := ⟨gb127, 1, none⟩) (by first | (rw [add_block]; exact hn130_1) | (show (Addr.add _ _).block ≠ _; rw [add_block]; exact hn130_1) | exact hn130_1) (.int .i64 ((rd_T33 t120 x6_1).f1))).trans hx130_1
                              replace hx130_2 := (cell_far (p := ⟨gb127, 1, none⟩) (by first | (rw [add_block]; exact hn130_1) | (show (Addr.add _ _).block ≠ _; rw [add_block]; exact hn130_1) | exact hn130_1) (.int .i64 ((rd_T33 t120 x6_1).f1))).trans hx130_2
                              replace hx130_3 := (cell_far (p := ⟨gb127, 1, none⟩) (by first | (rw [add_block]; exact hn130_1) | (show (Addr.add _ _).block ≠ _; rw [add_block]; exact hn130_1) | exact hn130_1) (.int .i64 ((rd_T33 t120 x6_1).f1))).trans hx130_3
                              replace hx130_4 := (cell_far (p := ⟨gb127, 1, none⟩) (by first | (rw [add_block]; exact hn130_1) | (show (Addr.add _ _).block ≠ _; rw [add_block]; exact hn130_1) | exact hn130_1) (.int .i64 ((rd_T33 t120 x6_1).f1))).trans hx130_4
                              replace hx130_0 := (cell_far (p := ⟨gb127, 2, none⟩) (by first | (rw [add_block]; exact hn130_2) | (show (Addr.add _ _).block ≠ _; rw [add_block]; exact hn130_2) | exact hn130_2) (.string ((rd_T33 t120 x6_1).f2))).trans hx130_0
                              replace hx130_1 := (cell_far (p := ⟨gb127, 2, none⟩) (by first | (rw [add_block]; exact hn130_2) | (show (Addr.add _ _).block ≠ _; rw [add_block]; exact hn130_2) | exact hn130_2) (.string ((rd_T33 t120 x6_1).f2))).trans hx130_1
                              replace hx130_2 := (cell_far (p := ⟨gb127, 2, none⟩) (by first | (rw [add_block]; exact hn130_2) | (show (Addr.add _ _).block ≠ _; rw [add_block]; exact hn130_2) | exact hn130_2) (.string ((rd_T33 t120 x6_1).f2))).trans hx130_2
                              replace hx130_3 := (cell_far (p := ⟨gb127, 2, none⟩) (by first | (rw [add_block]; exact hn130_2) | (show (Addr.add _ _).block ≠ _; rw [add_block]; exact hn130_2) | exact hn130_2) (.string ((rd_T33 t120 x6_1).f2))).trans hx130_3
                              replace hx130_4 := (cell_far (p := ⟨gb127, 2, none⟩) (by first | (rw [add_block]; exact hn130_2) | (show (Addr.add _ _).block ≠ _; rw [add_block]; exact hn130_2) | exact hn130_2) (.string ((rd_T33 t120 x6_1).f2))).trans hx130_4
                              replace hx130_0 := (cell_far (p := ⟨gb127, 3, none⟩) (by first | (rw [add_block]; exact hn130_3) | (show (Addr.add _ _).block ≠ _; rw [add_block]; exact hn130_3) | exact hn130_3) (.int .i64 ((rd_T33 t120 x6_1).f3))).trans hx130_0
                              replace hx130_1 := (cell_far (p := ⟨gb127, 3, none⟩) (by first | (rw [add_block]; exact hn130_3) | (show (Addr.add _ _).block ≠ _; rw [add_block]; exact hn130_3) | exact hn130_3) (.int .i64 ((rd_T33 t120 x6_1).f3))).trans hx130_1
                              replace hx130_2 := (cell_far (p := ⟨gb127, 3, none⟩) (by first | (rw [add_block]; exact hn130_3) | (show (Addr.add _ _).block ≠ _; rw [add_block]; exact hn130_3) | exact hn130_3) (.int .i64 ((rd_T33 t120 x6_1).f3))).trans hx130_2
                              replace hx130_3 := (cell_far (p := ⟨gb127, 3, none⟩) (by first | (rw [add_block]; exact hn130_3) | (show (Addr.add _ _).block ≠ _; rw [add_block]; exact hn130_3) | exact hn130_3) (.int .i64 ((rd_T33 t120 x6_1).f3))).trans hx130_3
                              replace hx130_4 := (cell_far (p := ⟨gb127, 3, none⟩) (by first | (rw [add_block]; exact hn130_3) | (show (Addr.add _ _).block ≠ _; rw [add_block]; exact hn130_3) | exact hn130_3) (.int .i64 ((rd_T33 t120 x6_1).f3))).trans hx130_4
                              replace hx130_0 := (cell_far (p := ⟨gb127, 4, none⟩) (by first | (rw [add_block]; exact hn130_4) | (show (Addr.add _ _).block ≠ _; rw [add_block]; exact hn130_4) | exact hn130_4) (.int .i64 ((rd_T33 t120 x6_1).f4))).trans hx130_0
                              replace hx130_1 := (cell_far (p := ⟨gb127, 4, none⟩) (by first | (rw [add_block]; exact hn130_4) | (show (Addr.add _ _).block ≠ _; rw [add_block]; exact hn130_4) | exact hn130_4) (.int .i64 ((rd_T33 t120 x6_1).f4))).trans hx130_1
                              replace hx130_2 := (cell_far (p := ⟨gb127, 4, none⟩) (by first | (rw [add_block]; exact hn130_4) | (show (Addr.add _ _).block ≠ _; rw [add_block]; exact hn130_4) | exact hn130_4) (.int .i64 ((rd_T33 t120 x6_1).f4))).trans hx130_2
                              replace hx130_3 := (cell_far (p := ⟨gb127, 4, none⟩) (by first | (rw [add_block]; exact hn130_4) | (show (Addr.add _ _).block ≠ _; rw [add_block]; exact hn130_4) | exact hn130_4) (.int .i64 ((rd_T33 t120 x6_1).f4))).trans hx130_3
                              replace hx130_4 := (cell_far (p := ⟨gb127, 4, none⟩) (by first | (rw [add_block]; exact hn130_4) | (show (Addr.add _ _).block ≠ _; rw [add_block]; exact hn130_4) | exact hn130_4) (.int .i64 ((rd_T33 t120 x6_1).f4))).trans hx130_4
                              (try have hy130_0 := fun (n_ : Nat) => ((cell_far (p := ⟨gb127, 4, none⟩) (by exact hn130_4) (.int .i64 ((rd_T33 t120 x6_1).f4))).trans ((cell_far (p := ⟨gb127, 3, none⟩) (by exact hn130_3) (.int .i64 ((rd_T33 t120 x6_1).f3))).trans ((cell_far (p := ⟨gb127, 2, none⟩) (by exact hn130_2) (.string ((rd_T33 t120 x6_1).f2))).trans ((cell_far (p := ⟨gb127, 1, none⟩) (by exact hn130_1) (.int .i64 ((rd_T33 t120 x6_1).f1))).trans ((cell_far (p := ⟨gb127, 0, none⟩) (by exact hn130_0) (.int .i64 ((rd_T33 t120 x6_1).f0))).trans (show (w15.drewN n_).cell? _ = some _ from hs130_0)))))))
                              (try have hy130_1 := fun (n_ : Nat) => ((cell_far (p := ⟨gb127, 4, none⟩) (by exact hn130_4) (.int .i64 ((rd_T33 t120 x6_1).f4))).trans ((cell_far (p := ⟨gb127, 3, none⟩) (by exact hn130_3) (.int .i64 ((rd_T33 t120 x6_1).f3))).trans ((cell_far (p := ⟨gb127, 2, none⟩) (by exact hn130_2) (.string ((rd_T33 t120 x6_1).f2))).trans ((cell_far (p := ⟨gb127, 1, none⟩) (by exact hn130_1) (.int .i64 ((rd_T33 t120 x6_1).f1))).trans ((cell_far (p := ⟨gb127, 0, none⟩) (by exact hn130_0) (.int .i64 ((rd_T33 t120 x6_1).f0))).trans (show (w15.drewN n_).cell? _ = some _ from hs130_1)))))))
                              (try have hy130_2 := fun (n_ : Nat) => ((cell_far (p := ⟨gb127, 4, none⟩) (by exact hn130_4) (.int .i64 ((rd_T33 t120 x6_1).f4))).trans ((cell_far (p := ⟨gb127, 3, none⟩) (by exact hn130_3) (.int .i64 ((rd_T33 t120 x6_1).f3))).trans ((cell_far (p := ⟨gb127, 2, none⟩) (by exact hn130_2) (.string ((rd_T33 t120 x6_1).f2))).trans ((cell_far (p := ⟨gb127, 1, none⟩) (by exact hn130_1) (.int .i64 ((rd_T33 t120 x6_1).f1))).trans ((cell_far (p := ⟨gb127, 0, none⟩) (by exact hn130_0) (.int .i64 ((rd_T33 t120 x6_1).f0))).trans (show (w15.drewN n_).cell? _ = some _ from hs130_2)))))))
                              (try have hy130_3 := fun (n_ : Nat) => ((cell_far (p := ⟨gb127, 4, none⟩) (by exact hn130_4) (.int .i64 ((rd_T33 t120 x6_1).f4))).trans ((cell_far (p := ⟨gb127, 3, none⟩) (by exact hn130_3) (.int .i64 ((rd_T33 t120 x6_1).f3))).trans ((cell_far (p := ⟨gb127, 2, none⟩) (by exact hn130_2) (.string ((rd_T33 t120 x6_1).f2))).trans ((cell_far (p := ⟨gb127, 1, none⟩) (by exact hn130_1) (.int .i64 ((rd_T33 t120 x6_1).f1))).trans ((cell_far (p := ⟨gb127, 0, none⟩) (by exact hn130_0) (.int .i64 ((rd_T33 t120 x6_1).f0))).trans (show (w15.drewN n_).cell? _ = some _ from hs130_3)))))))
                              (try have hy130_4 := fun (n_ : Nat) => ((cell_far (p := ⟨gb127, 4, none⟩) (by exact hn130_4) (.int .i64 ((rd_T33 t120 x6_1).f4))).trans ((cell_far (p := ⟨gb127, 3, none⟩) (by exact hn130_3) (.int .i64 ((rd_T33 t120 x6_1).f3))).trans ((cell_far (p := ⟨gb127, 2, none⟩) (by exact hn130_2) (.string ((rd_T33 t120 x6_1).f2))).trans ((cell_far (p := ⟨gb127, 1, none⟩) (by exact hn130_1) (.int .i64 ((rd_T33 t120 x6_1).f1))).trans ((cell_far (p := ⟨gb127, 0, none⟩) (by exact hn130_0) (.int .i64 ((rd_T33 t120 x6_1).f0))).trans (show (w15.drewN n_).cell? _ = some _ from hs130_4)))))))
                              clear hs130_0
                              clear hs130_1
                              clear hs130_2
                              clear hs130_3
                              clear hs130_4
                              clear hn130_0
                              clear hn130_1
                              clear hn130_2
                              clear hn130_3
                              clear hn130_4
                              replace p130 := eq_true p130
                              replace q130 := eq_true q130
                              go_wp2
                              repeat (go_quiet (fail); try go_wp2)
                              go_meet
                              case rel => exact ⟨_, (decide (((rd_T33 t120 x6_1).f1) < ((rd_T33 t120 (ji22)).f1))), (by first | rfl | (simp; done) | (simp only [← hji22] <;> (first | rfl | simp)) | (simp [*]; done)), H', ⟨by have := HK1.out; first | omega | exact Nat.le_refl _⟩, ⟨by (with_reducible repeat (first | apply Kd.R_alloc | apply Kd.R_drewN | apply Kd.R_drew)); exact Kd.R_mono (Kd.R_far (p := ⟨gb127, 4, none⟩) (Kd.R_far (p := ⟨gb127, 3, none⟩) (Kd.R_far (p := ⟨gb127, 2, none⟩) (Kd.R_far (p := ⟨gb127, 1, none⟩) (Kd.R_far (p := ⟨gb127, 0, none⟩) (Kd.R_mono HO_3.out (fun k_ hk => (⟨hk, hk.2⟩ : _ ∧ k_ ≠ gb127))) (fun _ hk => hk.2) (.int .i64 ((rd_T33 t120 x6_1).f0))) (fun _ hk => hk.2) (.int .i64 ((rd_T33 t120 x6_1).f1))) (fun _ hk => hk.2) (.string ((rd_T33 t120 x6_1).f2))) (fun _ hk => hk.2) (.int .i64 ((rd_T33 t120 x6_1).f3))) (fun _ hk => hk.2) (.int .i64 ((rd_T33 t120 x6_1).f4))) (fun _ hk => hk.1.2)⟩, ⟨by (with_reducible repeat (first | refine blk_drewN ?_ _ | refine blk_drew ?_ | refine blk_alloc ?_ _)); refine blk_put (cs := #[.int .i64 ((rd_T33 t120 x6_1).f0), .int .i64 ((rd_T33 t120 x6_1).f1), .string ((rd_T33 t120 x6_1).f2), .int .i64 ((rd_T33 t120 x6_1).f3), .int .i64 0]) ?_ 4 _ rfl; (with_reducible repeat (first | refine blk_drewN ?_ _ | refine blk_drew ?_ | refine blk_alloc ?_ _)); refine blk_put (cs := #[.int .i64 ((rd_T33 t120 x6_1).f0), .int .i64 ((rd_T33 t120 x6_1).f1), .string ((rd_T33 t120 x6_1).f2), .int .i64 0, .int .i64 0]) ?_ 3 _ rfl; (with_reducible repeat (first | refine blk_drewN ?_ _ | refine blk_drew ?_ | refine blk_alloc ?_ _)); refine blk_put (cs := #[.int .i64 ((rd_T33 t120 x6_1).f0), .int .i64 ((rd_T33 t120 x6_1).f1), .string (⟨#[]⟩ : ByteArray), .int .i64 0, .int .i64 0]) ?_ 2 _ rfl; (with_reducible repeat (first | refine blk_drewN ?_ _ | refine blk_drew ?_ | refine blk_alloc ?_ _)); refine blk_put (cs := #[.int .i64 ((rd_T33 t120 x6_1).f0), .int .i64 0, .string (⟨#[]⟩ : ByteArray), .int .i64 0, .int .i64 0]) ?_ 1 _ rfl; (with_reducible repeat (first | refine blk_drewN ?_ _ | refine blk_drew ?_ | refine blk_alloc ?_ _)); refine blk_put (cs := #[.int .i64 0, .int .i64 0, .string (⟨#[]⟩ : ByteArray), .int .i64 0, .int .i64 0]) ?_ 0 _ rfl; (with_reducible repeat (first | refine blk_drewN ?_ _ | refine blk_drew ?_ | refine blk_alloc ?_ _)); exact BK127.out⟩, ⟨by repeat (first | (with_reducible first | exact HB.out | apply below_alloc | apply pw_below_drewN | apply below_drew1 | refine below_set ?_ GE127.out) | exact HB.out)⟩⟩
                          · rw [if_neg c24] at H
                            exact absurd H (by simp)
                        · rw [if_neg c23] at H
                          exact absurd H (by simp)
                      · rw [if_neg c21] at H
                        have c21b0 : decide (0 < x6_1) = false := decide_eq_false c21
                        clear c21
                        have H' := Aside0.mk H
                        clear H
                        have hcz30_0 : w15.cell? ⟨gb127, 0, none⟩ = some (.int .i64 0) := (blk_cell BK127.out 0).trans rfl
                        have hcz30_1 : w15.cell? ⟨gb127, 1, none⟩ = some (.int .i64 0) := (blk_cell BK127.out 1).trans rfl
                        have hcz30_2 : w15.cell? ⟨gb127, 2, none⟩ = some (.string (⟨#[]⟩ : ByteArray)) := (blk_cell BK127.out 2).trans rfl
                        have hcz30_3 : w15.cell? ⟨gb127, 3, none⟩ = some (.int .i64 0) := (blk_cell BK127.out 3).trans rfl
                        have hcz30_4 : w15.cell? ⟨gb127, 4, none⟩ = some (.int .i64 0) := (blk_cell BK127.out 4).trans rfl
                        have hfz30_0 := blk_frozen BK127.out 0
                        have hfz30_1 := blk_frozen BK127.out 1
                        have hfz30_2 := blk_frozen BK127.out 2
                        have hfz30_3 := blk_frozen BK127.out 3
                        have hfz30_4 := blk_frozen BK127.out 4
                        go_wp2
                        repeat (go_quiet (fail); try go_wp2)
                        go_meet
                        case rel => exact ⟨_, (false), (by first | rfl | (simp; done) | (simp [*]; done)), H', ⟨by have := HK1.out; first | omega | exact Nat.le_refl _⟩, ⟨by (with_reducible repeat (first | apply Kd.R_alloc | apply Kd.R_drewN | apply Kd.R_drew)); exact Kd.R_mono (Kd.R_far (p := ⟨gb127, 4, none⟩) (Kd.R_far (p := ⟨gb127, 3, none⟩) (Kd.R_far (p := ⟨gb127, 2, none⟩) (Kd.R_far (p := ⟨gb127, 1, none⟩) (Kd.R_far (p := ⟨gb127, 0, none⟩) (Kd.R_mono HO_3.out (fun k_ hk => (⟨hk, hk.2⟩ : _ ∧ k_ ≠ gb127))) (fun _ hk => hk.2) (.int .i64 ((rd_T33 t120 x6_1).f0))) (fun _ hk => hk.2) (.int .i64 ((rd_T33 t120 x6_1).f1))) (fun _ hk => hk.2) (.string ((rd_T33 t120 x6_1).f2))) (fun _ hk => hk.2) (.int .i64 ((rd_T33 t120 x6_1).f3))) (fun _ hk => hk.2) (.int .i64 ((rd_T33 t120 x6_1).f4))) (fun _ hk => hk.1.2)⟩, ⟨by (with_reducible repeat (first | refine blk_drewN ?_ _ | refine blk_drew ?_ | refine blk_alloc ?_ _)); refine blk_put (cs := #[.int .i64 ((rd_T33 t120 x6_1).f0), .int .i64 ((rd_T33 t120 x6_1).f1), .string ((rd_T33 t120 x6_1).f2), .int .i64 ((rd_T33 t120 x6_1).f3), .int .i64 0]) ?_ 4 _ rfl; (with_reducible repeat (first | refine blk_drewN ?_ _ | refine blk_drew ?_ | refine blk_alloc ?_ _)); refine blk_put (cs := #[.int .i64 ((rd_T33 t120 x6_1).f0), .int .i64 ((rd_T33 t120 x6_1).f1), .string ((rd_T33 t120 x6_1).f2), .int .i64 0, .int .i64 0]) ?_ 3 _ rfl; (with_reducible repeat (first | refine blk_drewN ?_ _ | refine blk_drew ?_ | refine blk_alloc ?_ _)); refine blk_put (cs := #[.int .i64 ((rd_T33 t120 x6_1).f0), .int .i64 ((rd_T33 t120 x6_1).f1), .string (⟨#[]⟩ : ByteArray), .int .i64 0, .int .i64 0]) ?_ 2 _ rfl; (with_reducible repeat (first | refine blk_drewN ?_ _ | refine blk_drew ?_ | refine blk_alloc ?_ _)); refine blk_put (cs := #[.int .i64 ((rd_T33 t120 x6_1).f0), .int .i64 0, .string (⟨#[]⟩ : ByteArray), .int .i64 0, .int .i64 0]) ?_ 1 _ rfl; (with_reducible repeat (first | refine blk_drewN ?_ _ | refine blk_drew ?_ | refine blk_alloc ?_ _)); refine blk_put (cs := #[.int .i64 0, .int .i64 0, .string (⟨#[]⟩ : ByteArray), .int .i64 0, .int .i64 0]) ?_ 0 _ rfl; (with_reducible repeat (first | refine blk_drewN ?_ _ | refine blk_drew ?_ | refine blk_alloc ?_ _)); exact BK127.out⟩, ⟨by repeat (first | (with_reducible first | exact HB.out | apply below_alloc | apply pw_below_drewN | apply below_drew1 | refine below_set ?_ GE127.out) | exact HB.out)⟩⟩
                case rest =>
                  clear HC13
                  try clear c1
                  try clear p1
                  try clear q1
                  try clear hx1
                  try clear c2
                  try clear p2
                  try clear c3
                  try clear c4
                  try clear c4b0
                  try clear c4b1
                  try clear p6
                  try clear c8
                  try clear c8b0
                  try clear c8b1
                  try clear c11
                  try clear c11b0
                  try clear c12
                  try clear c12b0
                  try clear p12
                  try clear q12
                  try clear hx12
                  try clear p13
                  try clear q13
                  try clear hx13
                  try clear c17
                  try clear c17b0
                  try clear c19
                  try clear c19b0
                  try clear c21
                  try clear c21b0
                  try clear c23
                  try clear c23b0
                  try clear c24
                  try clear c24b0
                  try clear c25
                  try clear c25b0
                  try clear c26
                  try clear c26b0
                  try clear c26b1
                  try clear hcz16_0
                  try clear hcz16_1
                  try clear hcz16_2
                  try clear hcz16_3
                  try clear hcz16_4
                  try clear hcz18_0
                  try clear hcz18_1
                  try clear hcz18_2
                  try clear hcz18_3
                  try clear hcz18_4
                  try clear hcz20_0
                  try clear hcz20_1
                  try clear hcz20_2
                  try clear hcz20_3
                  try clear hcz20_4
                  try clear hcz27_0
                  try clear hcz27_1
                  try clear hcz27_2
                  try clear hcz27_3
                  try clear hcz27_4
                  try clear hcz28_0
                  try clear hcz28_1
                  try clear hcz28_2
                  try clear hcz28_3
                  try clear hcz28_4
                  try clear hcz29_0
                  try clear hcz29_1
                  try clear hcz29_2
                  try clear hcz29_3
                  try clear hcz29_4
                  try clear hcz30_0
                  try clear hcz30_1
                  try clear hcz30_2
                  try clear hcz30_3
                  try clear hcz30_4
                  try clear hfz16_0
                  try clear hfz16_1
                  try clear hfz16_2
                  try clear hfz16_3
                  try clear hfz16_4
                  try clear hfz18_0
                  try clear hfz18_1
                  try clear hfz18_2
                  try clear hfz18_3
                  try clear hfz18_4
                  try clear hfz20_0
                  try clear hfz20_1
                  try clear hfz20_2
                  try clear hfz20_3
                  try clear hfz20_4
                  try clear hfz27_0
                  try clear hfz27_1
                  try clear hfz27_2
                  try clear hfz27_3
                  try clear hfz27_4
                  try clear hfz28_0
                  try clear hfz28_1
                  try clear hfz28_2
                  try clear hfz28_3
                  try clear hfz28_4
                  try clear hfz29_0
                  try clear hfz29_1
                  try clear hfz29_2
                  try clear hfz29_3
                  try clear hfz29_4
                  try clear hfz30_0
                  try clear hfz30_1
                  try clear hfz30_2
                  try clear hfz30_3
                  try clear hfz30_4
                  try clear hx126_0
                  try clear hx126_1
                  try clear hx126_2
                  try clear hx126_3
                  try clear hx126_4
                  try clear hx128_0
                  try clear hx128_1
                  try clear hx128_2
                  try clear hx128_3
                  try clear hx128_4
                  try clear hx129_0
                  try clear hx129_1
                  try clear hx129_2
                  try clear hx129_3
                  try clear hx129_4
                  try clear hx130_0
                  try clear hx130_1
                  try clear hx130_2
                  try clear hx130_3
                  try clear hx130_4
                  try clear p126
                  try clear p128
                  try clear p129
                  try clear p130
                  try clear p2
                  try clear q126
                  try clear q128
                  try clear q129
                  try clear q130
                  obtain ⟨kq, x80_12, rfl, HA, HJ12, HO_3, BK127, HB⟩ := hcut
                  cases kq with
                  | zero => exact absurd HA.out (by simp [levylaw4_WordsPlaces.j1])
                  | succ kj12 =>
                    have H := HA.out
                    clear HA
                    simp only [levylaw4_WordsPlaces.j1] at H
                    by_cases c31 : x80_12 = true
                    · subst c31
                      have H1 : (some false) = some r := by rw [if_pos rfl] at H; exact H
                      clear H
                      have H := H1
                      clear H1
                      obtain rfl := Option.some.inj H
                      go_wp2
                      repeat (go_quiet (fail); try go_wp2)
                      go_ret
                      exact ⟨by first | rfl | (simp [errW_none, errW_some] <;> rfl) | (simp [*, errW_none, errW_some] <;> rfl), by repeat (first | (with_reducible first | exact HB.out | apply below_alloc | apply pw_below_drewN | apply below_drew1 | refine below_set ?_ GE127.out) | exact HB.out)⟩
                    · replace c31 := Bool.eq_false_iff.mpr c31
                      subst c31
                      have H1 : (if ((rd_T33 t120 x6_1).f0) = 8 then (if x6_1 = 0 then (some false) else (if 0 ≤ (wrap64 (x6_1 - 1)) then (if (wrap64 (x6_1 - 1)) < (t120.length : Int) then (if ((rd_T33 t120 (wrap64 (x6_1 - 1))).f0) = 8 then (some false) else (levylaw4_WordsPlaces.l0 kj12 a0 t120 (wrap64 (x6_1 + 1)))) else (none)) else (none))) else (if (wrap64 (x6_1 + 1)) = (t120.length : Int) then (levylaw4_WordsPlaces.j2 kj12 a0 t120 x6_1 true ((rd_T33 t120 x6_1).f0) ((rd_T33 t120 x6_1).f1) ((rd_T33 t120 x6_1).f2) ((rd_T33 t120 x6_1).f3) ((rd_T33 t120 x6_1).f4)) else (if 0 ≤ (wrap64 (x6_1 + 1)) then (if (wrap64 (x6_1 + 1)) < (t120.length : Int) then (levylaw4_WordsPlaces.j2 kj12 a0 t120 x6_1 (decide (((rd_T33 t120 (wrap64 (x6_1 + 1))).f1) ≤ ((rd_T33 t120 x6_1).f1))) ((rd_T33 t120 x6_1).f0) ((rd_T33 t120 x6_1).f1) ((rd_T33 t120 x6_1).f2) ((rd_T33 t120 x6_1).f3) ((rd_T33 t120 x6_1).f4)) else (none)) else (none)))) = some r := by rw [if_neg (show ¬ (false = true) by decide)] at H; exact H
                      clear H
                      have H := H1
                      clear H1
                      by_cases c32 : ((rd_T33 t120 x6_1).f0) = 8
                      · rw [if_pos c32] at H
                        have c32b0 : (((rd_T33 t120 x6_1).f0) == 8) = true := beq_iff_eq.mpr c32
                        have c32b1 : (((rd_T33 t120 x6_1).f0) != 8) = false := bne_eq_false_iff_eq.mpr c32
                        clear c32
                        by_cases c33 : x6_1 = 0
                        · rw [if_pos c33] at H
                          have c33b0 : (x6_1 == 0) = true := beq_iff_eq.mpr c33
                          have c33b1 : (x6_1 != 0) = false := bne_eq_false_iff_eq.mpr c33
                          clear c33
                          obtain rfl := Option.some.inj H
                          have hcz34_0 : wc.cell? ⟨gb127, 0, none⟩ = some (.int .i64 ((rd_T33 t120 x6_1).f0)) := (blk_cell BK127.out 0).trans rfl
                          have hcz34_1 : wc.cell? ⟨gb127, 1, none⟩ = some (.int .i64 ((rd_T33 t120 x6_1).f1)) := (blk_cell BK127.out 1).trans rfl
                          have hcz34_2 : wc.cell? ⟨gb127, 2, none⟩ = some (.string ((rd_T33 t120 x6_1).f2)) := (blk_cell BK127.out 2).trans rfl
                          have hcz34_3 : wc.cell? ⟨gb127, 3, none⟩ = some (.int .i64 ((rd_T33 t120 x6_1).f3)) := (blk_cell BK127.out 3).trans rfl
                          have hcz34_4 : wc.cell? ⟨gb127, 4, none⟩ = some (.int .i64 ((rd_T33 t120 x6_1).f4)) := (blk_cell BK127.out 4).trans rfl
                          have hfz34_0 := blk_frozen BK127.out 0
                          have hfz34_1 := blk_frozen BK127.out 1
                          have hfz34_2 := blk_frozen BK127.out 2
                          have hfz34_3 := blk_frozen BK127.out 3
                          have hfz34_4 := blk_frozen BK127.out 4
                          go_wp2
                          repeat (go_quiet (fail); try go_wp2)
                          go_ret
                          exact ⟨by first | rfl | (simp [errW_none, errW_some] <;> rfl) | (simp [*, errW_none, errW_some] <;> rfl), by repeat (first | (with_reducible first | exact HB.out | apply below_alloc | apply pw_below_drewN | apply below_drew1 | refine below_set ?_ GE127.out) | exact HB.out)⟩
                        · rw [if_neg c33] at H
                          have c33b0 : (x6_1 == 0) = false := beq_eq_false_iff_ne.mpr c33
                          have c33b1 : (x6_1 != 0) = true := bne_iff_ne.mpr c33
                          obtain ⟨ji35, hji35⟩ : ∃ j_ : Int, (wrap64 (x6_1 - 1)) = j_ := ⟨_, rfl⟩
                          replace H : (if 0 ≤ (ji35) then (if (ji35) < (t120.length : Int) then (if ((rd_T33 t120 (ji35)).f0) = 8 then (some false) else (levylaw4_WordsPlaces.l0 kj12 a0 t120 (wrap64 (x6_1 + 1)))) else (none)) else (none)) = some r := by first | (rw [hji35] at H; exact H) | (simp only [hji35] at H ⊢; exact H)
                          have hji35w : (IntKind.i64.wrap (x6_1 - 1)) = ji35 := (i64_w _).trans hji35
                          by_cases c36 : 0 ≤ (ji35)
                          · rw [if_pos c36] at H
                            have c36b0 : decide (0 ≤ (ji35)) = true := decide_eq_true c36
                            clear c36
                            by_cases c37 : (ji35) < (t120.length : Int)
                            · rw [if_pos c37] at H
                              have c37b0 : decide ((ji35) < (t120.length : Int)) = true := decide_eq_true c37
                              clear c37
                              by_cases c38 : ((rd_T33 t120 (ji35)).f0) = 8
                              · rw [if_pos c38] at H
                                have c38b0 : (((rd_T33 t120 (ji35)).f0) == 8) = true := beq_iff_eq.mpr c38
                                have c38b1 : (((rd_T33 t120 (ji35)).f0) != 8) = false := bne_eq_false_iff_eq.mpr c38
                                clear c38
                                obtain rfl := Option.some.inj H
                                have hcz39_0 : wc.cell? ⟨gb127, 0, none⟩ = some (.int .i64 ((rd_T33 t120 x6_1).f0)) := (blk_cell BK127.out 0).trans rfl
                                have hcz39_1 : wc.cell? ⟨gb127, 1, none⟩ = some (.int .i64 ((rd_T33 t120 x6_1).f1)) := (blk_cell BK127.out 1).trans rfl
                                have hcz39_2 : wc.cell? ⟨gb127, 2, none⟩ = some (.string ((rd_T33 t120 x6_1).f2)) := (blk_cell BK127.out 2).trans rfl
                                have hcz39_3 : wc.cell? ⟨gb127, 3, none⟩ = some (.int .i64 ((rd_T33 t120 x6_1).f3)) := (blk_cell BK127.out 3).trans rfl
                                have hcz39_4 : wc.cell? ⟨gb127, 4, none⟩ = some (.int .i64 ((rd_T33 t120 x6_1).f4)) := (blk_cell BK127.out 4).trans rfl
                                have hfz39_0 := blk_frozen BK127.out 0
                                have hfz39_1 := blk_frozen BK127.out 1
                                have hfz39_2 := blk_frozen BK127.out 2
                                have hfz39_3 := blk_frozen BK127.out 3
                                have hfz39_4 := blk_frozen BK127.out 4
                                have p131 : 0 ≤ ((ji35) : Int) := of_decide_eq_true (by first | (with_reducible assumption) | assumption)
                                have q131 : (ji35) < (t120.length : Int) := of_decide_eq_true (by first | (with_reducible assumption) | assumption)
                                obtain ⟨ad131, e131, hx131_0, hx131_1, hx131_2, hx131_3, hx131_4⟩ := at_T33 (Kd.R_reads' HO_3.out).2.2 (ji35) p131 q131
                                obtain rfl : ad126 = ad131 := (by injection e131)
                                replace p131 := eq_true p131
                                replace q131 := eq_true q131
                                go_wp2
                                repeat (go_quiet (fail); try go_wp2)
                                go_ret
                                exact ⟨by first | rfl | (simp [errW_none, errW_some] <;> rfl) | (simp only [← hji35]; first | rfl | (simp [errW_none, errW_some] <;> rfl)) | (simp [*, errW_none, errW_some] <;> rfl), by repeat (first | (with_reducible first | exact HB.out | apply below_alloc | apply pw_below_drewN | apply below_drew1 | refine below_set ?_ GE127.out) | exact HB.out)⟩
                              · rw [if_neg c38] at H
                                have c38b0 : (((rd_T33 t120 (ji35)).f0) == 8) = false := beq_eq_false_iff_ne.mpr c38
                                have c38b1 : (((rd_T33 t120 (ji35)).f0) != 8) = true := bne_iff_ne.mpr c38
                                have H' := Aside0.mk H
                                clear H
                                have hcz40_0 : wc.cell? ⟨gb127, 0, none⟩ = some (.int .i64 ((rd_T33 t120 x6_1).f0)) := (blk_cell BK127.out 0).trans rfl
                                have hcz40_1 : wc.cell? ⟨gb127, 1, none⟩ = some (.int .i64 ((rd_T33 t120 x6_1).f1)) := (blk_cell BK127.out 1).trans rfl
                                have hcz40_2 : wc.cell? ⟨gb127, 2, none⟩ = some (.string ((rd_T33 t120 x6_1).f2)) := (blk_cell BK127.out 2).trans rfl
                                have hcz40_3 : wc.cell? ⟨gb127, 3, none⟩ = some (.int .i64 ((rd_T33 t120 x6_1).f3)) := (blk_cell BK127.out 3).trans rfl
                                have hcz40_4 : wc.cell? ⟨gb127, 4, none⟩ = some (.int .i64 ((rd_T33 t120 x6_1).f4)) := (blk_cell BK127.out 4).trans rfl
                                have hfz40_0 := blk_frozen BK127.out 0
                                have hfz40_1 := blk_frozen BK127.out 1
                                have hfz40_2 := blk_frozen BK127.out 2
                                have hfz40_3 := blk_frozen BK127.out 3
                                have hfz40_4 := blk_frozen BK127.out 4
                                have p131 : 0 ≤ ((ji35) : Int) := of_decide_eq_true (by first | (with_reducible assumption) | assumption)
                                have q131 : (ji35) < (t120.length : Int) := of_decide_eq_true (by first | (with_reducible assumption) | assumption)
                                obtain ⟨ad131, e131, hx131_0, hx131_1, hx131_2, hx131_3, hx131_4⟩ := at_T33 (Kd.R_reads' HO_3.out).2.2 (ji35) p131 q131
                                obtain rfl : ad126 = ad131 := (by injection e131)
                                replace p131 := eq_true p131
                                replace q131 := eq_true q131
                                go_wp2
                                repeat (go_quiet (fail); try go_wp2)
                                go_roundg kj12
                                case measure => have := HK1.out; have := HJ12.out; omega
                                case rel => exact ⟨(wrap64 (x6_1 + 1)), (by first | rfl | (simp; done) | (simp [*]; done)), H', ⟨by have := HK1.out; have := HJ12.out; omega⟩, ⟨by (with_reducible repeat (first | apply Kd.R_alloc | apply Kd.R_drewN | apply Kd.R_drew)); exact Kd.R_mono HO_3.out (fun _ hk => trivial)⟩, ⟨by repeat (first | (with_reducible first | exact HB.out | apply below_alloc | apply pw_below_drewN | apply below_drew1 | refine below_set ?_ GE127.out) | exact HB.out)⟩⟩
                            · rw [if_neg c37] at H
                              exact absurd H (by simp)
                          · rw [if_neg c36] at H
                            exact absurd H (by simp)
                      · rw [if_neg c32] at H
                        have c32b0 : (((rd_T33 t120 x6_1).f0) == 8) = false := beq_eq_false_iff_ne.mpr c32
                        have c32b1 : (((rd_T33 t120 x6_1).f0) != 8) = true := bne_iff_ne.mpr c32
                        have HC41 := Aside0.mk H
                        clear H
                        have hcz42_0 : wc.cell? ⟨gb127, 0, none⟩ = some (.int .i64 ((rd_T33 t120 x6_1).f0)) := (blk_cell BK127.out 0).trans rfl
                        have hcz42_1 : wc.cell? ⟨gb127, 1, none⟩ = some (.int .i64 ((rd_T33 t120 x6_1).f1)) := (blk_cell BK127.out 1).trans rfl
                        have hcz42_2 : wc.cell? ⟨gb127, 2, none⟩ = some (.string ((rd_T33 t120 x6_1).f2)) := (blk_cell BK127.out 2).trans rfl
                        have hcz42_3 : wc.cell? ⟨gb127, 3, none⟩ = some (.int .i64 ((rd_T33 t120 x6_1).f3)) := (blk_cell BK127.out 3).trans rfl
                        have hcz42_4 : wc.cell? ⟨gb127, 4, none⟩ = some (.int .i64 ((rd_T33 t120 x6_1).f4)) := (blk_cell BK127.out 4).trans rfl
                        have hfz42_0 := blk_frozen BK127.out 0
                        have hfz42_1 := blk_frozen BK127.out 1
                        have hfz42_2 := blk_frozen BK127.out 2
                        have hfz42_3 := blk_frozen BK127.out 3
                        have hfz42_4 := blk_frozen BK127.out 4
                        go_upto_region 17 with (fail)
                        repeat (go_quiet (fail); go_upto_region 17 with (fail))
                        go_cut [110] (fun v110 wc => ∃ (kq : Nat) (x110_40 : Bool), v110 = .bool x110_40 ∧ Aside0 (levylaw4_WordsPlaces.j2 kq a0 t120 x6_1 x110_40 ((rd_T33 t120 x6_1).f0) ((rd_T33 t120 x6_1).f1) ((rd_T33 t120 x6_1).f2) ((rd_T33 t120 x6_1).f3) ((rd_T33 t120 x6_1).f4) = some r) ∧ Aside0 (kq ≤ kj12) ∧ Aside0 (Kd.R k33 33 wc w.heap.size (fun k_ => k_ ≠ gb127) (.slice (some ad126) t120.length co14) t120) ∧ Aside0 (wc.heap[gb127]? = some (.cells #[.int .i64 ((rd_T33 t120 x6_1).f0), .int .i64 ((rd_T33 t120 x6_1).f1), .string ((rd_T33 t120 x6_1).f2), .int .i64 ((rd_T33 t120 x6_1).f3), .int .i64 ((rd_T33 t120 x6_1).f4)] 33 (0, 0))) ∧ Aside0 (Below w.heap.size w wc))
                        case first =>
                          have H := HC41.out
                          clear HC41
                          by_cases c43 : (wrap64 (x6_1 + 1)) = (t120.length : Int)
                          · rw [if_pos c43] at H
                            have c43b0 : ((wrap64 (x6_1 + 1)) == (t120.length : Int)) = true := beq_iff_eq.mpr c43
                            have c43b1 : ((wrap64 (x6_1 + 1)) != (t120.length : Int)) = false := bne_eq_false_iff_eq.mpr c43
                            clear c43
                            (first | rw [c43b0] | (simp only [i64_w, i32_w]; rw [c43b0]) | skip)
                            have H' := Aside0.mk H
                            clear H
                            go_wp2
                            repeat (go_quiet (fail); try go_wp2)
                            go_meet
                            case rel => exact ⟨_, (true), (by first | rfl | (simp; done) | (simp [*]; done)), H', ⟨by have := HK1.out; have := HJ12.out; first | omega | exact Nat.le_refl _⟩, ⟨by (with_reducible repeat (first | apply Kd.R_alloc | apply Kd.R_drewN | apply Kd.R_drew)); exact HO_3.out⟩, ⟨by (with_reducible repeat (first | refine blk_drewN ?_ _ | refine blk_drew ?_ | refine blk_alloc ?_ _)); exact BK127.out⟩, ⟨by repeat (first | (with_reducible first | exact HB.out | apply below_alloc | apply pw_below_drewN | apply below_drew1 | refine below_set ?_ GE127.out) | exact HB.out)⟩⟩
                          · rw [if_neg c43] at H
                            have c43b0 : ((wrap64 (x6_1 + 1)) == (t120.length : Int)) = false := beq_eq_false_iff_ne.mpr c43
                            have c43b1 : ((wrap64 (x6_1 + 1)) != (t120.length : Int)) = true := bne_iff_ne.mpr c43
                            (first | rw [c43b0] | (simp only [i64_w, i32_w]; rw [c43b0]) | skip)
                            obtain ⟨ji44, hji44⟩ : ∃ j_ : Int, (wrap64 (x6_1 + 1)) = j_ := ⟨_, rfl⟩
                            replace H : (if 0 ≤ (ji44) then (if (ji44) < (t120.length : Int) then (levylaw4_WordsPlaces.j2 kj12 a0 t120 x6_1 (decide (((rd_T33 t120 (ji44)).f1) ≤ ((rd_T33 t120 x6_1).f1))) ((rd_T33 t120 x6_1).f0) ((rd_T33 t120 x6_1).f1) ((rd_T33 t120 x6_1).f2) ((rd_T33 t120 x6_1).f3) ((rd_T33 t120 x6_1).f4)) else (none)) else (none)) = some r := by first | (rw [hji44] at H; exact H) | (simp only [hji44] at H ⊢; exact H)
                            (try rw [hji44] at c43b0)
                            (try rw [hji44] at c43b1)
                            have hji44w : (IntKind.i64.wrap (x6_1 + 1)) = ji44 := (i64_w _).trans hji44
                            by_cases c45 : 0 ≤ (ji44)
                            · rw [if_pos c45] at H
                              have c45b0 : decide (0 ≤ (ji44)) = true := decide_eq_true c45
                              clear c45
                              by_cases c46 : (ji44) < (t120.length : Int)
                              · rw [if_pos c46] at H
                                have c46b0 : decide ((ji44) < (t120.length : Int)) = true := decide_eq_true c46
                                clear c46
                                have H' := Aside0.mk H
                                clear H
                                have p132 : 0 ≤ ((ji44) : Int) := of_decide_eq_true (by first | (with_reducible assumption) | assumption)
                                have q132 : (ji44) < (t120.length : Int) := of_decide_eq_true (by first | (with_reducible assumption) | assumption)
                                obtain ⟨ad132, e132, hx132_0, hx132_1, hx132_2, hx132_3, hx132_4⟩ := at_T33 (Kd.R_reads' HO_3.out).2.2 (ji44) p132 q132
                                obtain rfl : ad126 = ad132 := (by injection e132)
                                replace p132 := eq_true p132
                                replace q132 := eq_true q132
                                have hcz47_0 : wc.cell? ⟨gb127, 0, none⟩ = some (.int .i64 ((rd_T33 t120 x6_1).f0)) := (blk_cell BK127.out 0).trans rfl
                                have hcz47_1 : wc.cell? ⟨gb127, 1, none⟩ = some (.int .i64 ((rd_T33 t120 x6_1).f1)) := (blk_cell BK127.out 1).trans rfl
                                have hcz47_2 : wc.cell? ⟨gb127, 2, none⟩ = some (.string ((rd_T33 t120 x6_1).f2)) := (blk_cell BK127.out 2).trans rfl
                                have hcz47_3 : wc.cell? ⟨gb127, 3, none⟩ = some (.int .i64 ((rd_T33 t120 x6_1).f3)) := (blk_cell BK127.out 3).trans rfl
                                have hcz47_4 : wc.cell? ⟨gb127, 4, none⟩ = some (.int .i64 ((rd_T33 t120 x6_1).f4)) := (blk_cell BK127.out 4).trans rfl
                                have hfz47_0 := blk_frozen BK127.out 0
                                have hfz47_1 := blk_frozen BK127.out 1
                                have hfz47_2 := blk_frozen BK127.out 2
                                have hfz47_3 := blk_frozen BK127.out 3
                                have hfz47_4 := blk_frozen BK127.out 4
                                go_wp2
                                repeat (go_quiet (fail); try go_wp2)
                                go_meet
                                case rel => exact ⟨_, (decide (((rd_T33 t120 (ji44)).f1) ≤ ((rd_T33 t120 x6_1).f1))), (by first | rfl | (simp; done) | (simp only [← hji44] <;> (first | rfl | simp)) | (simp [*]; done)), H', ⟨by have := HK1.out; have := HJ12.out; first | omega | exact Nat.le_refl _⟩, ⟨by (with_reducible repeat (first | apply Kd.R_alloc | apply Kd.R_drewN | apply Kd.R_drew)); exact HO_3.out⟩, ⟨by (with_reducible repeat (first | refine blk_drewN ?_ _ | refine blk_drew ?_ | refine blk_alloc ?_ _)); exact BK127.out⟩, ⟨by repeat (first | (with_reducible first | exact HB.out | apply below_alloc | apply pw_below_drewN | apply below_drew1 | refine below_set ?_ GE127.out) | exact HB.out)⟩⟩
                              · rw [if_neg c46] at H
                                exact absurd H (by simp)
                            · rw [if_neg c45] at H
                              exact absurd H (by simp)
                        case rest =>
                          clear HC41
                          try clear c1
                          try clear p1
                          try clear q1
                          try clear hx1
                          try clear c2
                          try clear p2
                          try clear c3
                          try clear c4
                          try clear c4b0
                          try clear c4b1
                          try clear p6
                          try clear c8
                          try clear c8b0
                          try clear c8b1
                          try clear c11
                          try clear c11b0
                          try clear c12
                          try clear c12b0
                          try clear p12
                          try clear q12
                          try clear hx12
                          try clear p13
                          try clear q13
                          try clear hx13
                          try clear c17
                          try clear c17b0
                          try clear c19
                          try clear c19b0
                          try clear c21
                          try clear c21b0
                          try clear c23
                          try clear c23b0
                          try clear c24
                          try clear c24b0
                          try clear c25
                          try clear c25b0
                          try clear c26
                          try clear c26b0
                          try clear c26b1
                          try clear c31
                          try clear c32
                          try clear c32b0
                          try clear c32b1
                          try clear c33
                          try clear c33b0
                          try clear c33b1
                          try clear c36
                          try clear c36b0
                          try clear c37
                          try clear c37b0
                          try clear c38
                          try clear c38b0
                          try clear c38b1
                          try clear c43
                          try clear c43b0
                          try clear c43b1
                          try clear c45
                          try clear c45b0
                          try clear c46
                          try clear c46b0
                          try clear hcz16_0
                          try clear hcz16_1
                          try clear hcz16_2
                          try clear hcz16_3
                          try clear hcz16_4
                          try clear hcz18_0
                          try clear hcz18_1
                          try clear hcz18_2
                          try clear hcz18_3
                          try clear hcz18_4
                          try clear hcz20_0
                          try clear hcz20_1
                          try clear hcz20_2
                          try clear hcz20_3
                          try clear hcz20_4
                          try clear hcz27_0
                          try clear hcz27_1
                          try clear hcz27_2
                          try clear hcz27_3
                          try clear hcz27_4
                          try clear hcz28_0
                          try clear hcz28_1
                          try clear hcz28_2
                          try clear hcz28_3
                          try clear hcz28_4
                          try clear hcz29_0
                          try clear hcz29_1
                          try clear hcz29_2
                          try clear hcz29_3
                          try clear hcz29_4
                          try clear hcz30_0
                          try clear hcz30_1
                          try clear hcz30_2
                          try clear hcz30_3
                          try clear hcz30_4
                          try clear hcz34_0
                          try clear hcz34_1
                          try clear hcz34_2
                          try clear hcz34_3
                          try clear hcz34_4
                          try clear hcz39_0
                          try clear hcz39_1
                          try clear hcz39_2
                          try clear hcz39_3
                          try clear hcz39_4
                          try clear hcz40_0
                          try clear hcz40_1
                          try clear hcz40_2
                          try clear hcz40_3
                          try clear hcz40_4
                          try clear hcz42_0
                          try clear hcz42_1
                          try clear hcz42_2
                          try clear hcz42_3
                          try clear hcz42_4
                          try clear hcz47_0
                          try clear hcz47_1
                          try clear hcz47_2
                          try clear hcz47_3
                          try clear hcz47_4
                          try clear hfz16_0
                          try clear hfz16_1
                          try clear hfz16_2
                          try clear hfz16_3
                          try clear hfz16_4
                          try clear hfz18_0
                          try clear hfz18_1
                          try clear hfz18_2
                          try clear hfz18_3
                          try clear hfz18_4
                          try clear hfz20_0
                          try clear hfz20_1
                          try clear hfz20_2
                          try clear hfz20_3
                          try clear hfz20_4
                          try clear hfz27_0
                          try clear hfz27_1
                          try clear hfz27_2
                          try clear hfz27_3
                          try clear hfz27_4
                          try clear hfz28_0
                          try clear hfz28_1
                          try clear hfz28_2
                          try clear hfz28_3
                          try clear hfz28_4
                          try clear hfz29_0
                          try clear hfz29_1
                          try clear hfz29_2
                          try clear hfz29_3
                          try clear hfz29_4
                          try clear hfz30_0
                          try clear hfz30_1
                          try clear hfz30_2
                          try clear hfz30_3
                          try clear hfz30_4
                          try clear hfz34_0
                          try clear hfz34_1
                          try clear hfz34_2
                          try clear hfz34_3
                          try clear hfz34_4
                          try clear hfz39_0
                          try clear hfz39_1
                          try clear hfz39_2
                          try clear hfz39_3
                          try clear hfz39_4
                          try clear hfz40_0
                          try clear hfz40_1
                          try clear hfz40_2
                          try clear hfz40_3
                          try clear hfz40_4
                          try clear hfz42_0
                          try clear hfz42_1
                          try clear hfz42_2
                          try clear hfz42_3
                          try clear hfz42_4
                          try clear hfz47_0
                          try clear hfz47_1
                          try clear hfz47_2
                          try clear hfz47_3
                          try clear hfz47_4
                          try clear hx126_0
                          try clear hx126_1
                          try clear hx126_2
                          try clear hx126_3
                          try clear hx126_4
                          try clear hx128_0
                          try clear hx128_1
                          try clear hx128_2
                          try clear hx128_3
                          try clear hx128_4
                          try clear hx129_0
                          try clear hx129_1
                          try clear hx129_2
                          try clear hx129_3
                          try clear hx129_4
                          try clear hx130_0
                          try clear hx130_1
                          try clear hx130_2
                          try clear hx130_3
                          try clear hx130_4
                          try clear hx131_0
                          try clear hx131_1
                          try clear hx131_2
                          try clear hx131_3
                          try clear hx131_4
                          try clear hx132_0
                          try clear hx132_1
                          try clear hx132_2
                          try clear hx132_3
                          try clear hx132_4
                          try clear p1
                          try clear p12
                          try clear p126
                          try clear p128
                          try clear p129
                          try clear p13
                          try clear p130
                          try clear p131
                          try clear p132
                          try clear p2
                          try clear p6
                          try clear q1
                          try clear q12
                          try clear q126
                          try clear q128
                          try clear q129
                          try clear q13
                          try clear q130
                          try clear q131
                          try clear q132
                          obtain ⟨kq, x110_40, rfl, HA, HJ40, HO_3, BK127, HB⟩ := hcut
                          cases kq with
                          | zero => exact absurd HA.out (by simp [levylaw4_WordsPlaces.j2])
                          | succ kj40 =>
                            have H := HA.out
                            clear HA
                            simp only [levylaw4_WordsPlaces.j2] at H
                            by_cases c48 : x110_40 = true
                            · subst c48
                              have H1 : (some false) = some r := by rw [if_pos rfl] at H; exact H
                              clear H
                              have H := H1
                              clear H1
                              obtain rfl := Option.some.inj H
                              go_wp2
                              repeat (go_quiet (fail); try go_wp2)
                              go_ret
                              exact ⟨by first | rfl | (simp [errW_none, errW_some] <;> rfl) | (simp [*, errW_none, errW_some] <;> rfl), by repeat (first | (with_reducible first | exact HB.out | apply below_alloc | apply pw_below_drewN | apply below_drew1 | refine below_set ?_ GE127.out) | exact HB.out)⟩
                            · replace c48 := Bool.eq_false_iff.mpr c48
                              subst c48
                              have H1 : (if 0 ≤ (wrap64 (x6_1 + 1)) then (if (wrap64 (x6_1 + 1)) < (t120.length : Int) then (if 0 ≤ ((rd_T33 t120 x6_1).f1) then (if ((rd_T33 t120 x6_1).f1) ≤ ((rd_T33 t120 (wrap64 (x6_1 + 1))).f1) then (if ((rd_T33 t120 (wrap64 (x6_1 + 1))).f1) ≤ (a0.size : Int) then ((words_Scan.f (a0.extract (((rd_T33 t120 x6_1).f1) : Int).toNat (((rd_T33 t120 (wrap64 (x6_1 + 1))).f1) : Int).toNat)).bind fun bt134 => ((levylaw4_num.f bt134.2.2).bind fun t139 => (if t139 = 0 then (if (bt134.1.length : Int) = 2 then (if 0 < (bt134.1.length : Int) then (if (!(((rd_T33 bt134.1 0).f0) == ((rd_T33 t120 x6_1).f0)) || (!(((rd_T33 bt134.1 0).f1) == 0) || (!((((rd_T33 bt134.1 0).f2).toList) == ((rd_T33 t120 x6_1).f2).toList) || (!(((rd_T33 bt134.1 0).f3) == ((rd_T33 t120 x6_1).f3)) || (!(((rd_T33 bt134.1 0).f4) == ((rd_T33 t120 x6_1).f4))))))) = true then (some false) else (if 1 < (bt134.1.length : Int) then (if ((rd_T33 bt134.1 1).f0) = 8 then (levylaw4_WordsPlaces.l0 kj40 a0 t120 (wrap64 (x6_1 + 1))) else (some false)) else (none))) else (none)) else (some false)) else (some false)))) else (none)) else (none)) else (none)) else (none)) else (none)) = some r := by rw [if_neg (show ¬ (false = true) by decide)] at H; exact H
                              clear H
                              have H := H1
                              clear H1
                              obtain ⟨ji49, hji49⟩ : ∃ j_ : Int, (wrap64 (x6_1 + 1)) = j_ := ⟨_, rfl⟩
                              replace H : (if 0 ≤ (ji49) then (if (ji49) < (t120.length : Int) then (if 0 ≤ ((rd_T33 t120 x6_1).f1) then (if ((rd_T33 t120 x6_1).f1) ≤ ((rd_T33 t120 (ji49)).f1) then (if ((rd_T33 t120 (ji49)).f1) ≤ (a0.size : Int) then ((words_Scan.f (a0.extract (((rd_T33 t120 x6_1).f1) : Int).toNat (((rd_T33 t120 (ji49)).f1) : Int).toNat)).bind fun bt134 => ((levylaw4_num.f bt134.2.2).bind fun t139 => (if t139 = 0 then (if (bt134.1.length : Int) = 2 then (if 0 < (bt134.1.length : Int) then (if (!(((rd_T33 bt134.1 0).f0) == ((rd_T33 t120 x6_1).f0)) || (!(((rd_T33 bt134.1 0).f1) == 0) || (!((((rd_T33 bt134.1 0).f2).toList) == ((rd_T33 t120 x6_1).f2).toList) || (!(((rd_T33 bt134.1 0).f3) == ((rd_T33 t120 x6_1).f3)) || (!(((rd_T33 bt134.1 0).f4) == ((rd_T33 t120 x6_1).f4))))))) = true then (some false) else (if 1 < (bt134.1.length : Int) then (if ((rd_T33 bt134.1 1).f0) = 8 then (levylaw4_WordsPlaces.l0 kj40 a0 t120 ji49) else (some false)) else (none))) else (none)) else (some false)) else (some false)))) else (none)) else (none)) else (none)) else (none)) else (none)) = some r := by first | (rw [hji49] at H; exact H) | (simp only [hji49] at H ⊢; exact H)
                              have hji49w : (IntKind.i64.wrap (x6_1 + 1)) = ji49 := (i64_w _).trans hji49
                              by_cases c50 : 0 ≤ (ji49)
                              · rw [if_pos c50] at H
                                have c50b0 : decide (0 ≤ (ji49)) = true := decide_eq_true c50
                                clear c50
                                by_cases c51 : (ji49) < (t120.length : Int)
                                · rw [if_pos c51] at H
                                  have c51b0 : decide ((ji49) < (t120.length : Int)) = true := decide_eq_true c51
                                  clear c51
                                  by_cases c52 : 0 ≤ ((rd_T33 t120 x6_1).f1)
                                  · rw [if_pos c52] at H
                                    have c52b0 := eq_true c52
                                    have c52b1 : decide (0 ≤ ((rd_T33 t120 x6_1).f1)) = true := decide_eq_true c52
                                    clear c52
                                    by_cases c53 : ((rd_T33 t120 x6_1).f1) ≤ ((rd_T33 t120 (ji49)).f1)
                                    · rw [if_pos c53] at H
                                      have c53b0 := eq_true c53
                                      have c53b1 : decide (((rd_T33 t120 x6_1).f1) ≤ ((rd_T33 t120 (ji49)).f1)) = true := decide_eq_true c53
                                      clear c53
                                      by_cases c54 : ((rd_T33 t120 (ji49)).f1) ≤ (a0.size : Int)
                                      · rw [if_pos c54] at H
                                        have c54b0 := eq_true c54
                                        have c54b1 : decide (((rd_T33 t120 (ji49)).f1) ≤ (a0.size : Int)) = true := decide_eq_true c54
                                        clear c54
                                        replace H := Option.bind_eq_some_iff.mp H
                                        obtain ⟨⟨t134, t135, t136⟩, A550, H⟩ := H
                                        replace H : ((levylaw4_num.f t136).bind fun t139 => (if t139 = 0 then (if (t134.length : Int) = 2 then (if 0 < (t134.length : Int) then (if (!(((rd_T33 t134 0).f0) == ((rd_T33 t120 x6_1).f0)) || (!(((rd_T33 t134 0).f1) == 0) || (!((((rd_T33 t134 0).f2).toList) == ((rd_T33 t120 x6_1).f2).toList) || (!(((rd_T33 t134 0).f3) == ((rd_T33 t120 x6_1).f3)) || (!(((rd_T33 t134 0).f4) == ((rd_T33 t120 x6_1).f4))))))) = true then (some false) else (if 1 < (t134.length : Int) then (if ((rd_T33 t134 1).f0) = 8 then (levylaw4_WordsPlaces.l0 kj40 a0 t120 ji49) else (some false)) else (none))) else (none)) else (some false)) else (some false))) = some r := H
                                        have A55 := Aside0.mk A550
                                        clear A550
                                        replace H := Option.bind_eq_some_iff.mp H
                                        obtain ⟨t139, A560, H⟩ := H
                                        replace H : (if t139 = 0 then (if (t134.length : Int) = 2 then (if 0 < (t134.length : Int) then (if (!(((rd_T33 t134 0).f0) == ((rd_T33 t120 x6_1).f0)) || (!(((rd_T33 t134 0).f1) == 0) || (!((((rd_T33 t134 0).f2).toList) == ((rd_T33 t120 x6_1).f2).toList) || (!(((rd_T33 t134 0).f3) == ((rd_T33 t120 x6_1).f3)) || (!(((rd_T33 t134 0).f4) == ((rd_T33 t120 x6_1).f4))))))) = true then (some false) else (if 1 < (t134.length : Int) then (if ((rd_T33 t134 1).f0) = 8 then (levylaw4_WordsPlaces.l0 kj40 a0 t120 ji49) else (some false)) else (none))) else (none)) else (some false)) else (some false)) = some r := H
                                        have A56 := Aside0.mk A560
                                        clear A560
                                        by_cases c57 : t139 = 0
                                        · rw [if_pos c57] at H
                                          have c57b0 : (t139 == 0) = true := beq_iff_eq.mpr c57
                                          have c57b1 : (t139 != 0) = false := bne_eq_false_iff_eq.mpr c57
                                          clear c57
                                          by_cases c58 : (t134.length : Int) = 2
                                          · rw [if_pos c58] at H
                                            have c58b0 : ((t134.length : Int) == 2) = true := beq_iff_eq.mpr c58
                                            have c58b1 : ((t134.length : Int) != 2) = false := bne_eq_false_iff_eq.mpr c58
                                            clear c58
                                            by_cases c59 : 0 < (t134.length : Int)
                                            · rw [if_pos c59] at H
                                              have c59b0 : decide (0 < (t134.length : Int)) = true := decide_eq_true c59
                                              have c59b1 : decide (0 < t134.length) = true := decide_eq_true (by omega)
                                              clear c59
                                              by_cases c60 : (!(((rd_T33 t134 0).f0) == ((rd_T33 t120 x6_1).f0)) || (!(((rd_T33 t134 0).f1) == 0) || (!((((rd_T33 t134 0).f2).toList) == ((rd_T33 t120 x6_1).f2).toList) || (!(((rd_T33 t134 0).f3) == ((rd_T33 t120 x6_1).f3)) || (!(((rd_T33 t134 0).f4) == ((rd_T33 t120 x6_1).f4))))))) = true
                                              · rw [if_pos c60] at H
                                                have c60b0 : (!(((rd_T33 t134 0).f0) == ((rd_T33 t120 x6_1).f0)) || (!(((rd_T33 t134 0).f1) == 0) || (!((((rd_T33 t134 0).f2).toList) == ((rd_T33 t120 x6_1).f2).toList) || (!(((rd_T33 t134 0).f3) == ((rd_T33 t120 x6_1).f3)) || (!(((rd_T33 t134 0).f4) == ((rd_T33 t120 x6_1).f4))))))) = true := c60
                                                clear c60
                                                obtain rfl := Option.some.inj H
                                                have hcz61_0 : wc.cell? ⟨gb127, 0, none⟩ = some (.int .i64 ((rd_T33 t120 x6_1).f0)) := (blk_cell BK127.out 0).trans rfl
                                                have hcz61_1 : wc.cell? ⟨gb127, 1, none⟩ = some (.int .i64 ((rd_T33 t120 x6_1).f1)) := (blk_cell BK127.out 1).trans rfl
                                                have hcz61_2 : wc.cell? ⟨gb127, 2, none⟩ = some (.string ((rd_T33 t120 x6_1).f2)) := (blk_cell BK127.out 2).trans rfl
                                                have hcz61_3 : wc.cell? ⟨gb127, 3, none⟩ = some (.int .i64 ((rd_T33 t120 x6_1).f3)) := (blk_cell BK127.out 3).trans rfl
                                                have hcz61_4 : wc.cell? ⟨gb127, 4, none⟩ = some (.int .i64 ((rd_T33 t120 x6_1).f4)) := (blk_cell BK127.out 4).trans rfl
                                                have hfz61_0 := blk_frozen BK127.out 0
                                                have hfz61_1 := blk_frozen BK127.out 1
                                                have hfz61_2 := blk_frozen BK127.out 2
                                                have hfz61_3 := blk_frozen BK127.out 3
                                                have hfz61_4 := blk_frozen BK127.out 4
                                                have p133 : 0 ≤ ((ji49) : Int) := of_decide_eq_true (by first | (with_reducible assumption) | assumption)
                                                have q133 : (ji49) < (t120.length : Int) := of_decide_eq_true (by first | (with_reducible assumption) | assumption)
                                                obtain ⟨ad133, e133, hx133_0, hx133_1, hx133_2, hx133_3, hx133_4⟩ := at_T33 (Kd.R_reads' HO_3.out).2.2 (ji49) p133 q133
                                                obtain rfl : ad126 = ad133 := (by injection e133)
                                                replace p133 := eq_true p133
                                                replace q133 := eq_true q133
                                                go_wp2_with (first | (go_at_call 11; (with_reducible refine (words_Scan.calls (a0.extract (((rd_T33 t120 x6_1).f1) : Int).toNat (((rd_T33 t120 (ji49)).f1) : Int).toNat) t134 t135 t136 _ ?side1 A55.out).mono ?_); (case side1 => first | (with_reducible exact HT.out) | (with_reducible exact HT.out.below HB.out) | (with_reducible refine Tabs.below HT.out ?_; repeat (first | (with_reducible first | exact HB.out | apply below_alloc | apply pw_below_drewN | apply below_drew1 | refine below_set ?_ GE127.out) | exact HB.out))); rintro e w62 ⟨v137, rfl, ho0, hb⟩; have n0_ := Aside0.mk (Kd.R_elder' (by (with_reducible repeat (first | apply Kd.R_alloc | apply Kd.R_drewN | apply Kd.R_drew)); exact HO_3.out) (Kd.R_base ho0) hb); have n1_ := Aside0.mk (Kd.R_lower (Kd.R_newB (Kd.R_new' ho0 (Kd.R_lt (by (with_reducible repeat (first | apply Kd.R_alloc | apply Kd.R_drewN | apply Kd.R_drew)); exact HO_3.out))) (g := gb127) (o := .cells #[.int .i64 ((rd_T33 t120 x6_1).f0), .int .i64 ((rd_T33 t120 x6_1).f1), .string ((rd_T33 t120 x6_1).f2), .int .i64 ((rd_T33 t120 x6_1).f3), .int .i64 ((rd_T33 t120 x6_1).f4)] 33 (0, 0)) (by (with_reducible repeat (first | refine blk_drewN ?_ _ | refine blk_drew ?_ | refine blk_alloc ?_ _)); exact BK127.out)) (below_size (by repeat (first | (with_reducible first | exact HB.out | apply below_alloc | apply pw_below_drewN | apply below_drew1 | refine below_set ?_ GE127.out) | exact HB.out)))); have n2_ := Aside0.mk (blk_below (g := gb127) (o := .cells #[.int .i64 ((rd_T33 t120 x6_1).f0), .int .i64 ((rd_T33 t120 x6_1).f1), .string ((rd_T33 t120 x6_1).f2), .int .i64 ((rd_T33 t120 x6_1).f3), .int .i64 ((rd_T33 t120 x6_1).f4)] 33 (0, 0)) (by (with_reducible repeat (first | refine blk_drewN ?_ _ | refine blk_drew ?_ | refine blk_alloc ?_ _)); exact BK127.out) hb); have n3_ := Aside0.mk (below_step (by repeat (first | (with_reducible first | exact HB.out | apply below_alloc | apply pw_below_drewN | apply below_drew1 | refine below_set ?_ GE127.out) | exact HB.out)) hb); clear HO_3; clear BK127; clear HB; have HO_3 := n0_; have HO138 := n1_; have BK127 := n2_; have HB := n3_; clear n0_ n1_ n2_ n3_; (try clear hb); (try clear hb2); (try clear hk); (try clear hi); (try clear ho0); have hcz63_0 : w62.cell? ⟨gb127, 0, none⟩ = some (.int .i64 ((rd_T33 t120 x6_1).f0)) := (blk_cell BK127.out 0).trans rfl; have hcz63_1 : w62.cell? ⟨gb127, 1, none⟩ = some (.int .i64 ((rd_T33 t120 x6_1).f1)) := (blk_cell BK127.out 1).trans rfl; have hcz63_2 : w62.cell? ⟨gb127, 2, none⟩ = some (.string ((rd_T33 t120 x6_1).f2)) := (blk_cell BK127.out 2).trans rfl; have hcz63_3 : w62.cell? ⟨gb127, 3, none⟩ = some (.int .i64 ((rd_T33 t120 x6_1).f3)) := (blk_cell BK127.out 3).trans rfl; have hcz63_4 : w62.cell? ⟨gb127, 4, none⟩ = some (.int .i64 ((rd_T33 t120 x6_1).f4)) := (blk_cell BK127.out 4).trans rfl; have hfz63_0 := blk_frozen BK127.out 0; have hfz63_1 := blk_frozen BK127.out 1; have hfz63_2 := blk_frozen BK127.out 2; have hfz63_3 := blk_frozen BK127.out 3; have hfz63_4 := blk_frozen BK127.out 4) | (go_at_call 13; (with_reducible refine (levylaw4_num.calls t136 t139 _ A56.out).mono ?_); rintro e w' ⟨rfl, ⟨nd, rfl⟩⟩; (try first | exact ⟨rfl, _, World.drewN_drewN _ _ _⟩ | exact ⟨rfl, _, Eq.trans (World.drewN_drewN _ _ _) (congrArg (World.drewN _) (Nat.add_assoc _ _ _))⟩); obtain ⟨Ao64, co64, eo64⟩ := Kd.R_slice HO138.out; subst eo64; have p140 : 0 ≤ (0 : Int) := (by omega); have q140 : 0 < (t134.length : Int) := of_decide_eq_true (by first | (with_reducible assumption) | assumption); obtain ⟨ad140, e140, hx140_0, hx140_1, hx140_2, hx140_3, hx140_4⟩ := at_T33 (Kd.R_reads' HO138.out).2.2 0 p140 q140; cases e140; have qi140 : (0 < t134.length) = True := eq_true (by omega); (try rw [show ((0 : Int)).toNat = 0 from rfl] at hx140_0); (try rw [show 0 * 5 = 0 from rfl] at hx140_0); (try rw [Addr.add_zero'] at hx140_0); (try rw [show ((0 : Int)).toNat = 0 from rfl] at hx140_1); (try rw [show 0 * 5 = 0 from rfl] at hx140_1); (try rw [Addr.add_zero'] at hx140_1); (try rw [show ((0 : Int)).toNat = 0 from rfl] at hx140_2); (try rw [show 0 * 5 = 0 from rfl] at hx140_2); (try rw [Addr.add_zero'] at hx140_2); (try rw [show ((0 : Int)).toNat = 0 from rfl] at hx140_3); (try rw [show 0 * 5 = 0 from rfl] at hx140_3); (try rw [Addr.add_zero'] at hx140_3); (try rw [show ((0 : Int)).toNat = 0 from rfl] at hx140_4); (try rw [show 0 * 5 = 0 from rfl] at hx140_4); (try rw [Addr.add_zero'] at hx140_4); have hn140_0 : ad140.block ≠ gb127 := Kd.own_blk (Kd.R_away HO138.out (fun _ hk => hk.2)); have hs140_0 := hx140_0; have hs140_1 := hx140_1; have hs140_2 := hx140_2; have hs140_3 := hx140_3; have hs140_4 := hx140_4; replace hx140_0 := (cell_far (p := ⟨gb127, 1, none⟩) (by first | (rw [add_block]; exact hn140_0) | (show (Addr.add _ _).block ≠ _; rw [add_block]; exact hn140_0) | exact hn140_0) (.int .i64 0)).trans hx140_0; replace hx140_1 := (cell_far (p := ⟨gb127, 1, none⟩) (by first | (rw [add_block]; exact hn140_0) | (show (Addr.add _ _).block ≠ _; rw [add_block]; exact hn140_0) | exact hn140_0) (.int .i64 0)).trans hx140_1; replace hx140_2 := (cell_far (p := ⟨gb127, 1, none⟩) (by first | (rw [add_block]; exact hn140_0) | (show (Addr.add _ _).block ≠ _; rw [add_block]; exact hn140_0) | exact hn140_0) (.int .i64 0)).trans hx140_2; replace hx140_3 := (cell_far (p := ⟨gb127, 1, none⟩) (by first | (rw [add_block]; exact hn140_0) | (show (Addr.add _ _).block ≠ _; rw [add_block]; exact hn140_0) | exact hn140_0) (.int .i64 0)).trans hx140_3; replace hx140_4 := (cell_far (p := ⟨gb127, 1, none⟩) (by first | (rw [add_block]; exact hn140_0) | (show (Addr.add _ _).block ≠ _; rw [add_block]; exact hn140_0) | exact hn140_0) (.int .i64 0)).trans hx140_4; (try have hy140_0 := fun (n_ : Nat) => ((cell_far (p := ⟨gb127, 1, none⟩) (by exact hn140_0) (.int .i64 0)).trans (show (w62.drewN n_).cell? _ = some _ from hs140_0))); (try have hy140_1 := fun (n_ : Nat) => ((cell_far (p := ⟨gb127, 1, none⟩) (by exact hn140_0) (.int .i64 0)).trans (show (w62.drewN n_).cell? _ = some _ from hs140_1))); (try have hy140_2 := fun (n_ : Nat) => ((cell_far (p := ⟨gb127, 1, none⟩) (by exact hn140_0) (.int .i64 0)).trans (show (w62.drewN n_).cell? _ = some _ from hs140_2))); (try have hy140_3 := fun (n_ : Nat) => ((cell_far (p := ⟨gb127, 1, none⟩) (by exact hn140_0) (.int .i64 0)).trans (show (w62.drewN n_).cell? _ = some _ from hs140_3))); (try have hy140_4 := fun (n_ : Nat) => ((cell_far (p := ⟨gb127, 1, none⟩) (by exact hn140_0) (.int .i64 0)).trans (show (w62.drewN n_).cell? _ = some _ from hs140_4))); clear hs140_0; clear hs140_1; clear hs140_2; clear hs140_3; clear hs140_4; clear hn140_0; replace p140 := eq_true p140; replace q140 := eq_true q140))
                                                repeat (go_quiet (first | (go_at_call 11; (with_reducible refine (words_Scan.calls (a0.extract (((rd_T33 t120 x6_1).f1) : Int).toNat (((rd_T33 t120 (ji49)).f1) : Int).toNat) t134 t135 t136 _ ?side1 A55.out).mono ?_); (case side1 => first | (with_reducible exact HT.out) | (with_reducible exact HT.out.below HB.out) | (with_reducible refine Tabs.below HT.out ?_; repeat (first | (with_reducible first | exact HB.out | apply below_alloc | apply pw_below_drewN | apply below_drew1 | refine below_set ?_ GE127.out) | exact HB.out))); rintro e w62 ⟨v137, rfl, ho0, hb⟩; have n0_ := Aside0.mk (Kd.R_elder' (by (with_reducible repeat (first | apply Kd.R_alloc | apply Kd.R_drewN | apply Kd.R_drew)); exact HO_3.out) (Kd.R_base ho0) hb); have n1_ := Aside0.mk (Kd.R_lower (Kd.R_newB (Kd.R_new' ho0 (Kd.R_lt (by (with_reducible repeat (first | apply Kd.R_alloc | apply Kd.R_drewN | apply Kd.R_drew)); exact HO_3.out))) (g := gb127) (o := .cells #[.int .i64 ((rd_T33 t120 x6_1).f0), .int .i64 ((rd_T33 t120 x6_1).f1), .string ((rd_T33 t120 x6_1).f2), .int .i64 ((rd_T33 t120 x6_1).f3), .int .i64 ((rd_T33 t120 x6_1).f4)] 33 (0, 0)) (by (with_reducible repeat (first | refine blk_drewN ?_ _ | refine blk_drew ?_ | refine blk_alloc ?_ _)); exact BK127.out)) (below_size (by repeat (first | (with_reducible first | exact HB.out | apply below_alloc | apply pw_below_drewN | apply below_drew1 | refine below_set ?_ GE127.out) | exact HB.out)))); have n2_ := Aside0.mk (blk_below (g := gb127) (o := .cells #[.int .i64 ((rd_T33 t120 x6_1).f0), .int .i64 ((rd_T33 t120 x6_1).f1), .string ((rd_T33 t120 x6_1).f2), .int .i64 ((rd_T33 t120 x6_1).f3), .int .i64 ((rd_T33 t120 x6_1).f4)] 33 (0, 0)) (by (with_reducible repeat (first | refine blk_drewN ?_ _ | refine blk_drew ?_ | refine blk_alloc ?_ _)); exact BK127.out) hb); have n3_ := Aside0.mk (below_step (by repeat (first | (with_reducible first | exact HB.out | apply below_alloc | apply pw_below_drewN | apply below_drew1 | refine below_set ?_ GE127.out) | exact HB.out)) hb); clear HO_3; clear BK127; clear HB; have HO_3 := n0_; have HO138 := n1_; have BK127 := n2_; have HB := n3_; clear n0_ n1_ n2_ n3_; (try clear hb); (try clear hb2); (try clear hk); (try clear hi); (try clear ho0); have hcz63_0 : w62.cell? ⟨gb127, 0, none⟩ = some (.int .i64 ((rd_T33 t120 x6_1).f0)) := (blk_cell BK127.out 0).trans rfl; have hcz63_1 : w62.cell? ⟨gb127, 1, none⟩ = some (.int .i64 ((rd_T33 t120 x6_1).f1)) := (blk_cell BK127.out 1).trans rfl; have hcz63_2 : w62.cell? ⟨gb127, 2, none⟩ = some (.string ((rd_T33 t120 x6_1).f2)) := (blk_cell BK127.out 2).trans rfl; have hcz63_3 : w62.cell? ⟨gb127, 3, none⟩ = some (.int .i64 ((rd_T33 t120 x6_1).f3)) := (blk_cell BK127.out 3).trans rfl; have hcz63_4 : w62.cell? ⟨gb127, 4, none⟩ = some (.int .i64 ((rd_T33 t120 x6_1).f4)) := (blk_cell BK127.out 4).trans rfl; have hfz63_0 := blk_frozen BK127.out 0; have hfz63_1 := blk_frozen BK127.out 1; have hfz63_2 := blk_frozen BK127.out 2; have hfz63_3 := blk_frozen BK127.out 3; have hfz63_4 := blk_frozen BK127.out 4) | (go_at_call 13; (with_reducible refine (levylaw4_num.calls t136 t139 _ A56.out).mono ?_); rintro e w' ⟨rfl, ⟨nd, rfl⟩⟩; (try first | exact ⟨rfl, _, World.drewN_drewN _ _ _⟩ | exact ⟨rfl, _, Eq.trans (World.drewN_drewN _ _ _) (congrArg (World.drewN _) (Nat.add_assoc _ _ _))⟩); obtain ⟨Ao64, co64, eo64⟩ := Kd.R_slice HO138.out; subst eo64; have p140 : 0 ≤ (0 : Int) := (by omega); have q140 : 0 < (t134.length : Int) := of_decide_eq_true (by first | (with_reducible assumption) | assumption); obtain ⟨ad140, e140, hx140_0, hx140_1, hx140_2, hx140_3, hx140_4⟩ := at_T33 (Kd.R_reads' HO138.out).2.2 0 p140 q140; cases e140; have qi140 : (0 < t134.length) = True := eq_true (by omega); (try rw [show ((0 : Int)).toNat = 0 from rfl] at hx140_0); (try rw [show 0 * 5 = 0 from rfl] at hx140_0); (try rw [Addr.add_zero'] at hx140_0); (try rw [show ((0 : Int)).toNat = 0 from rfl] at hx140_1); (try rw [show 0 * 5 = 0 from rfl] at hx140_1); (try rw [Addr.add_zero'] at hx140_1); (try rw [show ((0 : Int)).toNat = 0 from rfl] at hx140_2); (try rw [show 0 * 5 = 0 from rfl] at hx140_2); (try rw [Addr.add_zero'] at hx140_2); (try rw [show ((0 : Int)).toNat = 0 from rfl] at hx140_3); (try rw [show 0 * 5 = 0 from rfl] at hx140_3); (try rw [Addr.add_zero'] at hx140_3); (try rw [show ((0 : Int)).toNat = 0 from rfl] at hx140_4); (try rw [show 0 * 5 = 0 from rfl] at hx140_4); (try rw [Addr.add_zero'] at hx140_4); have hn140_0 : ad140.block ≠ gb127 := Kd.own_blk (Kd.R_away HO138.out (fun _ hk => hk.2)); have hs140_0 := hx140_0; have hs140_1 := hx140_1; have hs140_2 := hx140_2; have hs140_3 := hx140_3; have hs140_4 := hx140_4; replace hx140_0 := (cell_far (p := ⟨gb127, 1, none⟩) (by first | (rw [add_block]; exact hn140_0) | (show (Addr.add _ _).block ≠ _; rw [add_block]; exact hn140_0) | exact hn140_0) (.int .i64 0)).trans hx140_0; replace hx140_1 := (cell_far (p := ⟨gb127, 1, none⟩) (by first | (rw [add_block]; exact hn140_0) | (show (Addr.add _ _).block ≠ _; rw [add_block]; exact hn140_0) | exact hn140_0) (.int .i64 0)).trans hx140_1; replace hx140_2 := (cell_far (p := ⟨gb127, 1, none⟩) (by first | (rw [add_block]; exact hn140_0) | (show (Addr.add _ _).block ≠ _; rw [add_block]; exact hn140_0) | exact hn140_0) (.int .i64 0)).trans hx140_2; replace hx140_3 := (cell_far (p := ⟨gb127, 1, none⟩) (by first | (rw [add_block]; exact hn140_0) | (show (Addr.add _ _).block ≠ _; rw [add_block]; exact hn140_0) | exact hn140_0) (.int .i64 0)).trans hx140_3; replace hx140_4 := (cell_far (p := ⟨gb127, 1, none⟩) (by first | (rw [add_block]; exact hn140_0) | (show (Addr.add _ _).block ≠ _; rw [add_block]; exact hn140_0) | exact hn140_0) (.int .i64 0)).trans hx140_4; (try have hy140_0 := fun (n_ : Nat) => ((cell_far (p := ⟨gb127, 1, none⟩) (by exact hn140_0) (.int .i64 0)).trans (show (w62.drewN n_).cell? _ = some _ from hs140_0))); (try have hy140_1 := fun (n_ : Nat) => ((cell_far (p := ⟨gb127, 1, none⟩) (by exact hn140_0) (.int .i64 0)).trans (show (w62.drewN n_).cell? _ = some _ from hs140_1))); (try have hy140_2 := fun (n_ : Nat) => ((cell_far (p := ⟨gb127, 1, none⟩) (by exact hn140_0) (.int .i64 0)).trans (show (w62.drewN n_).cell? _ = some _ from hs140_2))); (try have hy140_3 := fun (n_ : Nat) => ((cell_far (p := ⟨gb127, 1, none⟩) (by exact hn140_0) (.int .i64 0)).trans (show (w62.drewN n_).cell? _ = some _ from hs140_3))); (try have hy140_4 := fun (n_ : Nat) => ((cell_far (p := ⟨gb127, 1, none⟩) (by exact hn140_0) (.int .i64 0)).trans (show (w62.drewN n_).cell? _ = some _ from hs140_4))); clear hs140_0; clear hs140_1; clear hs140_2; clear hs140_3; clear hs140_4; clear hn140_0; replace p140 := eq_true p140; replace q140 := eq_true q140)); try go_wp2_with (first | (go_at_call 11; (with_reducible refine (words_Scan.calls (a0.extract (((rd_T33 t120 x6_1).f1) : Int).toNat (((rd_T33 t120 (ji49)).f1) : Int).toNat) t134 t135 t136 _ ?side1 A55.out).mono ?_); (case side1 => first | (with_reducible exact HT.out) | (with_reducible exact HT.out.below HB.out) | (with_reducible refine Tabs.below HT.out ?_; repeat (first | (with_reducible first | exact HB.out | apply below_alloc | apply pw_below_drewN | apply below_drew1 | refine below_set ?_ GE127.out) | exact HB.out))); rintro e w62 ⟨v137, rfl, ho0, hb⟩; have n0_ := Aside0.mk (Kd.R_elder' (by (with_reducible repeat (first | apply Kd.R_alloc | apply Kd.R_drewN | apply Kd.R_drew)); exact HO_3.out) (Kd.R_base ho0) hb); have n1_ := Aside0.mk (Kd.R_lower (Kd.R_newB (Kd.R_new' ho0 (Kd.R_lt (by (with_reducible repeat (first | apply Kd.R_alloc | apply Kd.R_drewN | apply Kd.R_drew)); exact HO_3.out))) (g := gb127) (o := .cells #[.int .i64 ((rd_T33 t120 x6_1).f0), .int .i64 ((rd_T33 t120 x6_1).f1), .string ((rd_T33 t120 x6_1).f2), .int .i64 ((rd_T33 t120 x6_1).f3), .int .i64 ((rd_T33 t120 x6_1).f4)] 33 (0, 0)) (by (with_reducible repeat (first | refine blk_drewN ?_ _ | refine blk_drew ?_ | refine blk_alloc ?_ _)); exact BK127.out)) (below_size (by repeat (first | (with_reducible first | exact HB.out | apply below_alloc | apply pw_below_drewN | apply below_drew1 | refine below_set ?_ GE127.out) | exact HB.out)))); have n2_ := Aside0.mk (blk_below (g := gb127) (o := .cells #[.int .i64 ((rd_T33 t120 x6_1).f0), .int .i64 ((rd_T33 t120 x6_1).f1), .string ((rd_T33 t120 x6_1).f2), .int .i64 ((rd_T33 t120 x6_1).f3), .int .i64 ((rd_T33 t120 x6_1).f4)] 33 (0, 0)) (by (with_reducible repeat (first | refine blk_drewN ?_ _ | refine blk_drew ?_ | refine blk_alloc ?_ _)); exact BK127.out) hb); have n3_ := Aside0.mk (below_step (by repeat (first | (with_reducible first | exact HB.out | apply below_alloc | apply pw_below_drewN | apply below_drew1 | refine below_set ?_ GE127.out) | exact HB.out)) hb); clear HO_3; clear BK127; clear HB; have HO_3 := n0_; have HO138 := n1_; have BK127 := n2_; have HB := n3_; clear n0_ n1_ n2_ n3_; (try clear hb); (try clear hb2); (try clear hk); (try clear hi); (try clear ho0); have hcz63_0 : w62.cell? ⟨gb127, 0, none⟩ = some (.int .i64 ((rd_T33 t120 x6_1).f0)) := (blk_cell BK127.out 0).trans rfl; have hcz63_1 : w62.cell? ⟨gb127, 1, none⟩ = some (.int .i64 ((rd_T33 t120 x6_1).f1)) := (blk_cell BK127.out 1).trans rfl; have hcz63_2 : w62.cell? ⟨gb127, 2, none⟩ = some (.string ((rd_T33 t120 x6_1).f2)) := (blk_cell BK127.out 2).trans rfl; have hcz63_3 : w62.cell? ⟨gb127, 3, none⟩ = some (.int .i64 ((rd_T33 t120 x6_1).f3)) := (blk_cell BK127.out 3).trans rfl; have hcz63_4 : w62.cell? ⟨gb127, 4, none⟩ = some (.int .i64 ((rd_T33 t120 x6_1).f4)) := (blk_cell BK127.out 4).trans rfl; have hfz63_0 := blk_frozen BK127.out 0; have hfz63_1 := blk_frozen BK127.out 1; have hfz63_2 := blk_frozen BK127.out 2; have hfz63_3 := blk_frozen BK127.out 3; have hfz63_4 := blk_frozen BK127.out 4) | (go_at_call 13; (with_reducible refine (levylaw4_num.calls t136 t139 _ A56.out).mono ?_); rintro e w' ⟨rfl, ⟨nd, rfl⟩⟩; (try first | exact ⟨rfl, _, World.drewN_drewN _ _ _⟩ | exact ⟨rfl, _, Eq.trans (World.drewN_drewN _ _ _) (congrArg (World.drewN _) (Nat.add_assoc _ _ _))⟩); obtain ⟨Ao64, co64, eo64⟩ := Kd.R_slice HO138.out; subst eo64; have p140 : 0 ≤ (0 : Int) := (by omega); have q140 : 0 < (t134.length : Int) := of_decide_eq_true (by first | (with_reducible assumption) | assumption); obtain ⟨ad140, e140, hx140_0, hx140_1, hx140_2, hx140_3, hx140_4⟩ := at_T33 (Kd.R_reads' HO138.out).2.2 0 p140 q140; cases e140; have qi140 : (0 < t134.length) = True := eq_true (by omega); (try rw [show ((0 : Int)).toNat = 0 from rfl] at hx140_0); (try rw [show 0 * 5 = 0 from rfl] at hx140_0); (try rw [Addr.add_zero'] at hx140_0); (try rw [show ((0 : Int)).toNat = 0 from rfl] at hx140_1); (try rw [show 0 * 5 = 0 from rfl] at hx140_1); (try rw [Addr.add_zero'] at hx140_1); (try rw [show ((0 : Int)).toNat = 0 from rfl] at hx140_2); (try rw [show 0 * 5 = 0 from rfl] at hx140_2); (try rw [Addr.add_zero'] at hx140_2); (try rw [show ((0 : Int)).toNat = 0 from rfl] at hx140_3); (try rw [show 0 * 5 = 0 from rfl] at hx140_3); (try rw [Addr.add_zero'] at hx140_3); (try rw [show ((0 : Int)).toNat = 0 from rfl] at hx140_4); (try rw [show 0 * 5 = 0 from rfl] at hx140_4); (try rw [Addr.add_zero'] at hx140_4); have hn140_0 : ad140.block ≠ gb127 := Kd.own_blk (Kd.R_away HO138.out (fun _ hk => hk.2)); have hs140_0 := hx140_0; have hs140_1 := hx140_1; have hs140_2 := hx140_2; have hs140_3 := hx140_3; have hs140_4 := hx140_4; replace hx140_0 := (cell_far (p := ⟨gb127, 1, none⟩) (by first | (rw [add_block]; exact hn140_0) | (show (Addr.add _ _).block ≠ _; rw [add_block]; exact hn140_0) | exact hn140_0) (.int .i64 0)).trans hx140_0; replace hx140_1 := (cell_far (p := ⟨gb127, 1, none⟩) (by first | (rw [add_block]; exact hn140_0) | (show (Addr.add _ _).block ≠ _; rw [add_block]; exact hn140_0) | exact hn140_0) (.int .i64 0)).trans hx140_1; replace hx140_2 := (cell_far (p := ⟨gb127, 1, none⟩) (by first | (rw [add_block]; exact hn140_0) | (show (Addr.add _ _).block ≠ _; rw [add_block]; exact hn140_0) | exact hn140_0) (.int .i64 0)).trans hx140_2; replace hx140_3 := (cell_far (p := ⟨gb127, 1, none⟩) (by first | (rw [add_block]; exact hn140_0) | (show (Addr.add _ _).block ≠ _; rw [add_block]; exact hn140_0) | exact hn140_0) (.int .i64 0)).trans hx140_3; replace hx140_4 := (cell_far (p := ⟨gb127, 1, none⟩) (by first | (rw [add_block]; exact hn140_0) | (show (Addr.add _ _).block ≠ _; rw [add_block]; exact hn140_0) | exact hn140_0) (.int .i64 0)).trans hx140_4; (try have hy140_0 := fun (n_ : Nat) => ((cell_far (p := ⟨gb127, 1, none⟩) (by exact hn140_0) (.int .i64 0)).trans (show (w62.drewN n_).cell? _ = some _ from hs140_0))); (try have hy140_1 := fun (n_ : Nat) => ((cell_far (p := ⟨gb127, 1, none⟩) (by exact hn140_0) (.int .i64 0)).trans (show (w62.drewN n_).cell? _ = some _ from hs140_1))); (try have hy140_2 := fun (n_ : Nat) => ((cell_far (p := ⟨gb127, 1, none⟩) (by exact hn140_0) (.int .i64 0)).trans (show (w62.drewN n_).cell? _ = some _ from hs140_2))); (try have hy140_3 := fun (n_ : Nat) => ((cell_far (p := ⟨gb127, 1, none⟩) (by exact hn140_0) (.int .i64 0)).trans (show (w62.drewN n_).cell? _ = some _ from hs140_3))); (try have hy140_4 := fun (n_ : Nat) => ((cell_far (p := ⟨gb127, 1, none⟩) (by exact hn140_0) (.int .i64 0)).trans (show (w62.drewN n_).cell? _ = some _ from hs140_4))); clear hs140_0; clear hs140_1; clear hs140_2; clear hs140_3; clear hs140_4; clear hn140_0; replace p140 := eq_true p140; replace q140 := eq_true q140)))
                                                go_ret
                                                exact ⟨by first | rfl | (simp [errW_none, errW_some] <;> rfl) | (simp only [← hji49]; first | rfl | (simp [errW_none, errW_some] <;> rfl)) | (simp [*, errW_none, errW_some] <;> rfl), by repeat (first | (with_reducible first | exact HB.out | apply below_alloc | apply pw_below_drewN | apply below_drew1 | refine below_set ?_ GE127.out) | exact HB.out)⟩
                                              · rw [if_neg c60] at H
                                                have c60b0 : (!(((rd_T33 t134 0).f0) == ((rd_T33 t120 x6_1).f0)) || (!(((rd_T33 t134 0).f1) == 0) || (!((((rd_T33 t134 0).f2).toList) == ((rd_T33 t120 x6_1).f2).toList) || (!(((rd_T33 t134 0).f3) == ((rd_T33 t120 x6_1).f3)) || (!(((rd_T33 t134 0).f4) == ((rd_T33 t120 x6_1).f4))))))) = false := by simpa using c60
                                                clear c60
                                                by_cases c65 : 1 < (t134.length : Int)
                                                · rw [if_pos c65] at H
                                                  have c65b0 : decide (1 < (t134.length : Int)) = true := decide_eq_true c65
                                                  have c65b1 : decide (1 < t134.length) = true := decide_eq_true (by omega)
                                                  clear c65
                                                  by_cases c66 : ((rd_T33 t134 1).f0) = 8
                                                  · rw [if_pos c66] at H
                                                    have c66b0 : (((rd_T33 t134 1).f0) == 8) = true := beq_iff_eq.mpr c66
                                                    have c66b1 : (((rd_T33 t134 1).f0) != 8) = false := bne_eq_false_iff_eq.mpr c66
                                                    clear c66
                                                    have H' := Aside0.mk H
                                                    clear H
                                                    have hcz67_0 : wc.cell? ⟨gb127, 0, none⟩ = some (.int .i64 ((rd_T33 t120 x6_1).f0)) := (blk_cell BK127.out 0).trans rfl
                                                    have hcz67_1 : wc.cell? ⟨gb127, 1, none⟩ = some (.int .i64 ((rd_T33 t120 x6_1).f1)) := (blk_cell BK127.out 1).trans rfl
                                                    have hcz67_2 : wc.cell? ⟨gb127, 2, none⟩ = some (.string ((rd_T33 t120 x6_1).f2)) := (blk_cell BK127.out 2).trans rfl
                                                    have hcz67_3 : wc.cell? ⟨gb127, 3, none⟩ = some (.int .i64 ((rd_T33 t120 x6_1).f3)) := (blk_cell BK127.out 3).trans rfl
                                                    have hcz67_4 : wc.cell? ⟨gb127, 4, none⟩ = some (.int .i64 ((rd_T33 t120 x6_1).f4)) := (blk_cell BK127.out 4).trans rfl
                                                    have hfz67_0 := blk_frozen BK127.out 0
                                                    have hfz67_1 := blk_frozen BK127.out 1
                                                    have hfz67_2 := blk_frozen BK127.out 2
                                                    have hfz67_3 := blk_frozen BK127.out 3
                                                    have hfz67_4 := blk_frozen BK127.out 4
                                                    have p133 : 0 ≤ ((ji49) : Int) := of_decide_eq_true (by first | (with_reducible assumption) | assumption)
                                                    have q133 : (ji49) < (t120.length : Int) := of_decide_eq_true (by first | (with_reducible assumption) | assumption)
                                                    obtain ⟨ad133, e133, hx133_0, hx133_1, hx133_2, hx133_3, hx133_4⟩ := at_T33 (Kd.R_reads' HO_3.out).2.2 (ji49) p133 q133
                                                    obtain rfl : ad126 = ad133 := (by injection e133)
                                                    replace p133 := eq_true p133
                                                    replace q133 := eq_true q133
                                                    go_wp2_with (first | (go_at_call 11; (with_reducible refine (words_Scan.calls (a0.extract (((rd_T33 t120 x6_1).f1) : Int).toNat (((rd_T33 t120 (ji49)).f1) : Int).toNat) t134 t135 t136 _ ?side1 A55.out).mono ?_); (case side1 => first | (with_reducible exact HT.out) | (with_reducible exact HT.out.below HB.out) | (with_reducible refine Tabs.below HT.out ?_; repeat (first | (with_reducible first | exact HB.out | apply below_alloc | apply pw_below_drewN | apply below_drew1 | refine below_set ?_ GE127.out) | exact HB.out))); rintro e w68 ⟨v137, rfl, ho0, hb⟩; have n0_ := Aside0.mk (Kd.R_elder' (by (with_reducible repeat (first | apply Kd.R_alloc | apply Kd.R_drewN | apply Kd.R_drew)); exact HO_3.out) (Kd.R_base ho0) hb); have n1_ := Aside0.mk (Kd.R_lower (Kd.R_newB (Kd.R_new' ho0 (Kd.R_lt (by (with_reducible repeat (first | apply Kd.R_alloc | apply Kd.R_drewN | apply Kd.R_drew)); exact HO_3.out))) (g := gb127) (o := .cells #[.int .i64 ((rd_T33 t120 x6_1).f0), .int .i64 ((rd_T33 t120 x6_1).f1), .string ((rd_T33 t120 x6_1).f2), .int .i64 ((rd_T33 t120 x6_1).f3), .int .i64 ((rd_T33 t120 x6_1).f4)] 33 (0, 0)) (by (with_reducible repeat (first | refine blk_drewN ?_ _ | refine blk_drew ?_ | refine blk_alloc ?_ _)); exact BK127.out)) (below_size (by repeat (first | (with_reducible first | exact HB.out | apply below_alloc | apply pw_below_drewN | apply below_drew1 | refine below_set ?_ GE127.out) | exact HB.out)))); have n2_ := Aside0.mk (blk_below (g := gb127) (o := .cells #[.int .i64 ((rd_T33 t120 x6_1).f0), .int .i64 ((rd_T33 t120 x6_1).f1), .string ((rd_T33 t120 x6_1).f2), .int .i64 ((rd_T33 t120 x6_1).f3), .int .i64 ((rd_T33 t120 x6_1).f4)] 33 (0, 0)) (by (with_reducible repeat (first | refine blk_drewN ?_ _ | refine blk_drew ?_ | refine blk_alloc ?_ _)); exact BK127.out) hb); have n3_ := Aside0.mk (below_step (by repeat (first | (with_reducible first | exact HB.out | apply below_alloc | apply pw_below_drewN | apply below_drew1 | refine below_set ?_ GE127.out) | exact HB.out)) hb); clear HO_3; clear BK127; clear HB; have HO_3 := n0_; have HO138 := n1_; have BK127 := n2_; have HB := n3_; clear n0_ n1_ n2_ n3_; (try clear hb); (try clear hb2); (try clear hk); (try clear hi); (try clear ho0); have hcz69_0 : w68.cell? ⟨gb127, 0, none⟩ = some (.int .i64 ((rd_T33 t120 x6_1).f0)) := (blk_cell BK127.out 0).trans rfl; have hcz69_1 : w68.cell? ⟨gb127, 1, none⟩ = some (.int .i64 ((rd_T33 t120 x6_1).f1)) := (blk_cell BK127.out 1).trans rfl; have hcz69_2 : w68.cell? ⟨gb127, 2, none⟩ = some (.string ((rd_T33 t120 x6_1).f2)) := (blk_cell BK127.out 2).trans rfl; have hcz69_3 : w68.cell? ⟨gb127, 3, none⟩ = some (.int .i64 ((rd_T33 t120 x6_1).f3)) := (blk_cell BK127.out 3).trans rfl; have hcz69_4 : w68.cell? ⟨gb127, 4, none⟩ = some (.int .i64 ((rd_T33 t120 x6_1).f4)) := (blk_cell BK127.out 4).trans rfl; have hfz69_0 := blk_frozen BK127.out 0; have hfz69_1 := blk_frozen BK127.out 1; have hfz69_2 := blk_frozen BK127.out 2; have hfz69_3 := blk_frozen BK127.out 3; have hfz69_4 := blk_frozen BK127.out 4) | (go_at_call 13; (with_reducible refine (levylaw4_num.calls t136 t139 _ A56.out).mono ?_); rintro e w' ⟨rfl, ⟨nd, rfl⟩⟩; (try first | exact ⟨rfl, _, World.drewN_drewN _ _ _⟩ | exact ⟨rfl, _, Eq.trans (World.drewN_drewN _ _ _) (congrArg (World.drewN _) (Nat.add_assoc _ _ _))⟩); obtain ⟨Ao70, co70, eo70⟩ := Kd.R_slice HO138.out; subst eo70; have p140 : 0 ≤ (0 : Int) := (by omega); have q140 : 0 < (t134.length : Int) := of_decide_eq_true (by first | (with_reducible assumption) | assumption); obtain ⟨ad140, e140, hx140_0, hx140_1, hx140_2, hx140_3, hx140_4⟩ := at_T33 (Kd.R_reads' HO138.out).2.2 0 p140 q140; cases e140; have qi140 : (0 < t134.length) = True := eq_true (by omega); (try rw [show ((0 : Int)).toNat = 0 from rfl] at hx140_0); (try rw [show 0 * 5 = 0 from rfl] at hx140_0); (try rw [Addr.add_zero'] at hx140_0); (try rw [show ((0 : Int)).toNat = 0 from rfl] at hx140_1); (try rw [show 0 * 5 = 0 from rfl] at hx140_1); (try rw [Addr.add_zero'] at hx140_1); (try rw [show ((0 : Int)).toNat = 0 from rfl] at hx140_2); (try rw [show 0 * 5 = 0 from rfl] at hx140_2); (try rw [Addr.add_zero'] at hx140_2); (try rw [show ((0 : Int)).toNat = 0 from rfl] at hx140_3); (try rw [show 0 * 5 = 0 from rfl] at hx140_3); (try rw [Addr.add_zero'] at hx140_3); (try rw [show ((0 : Int)).toNat = 0 from rfl] at hx140_4); (try rw [show 0 * 5 = 0 from rfl] at hx140_4); (try rw [Addr.add_zero'] at hx140_4); have hn140_0 : ad140.block ≠ gb127 := Kd.own_blk (Kd.R_away HO138.out (fun _ hk => hk.2)); have hs140_0 := hx140_0; have hs140_1 := hx140_1; have hs140_2 := hx140_2; have hs140_3 := hx140_3; have hs140_4 := hx140_4; replace hx140_0 := (cell_far (p := ⟨gb127, 1, none⟩) (by first | (rw [add_block]; exact hn140_0) | (show (Addr.add _ _).block ≠ _; rw [add_block]; exact hn140_0) | exact hn140_0) (.int .i64 0)).trans hx140_0; replace hx140_1 := (cell_far (p := ⟨gb127, 1, none⟩) (by first | (rw [add_block]; exact hn140_0) | (show (Addr.add _ _).block ≠ _; rw [add_block]; exact hn140_0) | exact hn140_0) (.int .i64 0)).trans hx140_1; replace hx140_2 := (cell_far (p := ⟨gb127, 1, none⟩) (by first | (rw [add_block]; exact hn140_0) | (show (Addr.add _ _).block ≠ _; rw [add_block]; exact hn140_0) | exact hn140_0) (.int .i64 0)).trans hx140_2; replace hx140_3 := (cell_far (p := ⟨gb127, 1, none⟩) (by first | (rw [add_block]; exact hn140_0) | (show (Addr.add _ _).block ≠ _; rw [add_block]; exact hn140_0) | exact hn140_0) (.int .i64 0)).trans hx140_3; replace hx140_4 := (cell_far (p := ⟨gb127, 1, none⟩) (by first | (rw [add_block]; exact hn140_0) | (show (Addr.add _ _).block ≠ _; rw [add_block]; exact hn140_0) | exact hn140_0) (.int .i64 0)).trans hx140_4; (try have hy140_0 := fun (n_ : Nat) => ((cell_far (p := ⟨gb127, 1, none⟩) (by exact hn140_0) (.int .i64 0)).trans (show (w68.drewN n_).cell? _ = some _ from hs140_0))); (try have hy140_1 := fun (n_ : Nat) => ((cell_far (p := ⟨gb127, 1, none⟩) (by exact hn140_0) (.int .i64 0)).trans (show (w68.drewN n_).cell? _ = some _ from hs140_1))); (try have hy140_2 := fun (n_ : Nat) => ((cell_far (p := ⟨gb127, 1, none⟩) (by exact hn140_0) (.int .i64 0)).trans (show (w68.drewN n_).cell? _ = some _ from hs140_2))); (try have hy140_3 := fun (n_ : Nat) => ((cell_far (p := ⟨gb127, 1, none⟩) (by exact hn140_0) (.int .i64 0)).trans (show (w68.drewN n_).cell? _ = some _ from hs140_3))); (try have hy140_4 := fun (n_ : Nat) => ((cell_far (p := ⟨gb127, 1, none⟩) (by exact hn140_0) (.int .i64 0)).trans (show (w68.drewN n_).cell? _ = some _ from hs140_4))); clear hs140_0; clear hs140_1; clear hs140_2; clear hs140_3; clear hs140_4; clear hn140_0; replace p140 := eq_true p140; replace q140 := eq_true q140; have p141 : 0 ≤ (1 : Int) := (by omega); have q141 : 1 < (t134.length : Int) := of_decide_eq_true (by first | (with_reducible assumption) | assumption); obtain ⟨ad141, e141, hx141_0, hx141_1, hx141_2, hx141_3, hx141_4⟩ := at_T33 (Kd.R_reads' HO138.out).2.2 1 p141 q141; obtain rfl : ad140 = ad141 := (by injection e141); (try simp only [show (1 : Int).toNat = 1 from rfl, Nat.reduceMul, Nat.reduceEqDiff, Go.Addr.add, ↓reduceIte] at hx141_0); (try simp only [show (1 : Int).toNat = 1 from rfl, Nat.reduceMul, Nat.reduceEqDiff, Go.Addr.add, ↓reduceIte] at hx141_1); (try simp only [show (1 : Int).toNat = 1 from rfl, Nat.reduceMul, Nat.reduceEqDiff, Go.Addr.add, ↓reduceIte] at hx141_2); (try simp only [show (1 : Int).toNat = 1 from rfl, Nat.reduceMul, Nat.reduceEqDiff, Go.Addr.add, ↓reduceIte] at hx141_3); (try simp only [show (1 : Int).toNat = 1 from rfl, Nat.reduceMul, Nat.reduceEqDiff, Go.Addr.add, ↓reduceIte] at hx141_4); have qi141 : (1 < t134.length) = True := eq_true (by omega); (try rw [show ((1 : Int)).toNat = 1 from rfl] at hx141_0); (try rw [show 1 * 5 = 5 from rfl] at hx141_0); (try rw [show ((1 : Int)).toNat = 1 from rfl] at hx141_1); (try rw [show 1 * 5 = 5 from rfl] at hx141_1); (try rw [show ((1 : Int)).toNat = 1 from rfl] at hx141_2); (try rw [show 1 * 5 = 5 from rfl] at hx141_2); (try rw [show ((1 : Int)).toNat = 1 from rfl] at hx141_3); (try rw [show 1 * 5 = 5 from rfl] at hx141_3); (try rw [show ((1 : Int)).toNat = 1 from rfl] at hx141_4); (try rw [show 1 * 5 = 5 from rfl] at hx141_4); have hn141_0 : ad140.block ≠ gb127 := Kd.own_blk (Kd.R_away HO138.out (fun _ hk => hk.2)); have hs141_0 := hx141_0; have hs141_1 := hx141_1; have hs141_2 := hx141_2; have hs141_3 := hx141_3; have hs141_4 := hx141_4; replace hx141_0 := (cell_far (p := ⟨gb127, 1, none⟩) (by first | (rw [add_block]; exact hn141_0) | (show (Addr.add _ _).block ≠ _; rw [add_block]; exact hn141_0) | exact hn141_0) (.int .i64 0)).trans hx141_0; replace hx141_1 := (cell_far (p := ⟨gb127, 1, none⟩) (by first | (rw [add_block]; exact hn141_0) | (show (Addr.add _ _).block ≠ _; rw [add_block]; exact hn141_0) | exact hn141_0) (.int .i64 0)).trans hx141_1; replace hx141_2 := (cell_far (p := ⟨gb127, 1, none⟩) (by first | (rw [add_block]; exact hn141_0) | (show (Addr.add _ _).block ≠ _; rw [add_block]; exact hn141_0) | exact hn141_0) (.int .i64 0)).trans hx141_2; replace hx141_3 := (cell_far (p := ⟨gb127, 1, none⟩) (by first | (rw [add_block]; exact hn141_0) | (show (Addr.add _ _).block ≠ _; rw [add_block]; exact hn141_0) | exact hn141_0) (.int .i64 0)).trans hx141_3; replace hx141_4 := (cell_far (p := ⟨gb127, 1, none⟩) (by first | (rw [add_block]; exact hn141_0) | (show (Addr.add _ _).block ≠ _; rw [add_block]; exact hn141_0) | exact hn141_0) (.int .i64 0)).trans hx141_4; (try have hy141_0 := fun (n_ : Nat) => ((cell_far (p := ⟨gb127, 1, none⟩) (by exact hn141_0) (.int .i64 0)).trans (show (w68.drewN n_).cell? _ = some _ from hs141_0))); (try have hy141_1 := fun (n_ : Nat) => ((cell_far (p := ⟨gb127, 1, none⟩) (by exact hn141_0) (.int .i64 0)).trans (show (w68.drewN n_).cell? _ = some _ from hs141_1))); (try have hy141_2 := fun (n_ : Nat) => ((cell_far (p := ⟨gb127, 1, none⟩) (by exact hn141_0) (.int .i64 0)).trans (show (w68.drewN n_).cell? _ = some _ from hs141_2))); (try have hy141_3 := fun (n_ : Nat) => ((cell_far (p := ⟨gb127, 1, none⟩) (by exact hn141_0) (.int .i64 0)).trans (show (w68.drewN n_).cell? _ = some _ from hs141_3))); (try have hy141_4 := fun (n_ : Nat) => ((cell_far (p := ⟨gb127, 1, none⟩) (by exact hn141_0) (.int .i64 0)).trans (show (w68.drewN n_).cell? _ = some _ from hs141_4))); clear hs141_0; clear hs141_1; clear hs141_2; clear hs141_3; clear hs141_4; clear hn141_0; replace p141 := eq_true p141; replace q141 := eq_true q141))
                                                    repeat (go_quiet (first | (go_at_call 11; (with_reducible refine (words_Scan.calls (a0.extract (((rd_T33 t120 x6_1).f1) : Int).toNat (((rd_T33 t120 (ji49)).f1) : Int).toNat) t134 t135 t136 _ ?side1 A55.out).mono ?_); (case side1 => first | (with_reducible exact HT.out) | (with_reducible exact HT.out.below HB.out) | (with_reducible refine Tabs.below HT.out ?_; repeat (first | (with_reducible first | exact HB.out | apply below_alloc | apply pw_below_drewN | apply below_drew1 | refine below_set ?_ GE127.out) | exact HB.out))); rintro e w68 ⟨v137, rfl, ho0, hb⟩; have n0_ := Aside0.mk (Kd.R_elder' (by (with_reducible repeat (first | apply Kd.R_alloc | apply Kd.R_drewN | apply Kd.R_drew)); exact HO_3.out) (Kd.R_base ho0) hb); have n1_ := Aside0.mk (Kd.R_lower (Kd.R_newB (Kd.R_new' ho0 (Kd.R_lt (by (with_reducible repeat (first | apply Kd.R_alloc | apply Kd.R_drewN | apply Kd.R_drew)); exact HO_3.out))) (g := gb127) (o := .cells #[.int .i64 ((rd_T33 t120 x6_1).f0), .int .i64 ((rd_T33 t120 x6_1).f1), .string ((rd_T33 t120 x6_1).f2), .int .i64 ((rd_T33 t120 x6_1).f3), .int .i64 ((rd_T33 t120 x6_1).f4)] 33 (0, 0)) (by (with_reducible repeat (first | refine blk_drewN ?_ _ | refine blk_drew ?_ | refine blk_alloc ?_ _)); exact BK127.out)) (below_size (by repeat (first | (with_reducible first | exact HB.out | apply below_alloc | apply pw_below_drewN | apply below_drew1 | refine below_set ?_ GE127.out) | exact HB.out)))); have n2_ := Aside0.mk (blk_below (g := gb127) (o := .cells #[.int .i64 ((rd_T33 t120 x6_1).f0), .int .i64 ((rd_T33 t120 x6_1).f1), .string ((rd_T33 t120 x6_1).f2), .int .i64 ((rd_T33 t120 x6_1).f3), .int .i64 ((rd_T33 t120 x6_1).f4)] 33 (0, 0)) (by (with_reducible repeat (first | refine blk_drewN ?_ _ | refine blk_drew ?_ | refine blk_alloc ?_ _)); exact BK127.out) hb); have n3_ := Aside0.mk (below_step (by repeat (first | (with_reducible first | exact HB.out | apply below_alloc | apply pw_below_drewN | apply below_drew1 | refine below_set ?_ GE127.out) | exact HB.out)) hb); clear HO_3; clear BK127; clear HB; have HO_3 := n0_; have HO138 := n1_; have BK127 := n2_; have HB := n3_; clear n0_ n1_ n2_ n3_; (try clear hb); (try clear hb2); (try clear hk); (try clear hi); (try clear ho0); have hcz69_0 : w68.cell? ⟨gb127, 0, none⟩ = some (.int .i64 ((rd_T33 t120 x6_1).f0)) := (blk_cell BK127.out 0).trans rfl; have hcz69_1 : w68.cell? ⟨gb127, 1, none⟩ = some (.int .i64 ((rd_T33 t120 x6_1).f1)) := (blk_cell BK127.out 1).trans rfl; have hcz69_2 : w68.cell? ⟨gb127, 2, none⟩ = some (.string ((rd_T33 t120 x6_1).f2)) := (blk_cell BK127.out 2).trans rfl; have hcz69_3 : w68.cell? ⟨gb127, 3, none⟩ = some (.int .i64 ((rd_T33 t120 x6_1).f3)) := (blk_cell BK127.out 3).trans rfl; have hcz69_4 : w68.cell? ⟨gb127, 4, none⟩ = some (.int .i64 ((rd_T33 t120 x6_1).f4)) := (blk_cell BK127.out 4).trans rfl; have hfz69_0 := blk_frozen BK127.out 0; have hfz69_1 := blk_frozen BK127.out 1; have hfz69_2 := blk_frozen BK127.out 2; have hfz69_3 := blk_frozen BK127.out 3; have hfz69_4 := blk_frozen BK127.out 4) | (go_at_call 13; (with_reducible refine (levylaw4_num.calls t136 t139 _ A56.out).mono ?_); rintro e w' ⟨rfl, ⟨nd, rfl⟩⟩; (try first | exact ⟨rfl, _, World.drewN_drewN _ _ _⟩ | exact ⟨rfl, _, Eq.trans (World.drewN_drewN _ _ _) (congrArg (World.drewN _) (Nat.add_assoc _ _ _))⟩); obtain ⟨Ao70, co70, eo70⟩ := Kd.R_slice HO138.out; subst eo70; have p140 : 0 ≤ (0 : Int) := (by omega); have q140 : 0 < (t134.length : Int) := of_decide_eq_true (by first | (with_reducible assumption) | assumption); obtain ⟨ad140, e140, hx140_0, hx140_1, hx140_2, hx140_3, hx140_4⟩ := at_T33 (Kd.R_reads' HO138.out).2.2 0 p140 q140; cases e140; have qi140 : (0 < t134.length) = True := eq_true (by omega); (try rw [show ((0 : Int)).toNat = 0 from rfl] at hx140_0); (try rw [show 0 * 5 = 0 from rfl] at hx140_0); (try rw [Addr.add_zero'] at hx140_0); (try rw [show ((0 : Int)).toNat = 0 from rfl] at hx140_1); (try rw [show 0 * 5 = 0 from rfl] at hx140_1); (try rw [Addr.add_zero'] at hx140_1); (try rw [show ((0 : Int)).toNat = 0 from rfl] at hx140_2); (try rw [show 0 * 5 = 0 from rfl] at hx140_2); (try rw [Addr.add_zero'] at hx140_2); (try rw [show ((0 : Int)).toNat = 0 from rfl] at hx140_3); (try rw [show 0 * 5 = 0 from rfl] at hx140_3); (try rw [Addr.add_zero'] at hx140_3); (try rw [show ((0 : Int)).toNat = 0 from rfl] at hx140_4); (try rw [show 0 * 5 = 0 from rfl] at hx140_4); (try rw [Addr.add_zero'] at hx140_4); have hn140_0 : ad140.block ≠ gb127 := Kd.own_blk (Kd.R_away HO138.out (fun _ hk => hk.2)); have hs140_0 := hx140_0; have hs140_1 := hx140_1; have hs140_2 := hx140_2; have hs140_3 := hx140_3; have hs140_4 := hx140_4; replace hx140_0 := (cell_far (p := ⟨gb127, 1, none⟩) (by first | (rw [add_block]; exact hn140_0) | (show (Addr.add _ _).block ≠ _; rw [add_block]; exact hn140_0) | exact hn140_0) (.int .i64 0)).trans hx140_0; replace hx140_1 := (cell_far (p := ⟨gb127, 1, none⟩) (by first | (rw [add_block]; exact hn140_0) | (show (Addr.add _ _).block ≠ _; rw [add_block]; exact hn140_0) | exact hn140_0) (.int .i64 0)).trans hx140_1; replace hx140_2 := (cell_far (p := ⟨gb127, 1, none⟩) (by first | (rw [add_block]; exact hn140_0) | (show (Addr.add _ _).block ≠ _; rw [add_block]; exact hn140_0) | exact hn140_0) (.int .i64 0)).trans hx140_2; replace hx140_3 := (cell_far (p := ⟨gb127, 1, none⟩) (by first | (rw [add_block]; exact hn140_0) | (show (Addr.add _ _).block ≠ _; rw [add_block]; exact hn140_0) | exact hn140_0) (.int .i64 0)).trans hx140_3; replace hx140_4 := (cell_far (p := ⟨gb127, 1, none⟩) (by first | (rw [add_block]; exact hn140_0) | (show (Addr.add _ _).block ≠ _; rw [add_block]; exact hn140_0) | exact hn140_0) (.int .i64 0)).trans hx140_4; (try have hy140_0 := fun (n_ : Nat) => ((cell_far (p := ⟨gb127, 1, none⟩) (by exact hn140_0) (.int .i64 0)).trans (show (w68.drewN n_).cell? _ = some _ from hs140_0))); (try have hy140_1 := fun (n_ : Nat) => ((cell_far (p := ⟨gb127, 1, none⟩) (by exact hn140_0) (.int .i64 0)).trans (show (w68.drewN n_).cell? _ = some _ from hs140_1))); (try have hy140_2 := fun (n_ : Nat) => ((cell_far (p := ⟨gb127, 1, none⟩) (by exact hn140_0) (.int .i64 0)).trans (show (w68.drewN n_).cell? _ = some _ from hs140_2))); (try have hy140_3 := fun (n_ : Nat) => ((cell_far (p := ⟨gb127, 1, none⟩) (by exact hn140_0) (.int .i64 0)).trans (show (w68.drewN n_).cell? _ = some _ from hs140_3))); (try have hy140_4 := fun (n_ : Nat) => ((cell_far (p := ⟨gb127, 1, none⟩) (by exact hn140_0) (.int .i64 0)).trans (show (w68.drewN n_).cell? _ = some _ from hs140_4))); clear hs140_0; clear hs140_1; clear hs140_2; clear hs140_3; clear hs140_4; clear hn140_0; replace p140 := eq_true p140; replace q140 := eq_true q140; have p141 : 0 ≤ (1 : Int) := (by omega); have q141 : 1 < (t134.length : Int) := of_decide_eq_true (by first | (with_reducible assumption) | assumption); obtain ⟨ad141, e141, hx141_0, hx141_1, hx141_2, hx141_3, hx141_4⟩ := at_T33 (Kd.R_reads' HO138.out).2.2 1 p141 q141; obtain rfl : ad140 = ad141 := (by injection e141); (try simp only [show (1 : Int).toNat = 1 from rfl, Nat.reduceMul, Nat.reduceEqDiff, Go.Addr.add, ↓reduceIte] at hx141_0); (try simp only [show (1 : Int).toNat = 1 from rfl, Nat.reduceMul, Nat.reduceEqDiff, Go.Addr.add, ↓reduceIte] at hx141_1); (try simp only [show (1 : Int).toNat = 1 from rfl, Nat.reduceMul, Nat.reduceEqDiff, Go.Addr.add, ↓reduceIte] at hx141_2); (try simp only [show (1 : Int).toNat = 1 from rfl, Nat.reduceMul, Nat.reduceEqDiff, Go.Addr.add, ↓reduceIte] at hx141_3); (try simp only [show (1 : Int).toNat = 1 from rfl, Nat.reduceMul, Nat.reduceEqDiff, Go.Addr.add, ↓reduceIte] at hx141_4); have qi141 : (1 < t134.length) = True := eq_true (by omega); (try rw [show ((1 : Int)).toNat = 1 from rfl] at hx141_0); (try rw [show 1 * 5 = 5 from rfl] at hx141_0); (try rw [show ((1 : Int)).toNat = 1 from rfl] at hx141_1); (try rw [show 1 * 5 = 5 from rfl] at hx141_1); (try rw [show ((1 : Int)).toNat = 1 from rfl] at hx141_2); (try rw [show 1 * 5 = 5 from rfl] at hx141_2); (try rw [show ((1 : Int)).toNat = 1 from rfl] at hx141_3); (try rw [show 1 * 5 = 5 from rfl] at hx141_3); (try rw [show ((1 : Int)).toNat = 1 from rfl] at hx141_4); (try rw [show 1 * 5 = 5 from rfl] at hx141_4); have hn141_0 : ad140.block ≠ gb127 := Kd.own_blk (Kd.R_away HO138.out (fun _ hk => hk.2)); have hs141_0 := hx141_0; have hs141_1 := hx141_1; have hs141_2 := hx141_2; have hs141_3 := hx141_3; have hs141_4 := hx141_4; replace hx141_0 := (cell_far (p := ⟨gb127, 1, none⟩) (by first | (rw [add_block]; exact hn141_0) | (show (Addr.add _ _).block ≠ _; rw [add_block]; exact hn141_0) | exact hn141_0) (.int .i64 0)).trans hx141_0; replace hx141_1 := (cell_far (p := ⟨gb127, 1, none⟩) (by first | (rw [add_block]; exact hn141_0) | (show (Addr.add _ _).block ≠ _; rw [add_block]; exact hn141_0) | exact hn141_0) (.int .i64 0)).trans hx141_1; replace hx141_2 := (cell_far (p := ⟨gb127, 1, none⟩) (by first | (rw [add_block]; exact hn141_0) | (show (Addr.add _ _).block ≠ _; rw [add_block]; exact hn141_0) | exact hn141_0) (.int .i64 0)).trans hx141_2; replace hx141_3 := (cell_far (p := ⟨gb127, 1, none⟩) (by first | (rw [add_block]; exact hn141_0) | (show (Addr.add _ _).block ≠ _; rw [add_block]; exact hn141_0) | exact hn141_0) (.int .i64 0)).trans hx141_3; replace hx141_4 := (cell_far (p := ⟨gb127, 1, none⟩) (by first | (rw [add_block]; exact hn141_0) | (show (Addr.add _ _).block ≠ _; rw [add_block]; exact hn141_0) | exact hn141_0) (.int .i64 0)).trans hx141_4; (try have hy141_0 := fun (n_ : Nat) => ((cell_far (p := ⟨gb127, 1, none⟩) (by exact hn141_0) (.int .i64 0)).trans (show (w68.drewN n_).cell? _ = some _ from hs141_0))); (try have hy141_1 := fun (n_ : Nat) => ((cell_far (p := ⟨gb127, 1, none⟩) (by exact hn141_0) (.int .i64 0)).trans (show (w68.drewN n_).cell? _ = some _ from hs141_1))); (try have hy141_2 := fun (n_ : Nat) => ((cell_far (p := ⟨gb127, 1, none⟩) (by exact hn141_0) (.int .i64 0)).trans (show (w68.drewN n_).cell? _ = some _ from hs141_2))); (try have hy141_3 := fun (n_ : Nat) => ((cell_far (p := ⟨gb127, 1, none⟩) (by exact hn141_0) (.int .i64 0)).trans (show (w68.drewN n_).cell? _ = some _ from hs141_3))); (try have hy141_4 := fun (n_ : Nat) => ((cell_far (p := ⟨gb127, 1, none⟩) (by exact hn141_0) (.int .i64 0)).trans (show (w68.drewN n_).cell? _ = some _ from hs141_4))); clear hs141_0; clear hs141_1; clear hs141_2; clear hs141_3; clear hs141_4; clear hn141_0; replace p141 := eq_true p141; replace q141 := eq_true q141)); try go_wp2_with (first | (go_at_call 11; (with_reducible refine (words_Scan.calls (a0.extract (((rd_T33 t120 x6_1).f1) : Int).toNat (((rd_T33 t120 (ji49)).f1) : Int).toNat) t134 t135 t136 _ ?side1 A55.out).mono ?_); (case side1 => first | (with_reducible exact HT.out) | (with_reducible exact HT.out.below HB.out) | (with_reducible refine Tabs.below HT.out ?_; repeat (first | (with_reducible first | exact HB.out | apply below_alloc | apply pw_below_drewN | apply below_drew1 | refine below_set ?_ GE127.out) | exact HB.out))); rintro e w68 ⟨v137, rfl, ho0, hb⟩; have n0_ := Aside0.mk (Kd.R_elder' (by (with_reducible repeat (first | apply Kd.R_alloc | apply Kd.R_drewN | apply Kd.R_drew)); exact HO_3.out) (Kd.R_base ho0) hb); have n1_ := Aside0.mk (Kd.R_lower (Kd.R_newB (Kd.R_new' ho0 (Kd.R_lt (by (with_reducible repeat (first | apply Kd.R_alloc | apply Kd.R_drewN | apply Kd.R_drew)); exact HO_3.out))) (g := gb127) (o := .cells #[.int .i64 ((rd_T33 t120 x6_1).f0), .int .i64 ((rd_T33 t120 x6_1).f1), .string ((rd_T33 t120 x6_1).f2), .int .i64 ((rd_T33 t120 x6_1).f3), .int .i64 ((rd_T33 t120 x6_1).f4)] 33 (0, 0)) (by (with_reducible repeat (first | refine blk_drewN ?_ _ | refine blk_drew ?_ | refine blk_alloc ?_ _)); exact BK127.out)) (below_size (by repeat (first | (with_reducible first | exact HB.out | apply below_alloc | apply pw_below_drewN | apply below_drew1 | refine below_set ?_ GE127.out) | exact HB.out)))); have n2_ := Aside0.mk (blk_below (g := gb127) (o := .cells #[.int .i64 ((rd_T33 t120 x6_1).f0), .int .i64 ((rd_T33 t120 x6_1).f1), .string ((rd_T33 t120 x6_1).f2), .int .i64 ((rd_T33 t120 x6_1).f3), .int .i64 ((rd_T33 t120 x6_1).f4)] 33 (0, 0)) (by (with_reducible repeat (first | refine blk_drewN ?_ _ | refine blk_drew ?_ | refine blk_alloc ?_ _)); exact BK127.out) hb); have n3_ := Aside0.mk (below_step (by repeat (first | (with_reducible first | exact HB.out | apply below_alloc | apply pw_below_drewN | apply below_drew1 | refine below_set ?_ GE127.out) | exact HB.out)) hb); clear HO_3; clear BK127; clear HB; have HO_3 := n0_; have HO138 := n1_; have BK127 := n2_; have HB := n3_; clear n0_ n1_ n2_ n3_; (try clear hb); (try clear hb2); (try clear hk); (try clear hi); (try clear ho0); have hcz69_0 : w68.cell? ⟨gb127, 0, none⟩ = some (.int .i64 ((rd_T33 t120 x6_1).f0)) := (blk_cell BK127.out 0).trans rfl; have hcz69_1 : w68.cell? ⟨gb127, 1, none⟩ = some (.int .i64 ((rd_T33 t120 x6_1).f1)) := (blk_cell BK127.out 1).trans rfl; have hcz69_2 : w68.cell? ⟨gb127, 2, none⟩ = some (.string ((rd_T33 t120 x6_1).f2)) := (blk_cell BK127.out 2).trans rfl; have hcz69_3 : w68.cell? ⟨gb127, 3, none⟩ = some (.int .i64 ((rd_T33 t120 x6_1).f3)) := (blk_cell BK127.out 3).trans rfl; have hcz69_4 : w68.cell? ⟨gb127, 4, none⟩ = some (.int .i64 ((rd_T33 t120 x6_1).f4)) := (blk_cell BK127.out 4).trans rfl; have hfz69_0 := blk_frozen BK127.out 0; have hfz69_1 := blk_frozen BK127.out 1; have hfz69_2 := blk_frozen BK127.out 2; have hfz69_3 := blk_frozen BK127.out 3; have hfz69_4 := blk_frozen BK127.out 4) | (go_at_call 13; (with_reducible refine (levylaw4_num.calls t136 t139 _ A56.out).mono ?_); rintro e w' ⟨rfl, ⟨nd, rfl⟩⟩; (try first | exact ⟨rfl, _, World.drewN_drewN _ _ _⟩ | exact ⟨rfl, _, Eq.trans (World.drewN_drewN _ _ _) (congrArg (World.drewN _) (Nat.add_assoc _ _ _))⟩); obtain ⟨Ao70, co70, eo70⟩ := Kd.R_slice HO138.out; subst eo70; have p140 : 0 ≤ (0 : Int) := (by omega); have q140 : 0 < (t134.length : Int) := of_decide_eq_true (by first | (with_reducible assumption) | assumption); obtain ⟨ad140, e140, hx140_0, hx140_1, hx140_2, hx140_3, hx140_4⟩ := at_T33 (Kd.R_reads' HO138.out).2.2 0 p140 q140; cases e140; have qi140 : (0 < t134.length) = True := eq_true (by omega); (try rw [show ((0 : Int)).toNat = 0 from rfl] at hx140_0); (try rw [show 0 * 5 = 0 from rfl] at hx140_0); (try rw [Addr.add_zero'] at hx140_0); (try rw [show ((0 : Int)).toNat = 0 from rfl] at hx140_1); (try rw [show 0 * 5 = 0 from rfl] at hx140_1); (try rw [Addr.add_zero'] at hx140_1); (try rw [show ((0 : Int)).toNat = 0 from rfl] at hx140_2); (try rw [show 0 * 5 = 0 from rfl] at hx140_2); (try rw [Addr.add_zero'] at hx140_2); (try rw [show ((0 : Int)).toNat = 0 from rfl] at hx140_3); (try rw [show 0 * 5 = 0 from rfl] at hx140_3); (try rw [Addr.add_zero'] at hx140_3); (try rw [show ((0 : Int)).toNat = 0 from rfl] at hx140_4); (try rw [show 0 * 5 = 0 from rfl] at hx140_4); (try rw [Addr.add_zero'] at hx140_4); have hn140_0 : ad140.block ≠ gb127 := Kd.own_blk (Kd.R_away HO138.out (fun _ hk => hk.2)); have hs140_0 := hx140_0; have hs140_1 := hx140_1; have hs140_2 := hx140_2; have hs140_3 := hx140_3; have hs140_4 := hx140_4; replace hx140_0 := (cell_far (p := ⟨gb127, 1, none⟩) (by first | (rw [add_block]; exact hn140_0) | (show (Addr.add _ _).block ≠ _; rw [add_block]; exact hn140_0) | exact hn140_0) (.int .i64 0)).trans hx140_0; replace hx140_1 := (cell_far (p := ⟨gb127, 1, none⟩) (by first | (rw [add_block]; exact hn140_0) | (show (Addr.add _ _).block ≠ _; rw [add_block]; exact hn140_0) | exact hn140_0) (.int .i64 0)).trans hx140_1; replace hx140_2 := (cell_far (p := ⟨gb127, 1, none⟩) (by first | (rw [add_block]; exact hn140_0) | (show (Addr.add _ _).block ≠ _; rw [add_block]; exact hn140_0) | exact hn140_0) (.int .i64 0)).trans hx140_2; replace hx140_3 := (cell_far (p := ⟨gb127, 1, none⟩) (by first | (rw [add_block]; exact hn140_0) | (show (Addr.add _ _).block ≠ _; rw [add_block]; exact hn140_0) | exact hn140_0) (.int .i64 0)).trans hx140_3; replace hx140_4 := (cell_far (p := ⟨gb127, 1, none⟩) (by first | (rw [add_block]; exact hn140_0) | (show (Addr.add _ _).block ≠ _; rw [add_block]; exact hn140_0) | exact hn140_0) (.int .i64 0)).trans hx140_4; (try have hy140_0 := fun (n_ : Nat) => ((cell_far (p := ⟨gb127, 1, none⟩) (by exact hn140_0) (.int .i64 0)).trans (show (w68.drewN n_).cell? _ = some _ from hs140_0))); (try have hy140_1 := fun (n_ : Nat) => ((cell_far (p := ⟨gb127, 1, none⟩) (by exact hn140_0) (.int .i64 0)).trans (show (w68.drewN n_).cell? _ = some _ from hs140_1))); (try have hy140_2 := fun (n_ : Nat) => ((cell_far (p := ⟨gb127, 1, none⟩) (by exact hn140_0) (.int .i64 0)).trans (show (w68.drewN n_).cell? _ = some _ from hs140_2))); (try have hy140_3 := fun (n_ : Nat) => ((cell_far (p := ⟨gb127, 1, none⟩) (by exact hn140_0) (.int .i64 0)).trans (show (w68.drewN n_).cell? _ = some _ from hs140_3))); (try have hy140_4 := fun (n_ : Nat) => ((cell_far (p := ⟨gb127, 1, none⟩) (by exact hn140_0) (.int .i64 0)).trans (show (w68.drewN n_).cell? _ = some _ from hs140_4))); clear hs140_0; clear hs140_1; clear hs140_2; clear hs140_3; clear hs140_4; clear hn140_0; replace p140 := eq_true p140; replace q140 := eq_true q140; have p141 : 0 ≤ (1 : Int) := (by omega); have q141 : 1 < (t134.length : Int) := of_decide_eq_true (by first | (with_reducible assumption) | assumption); obtain ⟨ad141, e141, hx141_0, hx141_1, hx141_2, hx141_3, hx141_4⟩ := at_T33 (Kd.R_reads' HO138.out).2.2 1 p141 q141; obtain rfl : ad140 = ad141 := (by injection e141); (try simp only [show (1 : Int).toNat = 1 from rfl, Nat.reduceMul, Nat.reduceEqDiff, Go.Addr.add, ↓reduceIte] at hx141_0); (try simp only [show (1 : Int).toNat = 1 from rfl, Nat.reduceMul, Nat.reduceEqDiff, Go.Addr.add, ↓reduceIte] at hx141_1); (try simp only [show (1 : Int).toNat = 1 from rfl, Nat.reduceMul, Nat.reduceEqDiff, Go.Addr.add, ↓reduceIte] at hx141_2); (try simp only [show (1 : Int).toNat = 1 from rfl, Nat.reduceMul, Nat.reduceEqDiff, Go.Addr.add, ↓reduceIte] at hx141_3); (try simp only [show (1 : Int).toNat = 1 from rfl, Nat.reduceMul, Nat.reduceEqDiff, Go.Addr.add, ↓reduceIte] at hx141_4); have qi141 : (1 < t134.length) = True := eq_true (by omega); (try rw [show ((1 : Int)).toNat = 1 from rfl] at hx141_0); (try rw [show 1 * 5 = 5 from rfl] at hx141_0); (try rw [show ((1 : Int)).toNat = 1 from rfl] at hx141_1); (try rw [show 1 * 5 = 5 from rfl] at hx141_1); (try rw [show ((1 : Int)).toNat = 1 from rfl] at hx141_2); (try rw [show 1 * 5 = 5 from rfl] at hx141_2); (try rw [show ((1 : Int)).toNat = 1 from rfl] at hx141_3); (try rw [show 1 * 5 = 5 from rfl] at hx141_3); (try rw [show ((1 : Int)).toNat = 1 from rfl] at hx141_4); (try rw [show 1 * 5 = 5 from rfl] at hx141_4); have hn141_0 : ad140.block ≠ gb127 := Kd.own_blk (Kd.R_away HO138.out (fun _ hk => hk.2)); have hs141_0 := hx141_0; have hs141_1 := hx141_1; have hs141_2 := hx141_2; have hs141_3 := hx141_3; have hs141_4 := hx141_4; replace hx141_0 := (cell_far (p := ⟨gb127, 1, none⟩) (by first | (rw [add_block]; exact hn141_0) | (show (Addr.add _ _).block ≠ _; rw [add_block]; exact hn141_0) | exact hn141_0) (.int .i64 0)).trans hx141_0; replace hx141_1 := (cell_far (p := ⟨gb127, 1, none⟩) (by first | (rw [add_block]; exact hn141_0) | (show (Addr.add _ _).block ≠ _; rw [add_block]; exact hn141_0) | exact hn141_0) (.int .i64 0)).trans hx141_1; replace hx141_2 := (cell_far (p := ⟨gb127, 1, none⟩) (by first | (rw [add_block]; exact hn141_0) | (show (Addr.add _ _).block ≠ _; rw [add_block]; exact hn141_0) | exact hn141_0) (.int .i64 0)).trans hx141_2; replace hx141_3 := (cell_far (p := ⟨gb127, 1, none⟩) (by first | (rw [add_block]; exact hn141_0) | (show (Addr.add _ _).block ≠ _; rw [add_block]; exact hn141_0) | exact hn141_0) (.int .i64 0)).trans hx141_3; replace hx141_4 := (cell_far (p := ⟨gb127, 1, none⟩) (by first | (rw [add_block]; exact hn141_0) | (show (Addr.add _ _).block ≠ _; rw [add_block]; exact hn141_0) | exact hn141_0) (.int .i64 0)).trans hx141_4; (try have hy141_0 := fun (n_ : Nat) => ((cell_far (p := ⟨gb127, 1, none⟩) (by exact hn141_0) (.int .i64 0)).trans (show (w68.drewN n_).cell? _ = some _ from hs141_0))); (try have hy141_1 := fun (n_ : Nat) => ((cell_far (p := ⟨gb127, 1, none⟩) (by exact hn141_0) (.int .i64 0)).trans (show (w68.drewN n_).cell? _ = some _ from hs141_1))); (try have hy141_2 := fun (n_ : Nat) => ((cell_far (p := ⟨gb127, 1, none⟩) (by exact hn141_0) (.int .i64 0)).trans (show (w68.drewN n_).cell? _ = some _ from hs141_2))); (try have hy141_3 := fun (n_ : Nat) => ((cell_far (p := ⟨gb127, 1, none⟩) (by exact hn141_0) (.int .i64 0)).trans (show (w68.drewN n_).cell? _ = some _ from hs141_3))); (try have hy141_4 := fun (n_ : Nat) => ((cell_far (p := ⟨gb127, 1, none⟩) (by exact hn141_0) (.int .i64 0)).trans (show (w68.drewN n_).cell? _ = some _ from hs141_4))); clear hs141_0; clear hs141_1; clear hs141_2; clear hs141_3; clear hs141_4; clear hn141_0; replace p141 := eq_true p141; replace q141 := eq_true q141)))
                                                    go_roundg kj40
                                                    case measure => have := HK1.out; have := HJ12.out; have := HJ40.out; omega
                                                    case rel => exact ⟨(ji49), (by first | rfl | (simp; done) | (simp only [← hji49] <;> (first | rfl | simp)) | (simp [*]; done)), H', ⟨by have := HK1.out; have := HJ12.out; have := HJ40.out; omega⟩, ⟨by (with_reducible repeat (first | apply Kd.R_alloc | apply Kd.R_drewN | apply Kd.R_drew)); exact Kd.R_mono (Kd.R_far (p := ⟨gb127, 1, none⟩) (Kd.R_mono HO_3.out (fun k_ hk => (⟨hk, hk.1⟩ : _ ∧ k_ ≠ gb127))) (fun _ hk => hk.2) (.int .i64 0)) (fun _ hk => trivial)⟩, ⟨by repeat (first | (with_reducible first | exact HB.out | apply below_alloc | apply pw_below_drewN | apply below_drew1 | refine below_set ?_ GE127.out) | exact HB.out)⟩⟩
                                                  · rw [if_neg c66] at H
                                                    have c66b0 : (((rd_T33 t134 1).f0) == 8) = false := beq_eq_false_iff_ne.mpr c66
                                                    have c66b1 : (((rd_T33 t134 1).f0) != 8) = true := bne_iff_ne.mpr c66
                                                    obtain rfl := Option.some.inj H
                                                    have hcz71_0 : wc.cell? ⟨gb127, 0, none⟩ = some (.int .i64 ((rd_T33 t120 x6_1).f0)) := (blk_cell BK127.out 0).trans rfl
                                                    have hcz71_1 : wc.cell? ⟨gb127, 1, none⟩ = some (.int .i64 ((rd_T33 t120 x6_1).f1)) := (blk_cell BK127.out 1).trans rfl
                                                    have hcz71_2 : wc.cell? ⟨gb127, 2, none⟩ = some (.string ((rd_T33 t120 x6_1).f2)) := (blk_cell BK127.out 2).trans rfl
                                                    have hcz71_3 : wc.cell? ⟨gb127, 3, none⟩ = some (.int .i64 ((rd_T33 t120 x6_1).f3)) := (blk_cell BK127.out 3).trans rfl
                                                    have hcz71_4 : wc.cell? ⟨gb127, 4, none⟩ = some (.int .i64 ((rd_T33 t120 x6_1).f4)) := (blk_cell BK127.out 4).trans rfl
                                                    have hfz71_0 := blk_frozen BK127.out 0
                                                    have hfz71_1 := blk_frozen BK127.out 1
                                                    have hfz71_2 := blk_frozen BK127.out 2
                                                    have hfz71_3 := blk_frozen BK127.out 3
                                                    have hfz71_4 := blk_frozen BK127.out 4
                                                    have p133 : 0 ≤ ((ji49) : Int) := of_decide_eq_true (by first | (with_reducible assumption) | assumption)
                                                    have q133 : (ji49) < (t120.length : Int) := of_decide_eq_true (by first | (with_reducible assumption) | assumption)
                                                    obtain ⟨ad133, e133, hx133_0, hx133_1, hx133_2, hx133_3, hx133_4⟩ := at_T33 (Kd.R_reads' HO_3.out).2.2 (ji49) p133 q133
                                                    obtain rfl : ad126 = ad133 := (by injection e133)
                                                    replace p133 := eq_true p133
                                                    replace q133 := eq_true q133
                                                    go_wp2_with (first | (go_at_call 11; (with_reducible refine (words_Scan.calls (a0.extract (((rd_T33 t120 x6_1).f1) : Int).toNat (((rd_T33 t120 (ji49)).f1) : Int).toNat) t134 t135 t136 _ ?side1 A55.out).mono ?_); (case side1 => first | (with_reducible exact HT.out) | (with_reducible exact HT.out.below HB.out) | (with_reducible refine Tabs.below HT.out ?_; repeat (first | (with_reducible first | exact HB.out | apply below_alloc | apply pw_below_drewN | apply below_drew1 | refine below_set ?_ GE127.out) | exact HB.out))); rintro e w72 ⟨v137, rfl, ho0, hb⟩; have n0_ := Aside0.mk (Kd.R_elder' (by (with_reducible repeat (first | apply Kd.R_alloc | apply Kd.R_drewN | apply Kd.R_drew)); exact HO_3.out) (Kd.R_base ho0) hb); have n1_ := Aside0.mk (Kd.R_lower (Kd.R_newB (Kd.R_new' ho0 (Kd.R_lt (by (with_reducible repeat (first | apply Kd.R_alloc | apply Kd.R_drewN | apply Kd.R_drew)); exact HO_3.out))) (g := gb127) (o := .cells #[.int .i64 ((rd_T33 t120 x6_1).f0), .int .i64 ((rd_T33 t120 x6_1).f1), .string ((rd_T33 t120 x6_1).f2), .int .i64 ((rd_T33 t120 x6_1).f3), .int .i64 ((rd_T33 t120 x6_1).f4)] 33 (0, 0)) (by (with_reducible repeat (first | refine blk_drewN ?_ _ | refine blk_drew ?_ | refine blk_alloc ?_ _)); exact BK127.out)) (below_size (by repeat (first | (with_reducible first | exact HB.out | apply below_alloc | apply pw_below_drewN | apply below_drew1 | refine below_set ?_ GE127.out) | exact HB.out)))); have n2_ := Aside0.mk (blk_below (g := gb127) (o := .cells #[.int .i64 ((rd_T33 t120 x6_1).f0), .int .i64 ((rd_T33 t120 x6_1).f1), .string ((rd_T33 t120 x6_1).f2), .int .i64 ((rd_T33 t120 x6_1).f3), .int .i64 ((rd_T33 t120 x6_1).f4)] 33 (0, 0)) (by (with_reducible repeat (first | refine blk_drewN ?_ _ | refine blk_drew ?_ | refine blk_alloc ?_ _)); exact BK127.out) hb); have n3_ := Aside0.mk (below_step (by repeat (first | (with_reducible first | exact HB.out | apply below_alloc | apply pw_below_drewN | apply below_drew1 | refine below_set ?_ GE127.out) | exact HB.out)) hb); clear HO_3; clear BK127; clear HB; have HO_3 := n0_; have HO138 := n1_; have BK127 := n2_; have HB := n3_; clear n0_ n1_ n2_ n3_; (try clear hb); (try clear hb2); (try clear hk); (try clear hi); (try clear ho0); have hcz73_0 : w72.cell? ⟨gb127, 0, none⟩ = some (.int .i64 ((rd_T33 t120 x6_1).f0)) := (blk_cell BK127.out 0).trans rfl; have hcz73_1 : w72.cell? ⟨gb127, 1, none⟩ = some (.int .i64 ((rd_T33 t120 x6_1).f1)) := (blk_cell BK127.out 1).trans rfl; have hcz73_2 : w72.cell? ⟨gb127, 2, none⟩ = some (.string ((rd_T33 t120 x6_1).f2)) := (blk_cell BK127.out 2).trans rfl; have hcz73_3 : w72.cell? ⟨gb127, 3, none⟩ = some (.int .i64 ((rd_T33 t120 x6_1).f3)) := (blk_cell BK127.out 3).trans rfl; have hcz73_4 : w72.cell? ⟨gb127, 4, none⟩ = some (.int .i64 ((rd_T33 t120 x6_1).f4)) := (blk_cell BK127.out 4).trans rfl; have hfz73_0 := blk_frozen BK127.out 0; have hfz73_1 := blk_frozen BK127.out 1; have hfz73_2 := blk_frozen BK127.out 2; have hfz73_3 := blk_frozen BK127.out 3; have hfz73_4 := blk_frozen BK127.out 4) | (go_at_call 13; (with_reducible refine (levylaw4_num.calls t136 t139 _ A56.out).mono ?_); rintro e w' ⟨rfl, ⟨nd, rfl⟩⟩; (try first | exact ⟨rfl, _, World.drewN_drewN _ _ _⟩ | exact ⟨rfl, _, Eq.trans (World.drewN_drewN _ _ _) (congrArg (World.drewN _) (Nat.add_assoc _ _ _))⟩); obtain ⟨Ao74, co74, eo74⟩ := Kd.R_slice HO138.out; subst eo74; have p140 : 0 ≤ (0 : Int) := (by omega); have q140 : 0 < (t134.length : Int) := of_decide_eq_true (by first | (with_reducible assumption) | assumption); obtain ⟨ad140, e140, hx140_0, hx140_1, hx140_2, hx140_3, hx140_4⟩ := at_T33 (Kd.R_reads' HO138.out).2.2 0 p140 q140; cases e140; have qi140 : (0 < t134.length) = True := eq_true (by omega); (try rw [show ((0 : Int)).toNat = 0 from rfl] at hx140_0); (try rw [show 0 * 5 = 0 from rfl] at hx140_0); (try rw [Addr.add_zero'] at hx140_0); (try rw [show ((0 : Int)).toNat = 0 from rfl] at hx140_1); (try rw [show 0 * 5 = 0 from rfl] at hx140_1); (try rw [Addr.add_zero'] at hx140_1); (try rw [show ((0 : Int)).toNat = 0 from rfl] at hx140_2); (try rw [show 0 * 5 = 0 from rfl] at hx140_2); (try rw [Addr.add_zero'] at hx140_2); (try rw [show ((0 : Int)).toNat = 0 from rfl] at hx140_3); (try rw [show 0 * 5 = 0 from rfl] at hx140_3); (try rw [Addr.add_zero'] at hx140_3); (try rw [show ((0 : Int)).toNat = 0 from rfl] at hx140_4); (try rw [show 0 * 5 = 0 from rfl] at hx140_4); (try rw [Addr.add_zero'] at hx140_4); have hn140_0 : ad140.block ≠ gb127 := Kd.own_blk (Kd.R_away HO138.out (fun _ hk => hk.2)); have hs140_0 := hx140_0; have hs140_1 := hx140_1; have hs140_2 := hx140_2; have hs140_3 := hx140_3; have hs140_4 := hx140_4; replace hx140_0 := (cell_far (p := ⟨gb127, 1, none⟩) (by first | (rw [add_block]; exact hn140_0) | (show (Addr.add _ _).block ≠ _; rw [add_block]; exact hn140_0) | exact hn140_0) (.int .i64 0)).trans hx140_0; replace hx140_1 := (cell_far (p := ⟨gb127, 1, none⟩) (by first | (rw [add_block]; exact hn140_0) | (show (Addr.add _ _).block ≠ _; rw [add_block]; exact hn140_0) | exact hn140_0) (.int .i64 0)).trans hx140_1; replace hx140_2 := (cell_far (p := ⟨gb127, 1, none⟩) (by first | (rw [add_block]; exact hn140_0) | (show (Addr.add _ _).block ≠ _; rw [add_block]; exact hn140_0) | exact hn140_0) (.int .i64 0)).trans hx140_2; replace hx140_3 := (cell_far (p := ⟨gb127, 1, none⟩) (by first | (rw [add_block]; exact hn140_0) | (show (Addr.add _ _).block ≠ _; rw [add_block]; exact hn140_0) | exact hn140_0) (.int .i64 0)).trans hx140_3; replace hx140_4 := (cell_far (p := ⟨gb127, 1, none⟩) (by first | (rw [add_block]; exact hn140_0) | (show (Addr.add _ _).block ≠ _; rw [add_block]; exact hn140_0) | exact hn140_0) (.int .i64 0)).trans hx140_4; (try have hy140_0 := fun (n_ : Nat) => ((cell_far (p := ⟨gb127, 1, none⟩) (by exact hn140_0) (.int .i64 0)).trans (show (w72.drewN n_).cell? _ = some _ from hs140_0))); (try have hy140_1 := fun (n_ : Nat) => ((cell_far (p := ⟨gb127, 1, none⟩) (by exact hn140_0) (.int .i64 0)).trans (show (w72.drewN n_).cell? _ = some _ from hs140_1))); (try have hy140_2 := fun (n_ : Nat) => ((cell_far (p := ⟨gb127, 1, none⟩) (by exact hn140_0) (.int .i64 0)).trans (show (w72.drewN n_).cell? _ = some _ from hs140_2))); (try have hy140_3 := fun (n_ : Nat) => ((cell_far (p := ⟨gb127, 1, none⟩) (by exact hn140_0) (.int .i64 0)).trans (show (w72.drewN n_).cell? _ = some _ from hs140_3))); (try have hy140_4 := fun (n_ : Nat) => ((cell_far (p := ⟨gb127, 1, none⟩) (by exact hn140_0) (.int .i64 0)).trans (show (w72.drewN n_).cell? _ = some _ from hs140_4))); clear hs140_0; clear hs140_1; clear hs140_2; clear hs140_3; clear hs140_4; clear hn140_0; replace p140 := eq_true p140; replace q140 := eq_true q140; have p141 : 0 ≤ (1 : Int) := (by omega); have q141 : 1 < (t134.length : Int) := of_decide_eq_true (by first | (with_reducible assumption) | assumption); obtain ⟨ad141, e141, hx141_0, hx141_1, hx141_2, hx141_3, hx141_4⟩ := at_T33 (Kd.R_reads' HO138.out).2.2 1 p141 q141; obtain rfl : ad140 = ad141 := (by injection e141); (try simp only [show (1 : Int).toNat = 1 from rfl, Nat.reduceMul, Nat.reduceEqDiff, Go.Addr.add, ↓reduceIte] at hx141_0); (try simp only [show (1 : Int).toNat = 1 from rfl, Nat.reduceMul, Nat.reduceEqDiff, Go.Addr.add, ↓reduceIte] at hx141_1); (try simp only [show (1 : Int).toNat = 1 from rfl, Nat.reduceMul, Nat.reduceEqDiff, Go.Addr.add, ↓reduceIte] at hx141_2); (try simp only [show (1 : Int).toNat = 1 from rfl, Nat.reduceMul, Nat.reduceEqDiff, Go.Addr.add, ↓reduceIte] at hx141_3); (try simp only [show (1 : Int).toNat = 1 from rfl, Nat.reduceMul, Nat.reduceEqDiff, Go.Addr.add, ↓reduceIte] at hx141_4); have qi141 : (1 < t134.length) = True := eq_true (by omega); (try rw [show ((1 : Int)).toNat = 1 from rfl] at hx141_0); (try rw [show 1 * 5 = 5 from rfl] at hx141_0); (try rw [show ((1 : Int)).toNat = 1 from rfl] at hx141_1); (try rw [show 1 * 5 = 5 from rfl] at hx141_1); (try rw [show ((1 : Int)).toNat = 1 from rfl] at hx141_2); (try rw [show 1 * 5 = 5 from rfl] at hx141_2); (try rw [show ((1 : Int)).toNat = 1 from rfl] at hx141_3); (try rw [show 1 * 5 = 5 from rfl] at hx141_3); (try rw [show ((1 : Int)).toNat = 1 from rfl] at hx141_4); (try rw [show 1 * 5 = 5 from rfl] at hx141_4); have hn141_0 : ad140.block ≠ gb127 := Kd.own_blk (Kd.R_away HO138.out (fun _ hk => hk.2)); have hs141_0 := hx141_0; have hs141_1 := hx141_1; have hs141_2 := hx141_2; have hs141_3 := hx141_3; have hs141_4 := hx141_4; replace hx141_0 := (cell_far (p := ⟨gb127, 1, none⟩) (by first | (rw [add_block]; exact hn141_0) | (show (Addr.add _ _).block ≠ _; rw [add_block]; exact hn141_0) | exact hn141_0) (.int .i64 0)).trans hx141_0; replace hx141_1 := (cell_far (p := ⟨gb127, 1, none⟩) (by first | (rw [add_block]; exact hn141_0) | (show (Addr.add _ _).block ≠ _; rw [add_block]; exact hn141_0) | exact hn141_0) (.int .i64 0)).trans hx141_1; replace hx141_2 := (cell_far (p := ⟨gb127, 1, none⟩) (by first | (rw [add_block]; exact hn141_0) | (show (Addr.add _ _).block ≠ _; rw [add_block]; exact hn141_0) | exact hn141_0) (.int .i64 0)).trans hx141_2; replace hx141_3 := (cell_far (p := ⟨gb127, 1, none⟩) (by first | (rw [add_block]; exact hn141_0) | (show (Addr.add _ _).block ≠ _; rw [add_block]; exact hn141_0) | exact hn141_0) (.int .i64 0)).trans hx141_3; replace hx141_4 := (cell_far (p := ⟨gb127, 1, none⟩) (by first | (rw [add_block]; exact hn141_0) | (show (Addr.add _ _).block ≠ _; rw [add_block]; exact hn141_0) | exact hn141_0) (.int .i64 0)).trans hx141_4; (try have hy141_0 := fun (n_ : Nat) => ((cell_far (p := ⟨gb127, 1, none⟩) (by exact hn141_0) (.int .i64 0)).trans (show (w72.drewN n_).cell? _ = some _ from hs141_0))); (try have hy141_1 := fun (n_ : Nat) => ((cell_far (p := ⟨gb127, 1, none⟩) (by exact hn141_0) (.int .i64 0)).trans (show (w72.drewN n_).cell? _ = some _ from hs141_1))); (try have hy141_2 := fun (n_ : Nat) => ((cell_far (p := ⟨gb127, 1, none⟩) (by exact hn141_0) (.int .i64 0)).trans (show (w72.drewN n_).cell? _ = some _ from hs141_2))); (try have hy141_3 := fun (n_ : Nat) => ((cell_far (p := ⟨gb127, 1, none⟩) (by exact hn141_0) (.int .i64 0)).trans (show (w72.drewN n_).cell? _ = some _ from hs141_3))); (try have hy141_4 := fun (n_ : Nat) => ((cell_far (p := ⟨gb127, 1, none⟩) (by exact hn141_0) (.int .i64 0)).trans (show (w72.drewN n_).cell? _ = some _ from hs141_4))); clear hs141_0; clear hs141_1; clear hs141_2; clear hs141_3; clear hs141_4; clear hn141_0; replace p141 := eq_true p141; replace q141 := eq_true q141))
                                                    repeat (go_quiet (first | (go_at_call 11; (with_reducible refine (words_Scan.calls (a0.extract (((rd_T33 t120 x6_1).f1) : Int).toNat (((rd_T33 t120 (ji49)).f1) : Int).toNat) t134 t135 t136 _ ?side1 A55.out).mono ?_); (case side1 => first | (with_reducible exact HT.out) | (with_reducible exact HT.out.below HB.out) | (with_reducible refine Tabs.below HT.out ?_; repeat (first | (with_reducible first | exact HB.out | apply below_alloc | apply pw_below_drewN | apply below_drew1 | refine below_set ?_ GE127.out) | exact HB.out))); rintro e w72 ⟨v137, rfl, ho0, hb⟩; have n0_ := Aside0.mk (Kd.R_elder' (by (with_reducible repeat (first | apply Kd.R_alloc | apply Kd.R_drewN | apply Kd.R_drew)); exact HO_3.out) (Kd.R_base ho0) hb); have n1_ := Aside0.mk (Kd.R_lower (Kd.R_newB (Kd.R_new' ho0 (Kd.R_lt (by (with_reducible repeat (first | apply Kd.R_alloc | apply Kd.R_drewN | apply Kd.R_drew)); exact HO_3.out))) (g := gb127) (o := .cells #[.int .i64 ((rd_T33 t120 x6_1).f0), .int .i64 ((rd_T33 t120 x6_1).f1), .string ((rd_T33 t120 x6_1).f2), .int .i64 ((rd_T33 t120 x6_1).f3), .int .i64 ((rd_T33 t120 x6_1).f4)] 33 (0, 0)) (by (with_reducible repeat (first | refine blk_drewN ?_ _ | refine blk_drew ?_ | refine blk_alloc ?_ _)); exact BK127.out)) (below_size (by repeat (first | (with_reducible first | exact HB.out | apply below_alloc | apply pw_below_drewN | apply below_drew1 | refine below_set ?_ GE127.out) | exact HB.out)))); have n2_ := Aside0.mk (blk_below (g := gb127) (o := .cells #[.int .i64 ((rd_T33 t120 x6_1).f0), .int .i64 ((rd_T33 t120 x6_1).f1), .string ((rd_T33 t120 x6_1).f2), .int .i64 ((rd_T33 t120 x6_1).f3), .int .i64 ((rd_T33 t120 x6_1).f4)] 33 (0, 0)) (by (with_reducible repeat (first | refine blk_drewN ?_ _ | refine blk_drew ?_ | refine blk_alloc ?_ _)); exact BK127.out) hb); have n3_ := Aside0.mk (below_step (by repeat (first | (with_reducible first | exact HB.out | apply below_alloc | apply pw_below_drewN | apply below_drew1 | refine below_set ?_ GE127.out) | exact HB.out)) hb); clear HO_3; clear BK127; clear HB; have HO_3 := n0_; have HO138 := n1_; have BK127 := n2_; have HB := n3_; clear n0_ n1_ n2_ n3_; (try clear hb); (try clear hb2); (try clear hk); (try clear hi); (try clear ho0); have hcz73_0 : w72.cell? ⟨gb127, 0, none⟩ = some (.int .i64 ((rd_T33 t120 x6_1).f0)) := (blk_cell BK127.out 0).trans rfl; have hcz73_1 : w72.cell? ⟨gb127, 1, none⟩ = some (.int .i64 ((rd_T33 t120 x6_1).f1)) := (blk_cell BK127.out 1).trans rfl; have hcz73_2 : w72.cell? ⟨gb127, 2, none⟩ = some (.string ((rd_T33 t120 x6_1).f2)) := (blk_cell BK127.out 2).trans rfl; have hcz73_3 : w72.cell? ⟨gb127, 3, none⟩ = some (.int .i64 ((rd_T33 t120 x6_1).f3)) := (blk_cell BK127.out 3).trans rfl; have hcz73_4 : w72.cell? ⟨gb127, 4, none⟩ = some (.int .i64 ((rd_T33 t120 x6_1).f4)) := (blk_cell BK127.out 4).trans rfl; have hfz73_0 := blk_frozen BK127.out 0; have hfz73_1 := blk_frozen BK127.out 1; have hfz73_2 := blk_frozen BK127.out 2; have hfz73_3 := blk_frozen BK127.out 3; have hfz73_4 := blk_frozen BK127.out 4) | (go_at_call 13; (with_reducible refine (levylaw4_num.calls t136 t139 _ A56.out).mono ?_); rintro e w' ⟨rfl, ⟨nd, rfl⟩⟩; (try first | exact ⟨rfl, _, World.drewN_drewN _ _ _⟩ | exact ⟨rfl, _, Eq.trans (World.drewN_drewN _ _ _) (congrArg (World.drewN _) (Nat.add_assoc _ _ _))⟩); obtain ⟨Ao74, co74, eo74⟩ := Kd.R_slice HO138.out; subst eo74; have p140 : 0 ≤ (0 : Int) := (by omega); have q140 : 0 < (t134.length : Int) := of_decide_eq_true (by first | (with_reducible assumption) | assumption); obtain ⟨ad140, e140, hx140_0, hx140_1, hx140_2, hx140_3, hx140_4⟩ := at_T33 (Kd.R_reads' HO138.out).2.2 0 p140 q140; cases e140; have qi140 : (0 < t134.length) = True := eq_true (by omega); (try rw [show ((0 : Int)).toNat = 0 from rfl] at hx140_0); (try rw [show 0 * 5 = 0 from rfl] at hx140_0); (try rw [Addr.add_zero'] at hx140_0); (try rw [show ((0 : Int)).toNat = 0 from rfl] at hx140_1); (try rw [show 0 * 5 = 0 from rfl] at hx140_1); (try rw [Addr.add_zero'] at hx140_1); (try rw [show ((0 : Int)).toNat = 0 from rfl] at hx140_2); (try rw [show 0 * 5 = 0 from rfl] at hx140_2); (try rw [Addr.add_zero'] at hx140_2); (try rw [show ((0 : Int)).toNat = 0 from rfl] at hx140_3); (try rw [show 0 * 5 = 0 from rfl] at hx140_3); (try rw [Addr.add_zero'] at hx140_3); (try rw [show ((0 : Int)).toNat = 0 from rfl] at hx140_4); (try rw [show 0 * 5 = 0 from rfl] at hx140_4); (try rw [Addr.add_zero'] at hx140_4); have hn140_0 : ad140.block ≠ gb127 := Kd.own_blk (Kd.R_away HO138.out (fun _ hk => hk.2)); have hs140_0 := hx140_0; have hs140_1 := hx140_1; have hs140_2 := hx140_2; have hs140_3 := hx140_3; have hs140_4 := hx140_4; replace hx140_0 := (cell_far (p := ⟨gb127, 1, none⟩) (by first | (rw [add_block]; exact hn140_0) | (show (Addr.add _ _).block ≠ _; rw [add_block]; exact hn140_0) | exact hn140_0) (.int .i64 0)).trans hx140_0; replace hx140_1 := (cell_far (p := ⟨gb127, 1, none⟩) (by first | (rw [add_block]; exact hn140_0) | (show (Addr.add _ _).block ≠ _; rw [add_block]; exact hn140_0) | exact hn140_0) (.int .i64 0)).trans hx140_1; replace hx140_2 := (cell_far (p := ⟨gb127, 1, none⟩) (by first | (rw [add_block]; exact hn140_0) | (show (Addr.add _ _).block ≠ _; rw [add_block]; exact hn140_0) | exact hn140_0) (.int .i64 0)).trans hx140_2; replace hx140_3 := (cell_far (p := ⟨gb127, 1, none⟩) (by first | (rw [add_block]; exact hn140_0) | (show (Addr.add _ _).block ≠ _; rw [add_block]; exact hn140_0) | exact hn140_0) (.int .i64 0)).trans hx140_3; replace hx140_4 := (cell_far (p := ⟨gb127, 1, none⟩) (by first | (rw [add_block]; exact hn140_0) | (show (Addr.add _ _).block ≠ _; rw [add_block]; exact hn140_0) | exact hn140_0) (.int .i64 0)).trans hx140_4; (try have hy140_0 := fun (n_ : Nat) => ((cell_far (p := ⟨gb127, 1, none⟩) (by exact hn140_0) (.int .i64 0)).trans (show (w72.drewN n_).cell? _ = some _ from hs140_0))); (try have hy140_1 := fun (n_ : Nat) => ((cell_far (p := ⟨gb127, 1, none⟩) (by exact hn140_0) (.int .i64 0)).trans (show (w72.drewN n_).cell? _ = some _ from hs140_1))); (try have hy140_2 := fun (n_ : Nat) => ((cell_far (p := ⟨gb127, 1, none⟩) (by exact hn140_0) (.int .i64 0)).trans (show (w72.drewN n_).cell? _ = some _ from hs140_2))); (try have hy140_3 := fun (n_ : Nat) => ((cell_far (p := ⟨gb127, 1, none⟩) (by exact hn140_0) (.int .i64 0)).trans (show (w72.drewN n_).cell? _ = some _ from hs140_3))); (try have hy140_4 := fun (n_ : Nat) => ((cell_far (p := ⟨gb127, 1, none⟩) (by exact hn140_0) (.int .i64 0)).trans (show (w72.drewN n_).cell? _ = some _ from hs140_4))); clear hs140_0; clear hs140_1; clear hs140_2; clear hs140_3; clear hs140_4; clear hn140_0; replace p140 := eq_true p140; replace q140 := eq_true q140; have p141 : 0 ≤ (1 : Int) := (by omega); have q141 : 1 < (t134.length : Int) := of_decide_eq_true (by first | (with_reducible assumption) | assumption); obtain ⟨ad141, e141, hx141_0, hx141_1, hx141_2, hx141_3, hx141_4⟩ := at_T33 (Kd.R_reads' HO138.out).2.2 1 p141 q141; obtain rfl : ad140 = ad141 := (by injection e141); (try simp only [show (1 : Int).toNat = 1 from rfl, Nat.reduceMul, Nat.reduceEqDiff, Go.Addr.add, ↓reduceIte] at hx141_0); (try simp only [show (1 : Int).toNat = 1 from rfl, Nat.reduceMul, Nat.reduceEqDiff, Go.Addr.add, ↓reduceIte] at hx141_1); (try simp only [show (1 : Int).toNat = 1 from rfl, Nat.reduceMul, Nat.reduceEqDiff, Go.Addr.add, ↓reduceIte] at hx141_2); (try simp only [show (1 : Int).toNat = 1 from rfl, Nat.reduceMul, Nat.reduceEqDiff, Go.Addr.add, ↓reduceIte] at hx141_3); (try simp only [show (1 : Int).toNat = 1 from rfl, Nat.reduceMul, Nat.reduceEqDiff, Go.Addr.add, ↓reduceIte] at hx141_4); have qi141 : (1 < t134.length) = True := eq_true (by omega); (try rw [show ((1 : Int)).toNat = 1 from rfl] at hx141_0); (try rw [show 1 * 5 = 5 from rfl] at hx141_0); (try rw [show ((1 : Int)).toNat = 1 from rfl] at hx141_1); (try rw [show 1 * 5 = 5 from rfl] at hx141_1); (try rw [show ((1 : Int)).toNat = 1 from rfl] at hx141_2); (try rw [show 1 * 5 = 5 from rfl] at hx141_2); (try rw [show ((1 : Int)).toNat = 1 from rfl] at hx141_3); (try rw [show 1 * 5 = 5 from rfl] at hx141_3); (try rw [show ((1 : Int)).toNat = 1 from rfl] at hx141_4); (try rw [show 1 * 5 = 5 from rfl] at hx141_4); have hn141_0 : ad140.block ≠ gb127 := Kd.own_blk (Kd.R_away HO138.out (fun _ hk => hk.2)); have hs141_0 := hx141_0; have hs141_1 := hx141_1; have hs141_2 := hx141_2; have hs141_3 := hx141_3; have hs141_4 := hx141_4; replace hx141_0 := (cell_far (p := ⟨gb127, 1, none⟩) (by first | (rw [add_block]; exact hn141_0) | (show (Addr.add _ _).block ≠ _; rw [add_block]; exact hn141_0) | exact hn141_0) (.int .i64 0)).trans hx141_0; replace hx141_1 := (cell_far (p := ⟨gb127, 1, none⟩) (by first | (rw [add_block]; exact hn141_0) | (show (Addr.add _ _).block ≠ _; rw [add_block]; exact hn141_0) | exact hn141_0) (.int .i64 0)).trans hx141_1; replace hx141_2 := (cell_far (p := ⟨gb127, 1, none⟩) (by first | (rw [add_block]; exact hn141_0) | (show (Addr.add _ _).block ≠ _; rw [add_block]; exact hn141_0) | exact hn141_0) (.int .i64 0)).trans hx141_2; replace hx141_3 := (cell_far (p := ⟨gb127, 1, none⟩) (by first | (rw [add_block]; exact hn141_0) | (show (Addr.add _ _).block ≠ _; rw [add_block]; exact hn141_0) | exact hn141_0) (.int .i64 0)).trans hx141_3; replace hx141_4 := (cell_far (p := ⟨gb127, 1, none⟩) (by first | (rw [add_block]; exact hn141_0) | (show (Addr.add _ _).block ≠ _; rw [add_block]; exact hn141_0) | exact hn141_0) (.int .i64 0)).trans hx141_4; (try have hy141_0 := fun (n_ : Nat) => ((cell_far (p := ⟨gb127, 1, none⟩) (by exact hn141_0) (.int .i64 0)).trans (show (w72.drewN n_).cell? _ = some _ from hs141_0))); (try have hy141_1 := fun (n_ : Nat) => ((cell_far (p := ⟨gb127, 1, none⟩) (by exact hn141_0) (.int .i64 0)).trans (show (w72.drewN n_).cell? _ = some _ from hs141_1))); (try have hy141_2 := fun (n_ : Nat) => ((cell_far (p := ⟨gb127, 1, none⟩) (by exact hn141_0) (.int .i64 0)).trans (show (w72.drewN n_).cell? _ = some _ from hs141_2))); (try have hy141_3 := fun (n_ : Nat) => ((cell_far (p := ⟨gb127, 1, none⟩) (by exact hn141_0) (.int .i64 0)).trans (show (w72.drewN n_).cell? _ = some _ from hs141_3))); (try have hy141_4 := fun (n_ : Nat) => ((cell_far (p := ⟨gb127, 1, none⟩) (by exact hn141_0) (.int .i64 0)).trans (show (w72.drewN n_).cell? _ = some _ from hs141_4))); clear hs141_0; clear hs141_1; clear hs141_2; clear hs141_3; clear hs141_4; clear hn141_0; replace p141 := eq_true p141; replace q141 := eq_true q141)); try go_wp2_with (first | (go_at_call 11; (with_reducible refine (words_Scan.calls (a0.extract (((rd_T33 t120 x6_1).f1) : Int).toNat (((rd_T33 t120 (ji49)).f1) : Int).toNat) t134 t135 t136 _ ?side1 A55.out).mono ?_); (case side1 => first | (with_reducible exact HT.out) | (with_reducible exact HT.out.below HB.out) | (with_reducible refine Tabs.below HT.out ?_; repeat (first | (with_reducible first | exact HB.out | apply below_alloc | apply pw_below_drewN | apply below_drew1 | refine below_set ?_ GE127.out) | exact HB.out))); rintro e w72 ⟨v137, rfl, ho0, hb⟩; have n0_ := Aside0.mk (Kd.R_elder' (by (with_reducible repeat (first | apply Kd.R_alloc | apply Kd.R_drewN | apply Kd.R_drew)); exact HO_3.out) (Kd.R_base ho0) hb); have n1_ := Aside0.mk (Kd.R_lower (Kd.R_newB (Kd.R_new' ho0 (Kd.R_lt (by (with_reducible repeat (first | apply Kd.R_alloc | apply Kd.R_drewN | apply Kd.R_drew)); exact HO_3.out))) (g := gb127) (o := .cells #[.int .i64 ((rd_T33 t120 x6_1).f0), .int .i64 ((rd_T33 t120 x6_1).f1), .string ((rd_T33 t120 x6_1).f2), .int .i64 ((rd_T33 t120 x6_1).f3), .int .i64 ((rd_T33 t120 x6_1).f4)] 33 (0, 0)) (by (with_reducible repeat (first | refine blk_drewN ?_ _ | refine blk_drew ?_ | refine blk_alloc ?_ _)); exact BK127.out)) (below_size (by repeat (first | (with_reducible first | exact HB.out | apply below_alloc | apply pw_below_drewN | apply below_drew1 | refine below_set ?_ GE127.out) | exact HB.out)))); have n2_ := Aside0.mk (blk_below (g := gb127) (o := .cells #[.int .i64 ((rd_T33 t120 x6_1).f0), .int .i64 ((rd_T33 t120 x6_1).f1), .string ((rd_T33 t120 x6_1).f2), .int .i64 ((rd_T33 t120 x6_1).f3), .int .i64 ((rd_T33 t120 x6_1).f4)] 33 (0, 0)) (by (with_reducible repeat (first | refine blk_drewN ?_ _ | refine blk_drew ?_ | refine blk_alloc ?_ _)); exact BK127.out) hb); have n3_ := Aside0.mk (below_step (by repeat (first | (with_reducible first | exact HB.out | apply below_alloc | apply pw_below_drewN | apply below_drew1 | refine below_set ?_ GE127.out) | exact HB.out)) hb); clear HO_3; clear BK127; clear HB; have HO_3 := n0_; have HO138 := n1_; have BK127 := n2_; have HB := n3_; clear n0_ n1_ n2_ n3_; (try clear hb); (try clear hb2); (try clear hk); (try clear hi); (try clear ho0); have hcz73_0 : w72.cell? ⟨gb127, 0, none⟩ = some (.int .i64 ((rd_T33 t120 x6_1).f0)) := (blk_cell BK127.out 0).trans rfl; have hcz73_1 : w72.cell? ⟨gb127, 1, none⟩ = some (.int .i64 ((rd_T33 t120 x6_1).f1)) := (blk_cell BK127.out 1).trans rfl; have hcz73_2 : w72.cell? ⟨gb127, 2, none⟩ = some (.string ((rd_T33 t120 x6_1).f2)) := (blk_cell BK127.out 2).trans rfl; have hcz73_3 : w72.cell? ⟨gb127, 3, none⟩ = some (.int .i64 ((rd_T33 t120 x6_1).f3)) := (blk_cell BK127.out 3).trans rfl; have hcz73_4 : w72.cell? ⟨gb127, 4, none⟩ = some (.int .i64 ((rd_T33 t120 x6_1).f4)) := (blk_cell BK127.out 4).trans rfl; have hfz73_0 := blk_frozen BK127.out 0; have hfz73_1 := blk_frozen BK127.out 1; have hfz73_2 := blk_frozen BK127.out 2; have hfz73_3 := blk_frozen BK127.out 3; have hfz73_4 := blk_frozen BK127.out 4) | (go_at_call 13; (with_reducible refine (levylaw4_num.calls t136 t139 _ A56.out).mono ?_); rintro e w' ⟨rfl, ⟨nd, rfl⟩⟩; (try first | exact ⟨rfl, _, World.drewN_drewN _ _ _⟩ | exact ⟨rfl, _, Eq.trans (World.drewN_drewN _ _ _) (congrArg (World.drewN _) (Nat.add_assoc _ _ _))⟩); obtain ⟨Ao74, co74, eo74⟩ := Kd.R_slice HO138.out; subst eo74; have p140 : 0 ≤ (0 : Int) := (by omega); have q140 : 0 < (t134.length : Int) := of_decide_eq_true (by first | (with_reducible assumption) | assumption); obtain ⟨ad140, e140, hx140_0, hx140_1, hx140_2, hx140_3, hx140_4⟩ := at_T33 (Kd.R_reads' HO138.out).2.2 0 p140 q140; cases e140; have qi140 : (0 < t134.length) = True := eq_true (by omega); (try rw [show ((0 : Int)).toNat = 0 from rfl] at hx140_0); (try rw [show 0 * 5 = 0 from rfl] at hx140_0); (try rw [Addr.add_zero'] at hx140_0); (try rw [show ((0 : Int)).toNat = 0 from rfl] at hx140_1); (try rw [show 0 * 5 = 0 from rfl] at hx140_1); (try rw [Addr.add_zero'] at hx140_1); (try rw [show ((0 : Int)).toNat = 0 from rfl] at hx140_2); (try rw [show 0 * 5 = 0 from rfl] at hx140_2); (try rw [Addr.add_zero'] at hx140_2); (try rw [show ((0 : Int)).toNat = 0 from rfl] at hx140_3); (try rw [show 0 * 5 = 0 from rfl] at hx140_3); (try rw [Addr.add_zero'] at hx140_3); (try rw [show ((0 : Int)).toNat = 0 from rfl] at hx140_4); (try rw [show 0 * 5 = 0 from rfl] at hx140_4); (try rw [Addr.add_zero'] at hx140_4); have hn140_0 : ad140.block ≠ gb127 := Kd.own_blk (Kd.R_away HO138.out (fun _ hk => hk.2)); have hs140_0 := hx140_0; have hs140_1 := hx140_1; have hs140_2 := hx140_2; have hs140_3 := hx140_3; have hs140_4 := hx140_4; replace hx140_0 := (cell_far (p := ⟨gb127, 1, none⟩) (by first | (rw [add_block]; exact hn140_0) | (show (Addr.add _ _).block ≠ _; rw [add_block]; exact hn140_0) | exact hn140_0) (.int .i64 0)).trans hx140_0; replace hx140_1 := (cell_far (p := ⟨gb127, 1, none⟩) (by first | (rw [add_block]; exact hn140_0) | (show (Addr.add _ _).block ≠ _; rw [add_block]; exact hn140_0) | exact hn140_0) (.int .i64 0)).trans hx140_1; replace hx140_2 := (cell_far (p := ⟨gb127, 1, none⟩) (by first | (rw [add_block]; exact hn140_0) | (show (Addr.add _ _).block ≠ _; rw [add_block]; exact hn140_0) | exact hn140_0) (.int .i64 0)).trans hx140_2; replace hx140_3 := (cell_far (p := ⟨gb127, 1, none⟩) (by first | (rw [add_block]; exact hn140_0) | (show (Addr.add _ _).block ≠ _; rw [add_block]; exact hn140_0) | exact hn140_0) (.int .i64 0)).trans hx140_3; replace hx140_4 := (cell_far (p := ⟨gb127, 1, none⟩) (by first | (rw [add_block]; exact hn140_0) | (show (Addr.add _ _).block ≠ _; rw [add_block]; exact hn140_0) | exact hn140_0) (.int .i64 0)).trans hx140_4; (try have hy140_0 := fun (n_ : Nat) => ((cell_far (p := ⟨gb127, 1, none⟩) (by exact hn140_0) (.int .i64 0)).trans (show (w72.drewN n_).cell? _ = some _ from hs140_0))); (try have hy140_1 := fun (n_ : Nat) => ((cell_far (p := ⟨gb127, 1, none⟩) (by exact hn140_0) (.int .i64 0)).trans (show (w72.drewN n_).cell? _ = some _ from hs140_1))); (try have hy140_2 := fun (n_ : Nat) => ((cell_far (p := ⟨gb127, 1, none⟩) (by exact hn140_0) (.int .i64 0)).trans (show (w72.drewN n_).cell? _ = some _ from hs140_2))); (try have hy140_3 := fun (n_ : Nat) => ((cell_far (p := ⟨gb127, 1, none⟩) (by exact hn140_0) (.int .i64 0)).trans (show (w72.drewN n_).cell? _ = some _ from hs140_3))); (try have hy140_4 := fun (n_ : Nat) => ((cell_far (p := ⟨gb127, 1, none⟩) (by exact hn140_0) (.int .i64 0)).trans (show (w72.drewN n_).cell? _ = some _ from hs140_4))); clear hs140_0; clear hs140_1; clear hs140_2; clear hs140_3; clear hs140_4; clear hn140_0; replace p140 := eq_true p140; replace q140 := eq_true q140; have p141 : 0 ≤ (1 : Int) := (by omega); have q141 : 1 < (t134.length : Int) := of_decide_eq_true (by first | (with_reducible assumption) | assumption); obtain ⟨ad141, e141, hx141_0, hx141_1, hx141_2, hx141_3, hx141_4⟩ := at_T33 (Kd.R_reads' HO138.out).2.2 1 p141 q141; obtain rfl : ad140 = ad141 := (by injection e141); (try simp only [show (1 : Int).toNat = 1 from rfl, Nat.reduceMul, Nat.reduceEqDiff, Go.Addr.add, ↓reduceIte] at hx141_0); (try simp only [show (1 : Int).toNat = 1 from rfl, Nat.reduceMul, Nat.reduceEqDiff, Go.Addr.add, ↓reduceIte] at hx141_1); (try simp only [show (1 : Int).toNat = 1 from rfl, Nat.reduceMul, Nat.reduceEqDiff, Go.Addr.add, ↓reduceIte] at hx141_2); (try simp only [show (1 : Int).toNat = 1 from rfl, Nat.reduceMul, Nat.reduceEqDiff, Go.Addr.add, ↓reduceIte] at hx141_3); (try simp only [show (1 : Int).toNat = 1 from rfl, Nat.reduceMul, Nat.reduceEqDiff, Go.Addr.add, ↓reduceIte] at hx141_4); have qi141 : (1 < t134.length) = True := eq_true (by omega); (try rw [show ((1 : Int)).toNat = 1 from rfl] at hx141_0); (try rw [show 1 * 5 = 5 from rfl] at hx141_0); (try rw [show ((1 : Int)).toNat = 1 from rfl] at hx141_1); (try rw [show 1 * 5 = 5 from rfl] at hx141_1); (try rw [show ((1 : Int)).toNat = 1 from rfl] at hx141_2); (try rw [show 1 * 5 = 5 from rfl] at hx141_2); (try rw [show ((1 : Int)).toNat = 1 from rfl] at hx141_3); (try rw [show 1 * 5 = 5 from rfl] at hx141_3); (try rw [show ((1 : Int)).toNat = 1 from rfl] at hx141_4); (try rw [show 1 * 5 = 5 from rfl] at hx141_4); have hn141_0 : ad140.block ≠ gb127 := Kd.own_blk (Kd.R_away HO138.out (fun _ hk => hk.2)); have hs141_0 := hx141_0; have hs141_1 := hx141_1; have hs141_2 := hx141_2; have hs141_3 := hx141_3; have hs141_4 := hx141_4; replace hx141_0 := (cell_far (p := ⟨gb127, 1, none⟩) (by first | (rw [add_block]; exact hn141_0) | (show (Addr.add _ _).block ≠ _; rw [add_block]; exact hn141_0) | exact hn141_0) (.int .i64 0)).trans hx141_0; replace hx141_1 := (cell_far (p := ⟨gb127, 1, none⟩) (by first | (rw [add_block]; exact hn141_0) | (show (Addr.add _ _).block ≠ _; rw [add_block]; exact hn141_0) | exact hn141_0) (.int .i64 0)).trans hx141_1; replace hx141_2 := (cell_far (p := ⟨gb127, 1, none⟩) (by first | (rw [add_block]; exact hn141_0) | (show (Addr.add _ _).block ≠ _; rw [add_block]; exact hn141_0) | exact hn141_0) (.int .i64 0)).trans hx141_2; replace hx141_3 := (cell_far (p := ⟨gb127, 1, none⟩) (by first | (rw [add_block]; exact hn141_0) | (show (Addr.add _ _).block ≠ _; rw [add_block]; exact hn141_0) | exact hn141_0) (.int .i64 0)).trans hx141_3; replace hx141_4 := (cell_far (p := ⟨gb127, 1, none⟩) (by first | (rw [add_block]; exact hn141_0) | (show (Addr.add _ _).block ≠ _; rw [add_block]; exact hn141_0) | exact hn141_0) (.int .i64 0)).trans hx141_4; (try have hy141_0 := fun (n_ : Nat) => ((cell_far (p := ⟨gb127, 1, none⟩) (by exact hn141_0) (.int .i64 0)).trans (show (w72.drewN n_).cell? _ = some _ from hs141_0))); (try have hy141_1 := fun (n_ : Nat) => ((cell_far (p := ⟨gb127, 1, none⟩) (by exact hn141_0) (.int .i64 0)).trans (show (w72.drewN n_).cell? _ = some _ from hs141_1))); (try have hy141_2 := fun (n_ : Nat) => ((cell_far (p := ⟨gb127, 1, none⟩) (by exact hn141_0) (.int .i64 0)).trans (show (w72.drewN n_).cell? _ = some _ from hs141_2))); (try have hy141_3 := fun (n_ : Nat) => ((cell_far (p := ⟨gb127, 1, none⟩) (by exact hn141_0) (.int .i64 0)).trans (show (w72.drewN n_).cell? _ = some _ from hs141_3))); (try have hy141_4 := fun (n_ : Nat) => ((cell_far (p := ⟨gb127, 1, none⟩) (by exact hn141_0) (.int .i64 0)).trans (show (w72.drewN n_).cell? _ = some _ from hs141_4))); clear hs141_0; clear hs141_1; clear hs141_2; clear hs141_3; clear hs141_4; clear hn141_0; replace p141 := eq_true p141; replace q141 := eq_true q141)))
                                                    go_ret
                                                    exact ⟨by first | rfl | (simp [errW_none, errW_some] <;> rfl) | (simp only [← hji49]; first | rfl | (simp [errW_none, errW_some] <;> rfl)) | (simp [*, errW_none, errW_some] <;> rfl), by repeat (first | (with_reducible first | exact HB.out | apply below_alloc | apply pw_below_drewN | apply below_drew1 | refine below_set ?_ GE127.out) | exact HB.out)⟩
                                                · rw [if_neg c65] at H
                                                  exact absurd H (by simp)
                                            · rw [if_neg c59] at H
                                              exact absurd H (by simp)
                                          · rw [if_neg c58] at H
                                            have c58b0 : ((t134.length : Int) == 2) = false := beq_eq_false_iff_ne.mpr c58
                                            have c58b1 : ((t134.length : Int) != 2) = true := bne_iff_ne.mpr c58
                                            obtain rfl := Option.some.inj H
                                            have hcz75_0 : wc.cell? ⟨gb127, 0, none⟩ = some (.int .i64 ((rd_T33 t120 x6_1).f0)) := (blk_cell BK127.out 0).trans rfl
                                            have hcz75_1 : wc.cell? ⟨gb127, 1, none⟩ = some (.int .i64 ((rd_T33 t120 x6_1).f1)) := (blk_cell BK127.out 1).trans rfl
                                            have hcz75_2 : wc.cell? ⟨gb127, 2, none⟩ = some (.string ((rd_T33 t120 x6_1).f2)) := (blk_cell BK127.out 2).trans rfl
                                            have hcz75_3 : wc.cell? ⟨gb127, 3, none⟩ = some (.int .i64 ((rd_T33 t120 x6_1).f3)) := (blk_cell BK127.out 3).trans rfl
                                            have hcz75_4 : wc.cell? ⟨gb127, 4, none⟩ = some (.int .i64 ((rd_T33 t120 x6_1).f4)) := (blk_cell BK127.out 4).trans rfl
                                            have hfz75_0 := blk_frozen BK127.out 0
                                            have hfz75_1 := blk_frozen BK127.out 1
                                            have hfz75_2 := blk_frozen BK127.out 2
                                            have hfz75_3 := blk_frozen BK127.out 3
                                            have hfz75_4 := blk_frozen BK127.out 4
                                            have p133 : 0 ≤ ((ji49) : Int) := of_decide_eq_true (by first | (with_reducible assumption) | assumption)
                                            have q133 : (ji49) < (t120.length : Int) := of_decide_eq_true (by first | (with_reducible assumption) | assumption)
                                            obtain ⟨ad133, e133, hx133_0, hx133_1, hx133_2, hx133_3, hx133_4⟩ := at_T33 (Kd.R_reads' HO_3.out).2.2 (ji49) p133 q133
                                            obtain rfl : ad126 = ad133 := (by injection e133)
                                            replace p133 := eq_true p133
                                            replace q133 := eq_true q133
                                            go_wp2_with (first | (go_at_call 11; (with_reducible refine (words_Scan.calls (a0.extract (((rd_T33 t120 x6_1).f1) : Int).toNat (((rd_T33 t120 (ji49)).f1) : Int).toNat) t134 t135 t136 _ ?side1 A55.out).mono ?_); (case side1 => first | (with_reducible exact HT.out) | (with_reducible exact HT.out.below HB.out) | (with_reducible refine Tabs.below HT.out ?_; repeat (first | (with_reducible first | exact HB.out | apply below_alloc | apply pw_below_drewN | apply below_drew1 | refine below_set ?_ GE127.out) | exact HB.out))); rintro e w76 ⟨v137, rfl, ho0, hb⟩; have n0_ := Aside0.mk (Kd.R_elder' (by (with_reducible repeat (first | apply Kd.R_alloc | apply Kd.R_drewN | apply Kd.R_drew)); exact HO_3.out) (Kd.R_base ho0) hb); have n1_ := Aside0.mk (Kd.R_lower (Kd.R_newB (Kd.R_new' ho0 (Kd.R_lt (by (with_reducible repeat (first | apply Kd.R_alloc | apply Kd.R_drewN | apply Kd.R_drew)); exact HO_3.out))) (g := gb127) (o := .cells #[.int .i64 ((rd_T33 t120 x6_1).f0), .int .i64 ((rd_T33 t120 x6_1).f1), .string ((rd_T33 t120 x6_1).f2), .int .i64 ((rd_T33 t120 x6_1).f3), .int .i64 ((rd_T33 t120 x6_1).f4)] 33 (0, 0)) (by (with_reducible repeat (first | refine blk_drewN ?_ _ | refine blk_drew ?_ | refine blk_alloc ?_ _)); exact BK127.out)) (below_size (by repeat (first | (with_reducible first | exact HB.out | apply below_alloc | apply pw_below_drewN | apply below_drew1 | refine below_set ?_ GE127.out) | exact HB.out)))); have n2_ := Aside0.mk (blk_below (g := gb127) (o := .cells #[.int .i64 ((rd_T33 t120 x6_1).f0), .int .i64 ((rd_T33 t120 x6_1).f1), .string ((rd_T33 t120 x6_1).f2), .int .i64 ((rd_T33 t120 x6_1).f3), .int .i64 ((rd_T33 t120 x6_1).f4)] 33 (0, 0)) (by (with_reducible repeat (first | refine blk_drewN ?_ _ | refine blk_drew ?_ | refine blk_alloc ?_ _)); exact BK127.out) hb); have n3_ := Aside0.mk (below_step (by repeat (first | (with_reducible first | exact HB.out | apply below_alloc | apply pw_below_drewN | apply below_drew1 | refine below_set ?_ GE127.out) | exact HB.out)) hb); clear HO_3; clear BK127; clear HB; have HO_3 := n0_; have HO138 := n1_; have BK127 := n2_; have HB := n3_; clear n0_ n1_ n2_ n3_; (try clear hb); (try clear hb2); (try clear hk); (try clear hi); (try clear ho0); have hcz77_0 : w76.cell? ⟨gb127, 0, none⟩ = some (.int .i64 ((rd_T33 t120 x6_1).f0)) := (blk_cell BK127.out 0).trans rfl; have hcz77_1 : w76.cell? ⟨gb127, 1, none⟩ = some (.int .i64 ((rd_T33 t120 x6_1).f1)) := (blk_cell BK127.out 1).trans rfl; have hcz77_2 : w76.cell? ⟨gb127, 2, none⟩ = some (.string ((rd_T33 t120 x6_1).f2)) := (blk_cell BK127.out 2).trans rfl; have hcz77_3 : w76.cell? ⟨gb127, 3, none⟩ = some (.int .i64 ((rd_T33 t120 x6_1).f3)) := (blk_cell BK127.out 3).trans rfl; have hcz77_4 : w76.cell? ⟨gb127, 4, none⟩ = some (.int .i64 ((rd_T33 t120 x6_1).f4)) := (blk_cell BK127.out 4).trans rfl; have hfz77_0 := blk_frozen BK127.out 0; have hfz77_1 := blk_frozen BK127.out 1; have hfz77_2 := blk_frozen BK127.out 2; have hfz77_3 := blk_frozen BK127.out 3; have hfz77_4 := blk_frozen BK127.out 4) | (go_at_call 13; (with_reducible refine (levylaw4_num.calls t136 t139 _ A56.out).mono ?_); rintro e w' ⟨rfl, ⟨nd, rfl⟩⟩; (try first | exact ⟨rfl, _, World.drewN_drewN _ _ _⟩ | exact ⟨rfl, _, Eq.trans (World.drewN_drewN _ _ _) (congrArg (World.drewN _) (Nat.add_assoc _ _ _))⟩); obtain ⟨Ao78, co78, eo78⟩ := Kd.R_slice HO138.out; subst eo78))
                                            repeat (go_quiet (first | (go_at_call 11; (with_reducible refine (words_Scan.calls (a0.extract (((rd_T33 t120 x6_1).f1) : Int).toNat (((rd_T33 t120 (ji49)).f1) : Int).toNat) t134 t135 t136 _ ?side1 A55.out).mono ?_); (case side1 => first | (with_reducible exact HT.out) | (with_reducible exact HT.out.below HB.out) | (with_reducible refine Tabs.below HT.out ?_; repeat (first | (with_reducible first | exact HB.out | apply below_alloc | apply pw_below_drewN | apply below_drew1 | refine below_set ?_ GE127.out) | exact HB.out))); rintro e w76 ⟨v137, rfl, ho0, hb⟩; have n0_ := Aside0.mk (Kd.R_elder' (by (with_reducible repeat (first | apply Kd.R_alloc | apply Kd.R_drewN | apply Kd.R_drew)); exact HO_3.out) (Kd.R_base ho0) hb); have n1_ := Aside0.mk (Kd.R_lower (Kd.R_newB (Kd.R_new' ho0 (Kd.R_lt (by (with_reducible repeat (first | apply Kd.R_alloc | apply Kd.R_drewN | apply Kd.R_drew)); exact HO_3.out))) (g := gb127) (o := .cells #[.int .i64 ((rd_T33 t120 x6_1).f0), .int .i64 ((rd_T33 t120 x6_1).f1), .string ((rd_T33 t120 x6_1).f2), .int .i64 ((rd_T33 t120 x6_1).f3), .int .i64 ((rd_T33 t120 x6_1).f4)] 33 (0, 0)) (by (with_reducible repeat (first | refine blk_drewN ?_ _ | refine blk_drew ?_ | refine blk_alloc ?_ _)); exact BK127.out)) (below_size (by repeat (first | (with_reducible first | exact HB.out | apply below_alloc | apply pw_below_drewN | apply below_drew1 | refine below_set ?_ GE127.out) | exact HB.out)))); have n2_ := Aside0.mk (blk_below (g := gb127) (o := .cells #[.int .i64 ((rd_T33 t120 x6_1).f0), .int .i64 ((rd_T33 t120 x6_1).f1), .string ((rd_T33 t120 x6_1).f2), .int .i64 ((rd_T33 t120 x6_1).f3), .int .i64 ((rd_T33 t120 x6_1).f4)] 33 (0, 0)) (by (with_reducible repeat (first | refine blk_drewN ?_ _ | refine blk_drew ?_ | refine blk_alloc ?_ _)); exact BK127.out) hb); have n3_ := Aside0.mk (below_step (by repeat (first | (with_reducible first | exact HB.out | apply below_alloc | apply pw_below_drewN | apply below_drew1 | refine below_set ?_ GE127.out) | exact HB.out)) hb); clear HO_3; clear BK127; clear HB; have HO_3 := n0_; have HO138 := n1_; have BK127 := n2_; have HB := n3_; clear n0_ n1_ n2_ n3_; (try clear hb); (try clear hb2); (try clear hk); (try clear hi); (try clear ho0); have hcz77_0 : w76.cell? ⟨gb127, 0, none⟩ = some (.int .i64 ((rd_T33 t120 x6_1).f0)) := (blk_cell BK127.out 0).trans rfl; have hcz77_1 : w76.cell? ⟨gb127, 1, none⟩ = some (.int .i64 ((rd_T33 t120 x6_1).f1)) := (blk_cell BK127.out 1).trans rfl; have hcz77_2 : w76.cell? ⟨gb127, 2, none⟩ = some (.string ((rd_T33 t120 x6_1).f2)) := (blk_cell BK127.out 2).trans rfl; have hcz77_3 : w76.cell? ⟨gb127, 3, none⟩ = some (.int .i64 ((rd_T33 t120 x6_1).f3)) := (blk_cell BK127.out 3).trans rfl; have hcz77_4 : w76.cell? ⟨gb127, 4, none⟩ = some (.int .i64 ((rd_T33 t120 x6_1).f4)) := (blk_cell BK127.out 4).trans rfl; have hfz77_0 := blk_frozen BK127.out 0; have hfz77_1 := blk_frozen BK127.out 1; have hfz77_2 := blk_frozen BK127.out 2; have hfz77_3 := blk_frozen BK127.out 3; have hfz77_4 := blk_frozen BK127.out 4) | (go_at_call 13; (with_reducible refine (levylaw4_num.calls t136 t139 _ A56.out).mono ?_); rintro e w' ⟨rfl, ⟨nd, rfl⟩⟩; (try first | exact ⟨rfl, _, World.drewN_drewN _ _ _⟩ | exact ⟨rfl, _, Eq.trans (World.drewN_drewN _ _ _) (congrArg (World.drewN _) (Nat.add_assoc _ _ _))⟩); obtain ⟨Ao78, co78, eo78⟩ := Kd.R_slice HO138.out; subst eo78)); try go_wp2_with (first | (go_at_call 11; (with_reducible refine (words_Scan.calls (a0.extract (((rd_T33 t120 x6_1).f1) : Int).toNat (((rd_T33 t120 (ji49)).f1) : Int).toNat) t134 t135 t136 _ ?side1 A55.out).mono ?_); (case side1 => first | (with_reducible exact HT.out) | (with_reducible exact HT.out.below HB.out) | (with_reducible refine Tabs.below HT.out ?_; repeat (first | (with_reducible first | exact HB.out | apply below_alloc | apply pw_below_drewN | apply below_drew1 | refine below_set ?_ GE127.out) | exact HB.out))); rintro e w76 ⟨v137, rfl, ho0, hb⟩; have n0_ := Aside0.mk (Kd.R_elder' (by (with_reducible repeat (first | apply Kd.R_alloc | apply Kd.R_drewN | apply Kd.R_drew)); exact HO_3.out) (Kd.R_base ho0) hb); have n1_ := Aside0.mk (Kd.R_lower (Kd.R_newB (Kd.R_new' ho0 (Kd.R_lt (by (with_reducible repeat (first | apply Kd.R_alloc | apply Kd.R_drewN | apply Kd.R_drew)); exact HO_3.out))) (g := gb127) (o := .cells #[.int .i64 ((rd_T33 t120 x6_1).f0), .int .i64 ((rd_T33 t120 x6_1).f1), .string ((rd_T33 t120 x6_1).f2), .int .i64 ((rd_T33 t120 x6_1).f3), .int .i64 ((rd_T33 t120 x6_1).f4)] 33 (0, 0)) (by (with_reducible repeat (first | refine blk_drewN ?_ _ | refine blk_drew ?_ | refine blk_alloc ?_ _)); exact BK127.out)) (below_size (by repeat (first | (with_reducible first | exact HB.out | apply below_alloc | apply pw_below_drewN | apply below_drew1 | refine below_set ?_ GE127.out) | exact HB.out)))); have n2_ := Aside0.mk (blk_below (g := gb127) (o := .cells #[.int .i64 ((rd_T33 t120 x6_1).f0), .int .i64 ((rd_T33 t120 x6_1).f1), .string ((rd_T33 t120 x6_1).f2), .int .i64 ((rd_T33 t120 x6_1).f3), .int .i64 ((rd_T33 t120 x6_1).f4)] 33 (0, 0)) (by (with_reducible repeat (first | refine blk_drewN ?_ _ | refine blk_drew ?_ | refine blk_alloc ?_ _)); exact BK127.out) hb); have n3_ := Aside0.mk (below_step (by repeat (first | (with_reducible first | exact HB.out | apply below_alloc | apply pw_below_drewN | apply below_drew1 | refine below_set ?_ GE127.out) | exact HB.out)) hb); clear HO_3; clear BK127; clear HB; have HO_3 := n0_; have HO138 := n1_; have BK127 := n2_; have HB := n3_; clear n0_ n1_ n2_ n3_; (try clear hb); (try clear hb2); (try clear hk); (try clear hi); (try clear ho0); have hcz77_0 : w76.cell? ⟨gb127, 0, none⟩ = some (.int .i64 ((rd_T33 t120 x6_1).f0)) := (blk_cell BK127.out 0).trans rfl; have hcz77_1 : w76.cell? ⟨gb127, 1, none⟩ = some (.int .i64 ((rd_T33 t120 x6_1).f1)) := (blk_cell BK127.out 1).trans rfl; have hcz77_2 : w76.cell? ⟨gb127, 2, none⟩ = some (.string ((rd_T33 t120 x6_1).f2)) := (blk_cell BK127.out 2).trans rfl; have hcz77_3 : w76.cell? ⟨gb127, 3, none⟩ = some (.int .i64 ((rd_T33 t120 x6_1).f3)) := (blk_cell BK127.out 3).trans rfl; have hcz77_4 : w76.cell? ⟨gb127, 4, none⟩ = some (.int .i64 ((rd_T33 t120 x6_1).f4)) := (blk_cell BK127.out 4).trans rfl; have hfz77_0 := blk_frozen BK127.out 0; have hfz77_1 := blk_frozen BK127.out 1; have hfz77_2 := blk_frozen BK127.out 2; have hfz77_3 := blk_frozen BK127.out 3; have hfz77_4 := blk_frozen BK127.out 4) | (go_at_call 13; (with_reducible refine (levylaw4_num.calls t136 t139 _ A56.out).mono ?_); rintro e w' ⟨rfl, ⟨nd, rfl⟩⟩; (try first | exact ⟨rfl, _, World.drewN_drewN _ _ _⟩ | exact ⟨rfl, _, Eq.trans (World.drewN_drewN _ _ _) (congrArg (World.drewN _) (Nat.add_assoc _ _ _))⟩); obtain ⟨Ao78, co78, eo78⟩ := Kd.R_slice HO138.out; subst eo78)))
                                            go_ret
                                            exact ⟨by first | rfl | (simp [errW_none, errW_some] <;> rfl) | (simp only [← hji49]; first | rfl | (simp [errW_none, errW_some] <;> rfl)) | (simp [*, errW_none, errW_some] <;> rfl), by repeat (first | (with_reducible first | exact HB.out | apply below_alloc | apply pw_below_drewN | apply below_drew1 | refine below_set ?_ GE127.out) | exact HB.out)⟩
                                        · rw [if_neg c57] at H
                                          have c57b0 : (t139 == 0) = false := beq_eq_false_iff_ne.mpr c57
                                          have c57b1 : (t139 != 0) = true := bne_iff_ne.mpr c57
                                          obtain rfl := Option.some.inj H
                                          have hcz79_0 : wc.cell? ⟨gb127, 0, none⟩ = some (.int .i64 ((rd_T33 t120 x6_1).f0)) := (blk_cell BK127.out 0).trans rfl
                                          have hcz79_1 : wc.cell? ⟨gb127, 1, none⟩ = some (.int .i64 ((rd_T33 t120 x6_1).f1)) := (blk_cell BK127.out 1).trans rfl
                                          have hcz79_2 : wc.cell? ⟨gb127, 2, none⟩ = some (.string ((rd_T33 t120 x6_1).f2)) := (blk_cell BK127.out 2).trans rfl
                                          have hcz79_3 : wc.cell? ⟨gb127, 3, none⟩ = some (.int .i64 ((rd_T33 t120 x6_1).f3)) := (blk_cell BK127.out 3).trans rfl
                                          have hcz79_4 : wc.cell? ⟨gb127, 4, none⟩ = some (.int .i64 ((rd_T33 t120 x6_1).f4)) := (blk_cell BK127.out 4).trans rfl
                                          have hfz79_0 := blk_frozen BK127.out 0
                                          have hfz79_1 := blk_frozen BK127.out 1
                                          have hfz79_2 := blk_frozen BK127.out 2
                                          have hfz79_3 := blk_frozen BK127.out 3
                                          have hfz79_4 := blk_frozen BK127.out 4
                                          have p133 : 0 ≤ ((ji49) : Int) := of_decide_eq_true (by first | (with_reducible assumption) | assumption)
                                          have q133 : (ji49) < (t120.length : Int) := of_decide_eq_true (by first | (with_reducible assumption) | assumption)
                                          obtain ⟨ad133, e133, hx133_0, hx133_1, hx133_2, hx133_3, hx133_4⟩ := at_T33 (Kd.R_reads' HO_3.out).2.2 (ji49) p133 q133
                                          obtain rfl : ad126 = ad133 := (by injection e133)
                                          replace p133 := eq_true p133
                                          replace q133 := eq_true q133
                                          go_wp2_with (first | (go_at_call 11; (with_reducible refine (words_Scan.calls (a0.extract (((rd_T33 t120 x6_1).f1) : Int).toNat (((rd_T33 t120 (ji49)).f1) : Int).toNat) t134 t135 t136 _ ?side1 A55.out).mono ?_); (case side1 => first | (with_reducible exact HT.out) | (with_reducible exact HT.out.below HB.out) | (with_reducible refine Tabs.below HT.out ?_; repeat (first | (with_reducible first | exact HB.out | apply below_alloc | apply pw_below_drewN | apply below_drew1 | refine below_set ?_ GE127.out) | exact HB.out))); rintro e w80 ⟨v137, rfl, ho0, hb⟩; have n0_ := Aside0.mk (Kd.R_elder' (by (with_reducible repeat (first | apply Kd.R_alloc | apply Kd.R_drewN | apply Kd.R_drew)); exact HO_3.out) (Kd.R_base ho0) hb); have n1_ := Aside0.mk (Kd.R_lower (Kd.R_newB (Kd.R_new' ho0 (Kd.R_lt (by (with_reducible repeat (first | apply Kd.R_alloc | apply Kd.R_drewN | apply Kd.R_drew)); exact HO_3.out))) (g := gb127) (o := .cells #[.int .i64 ((rd_T33 t120 x6_1).f0), .int .i64 ((rd_T33 t120 x6_1).f1), .string ((rd_T33 t120 x6_1).f2), .int .i64 ((rd_T33 t120 x6_1).f3), .int .i64 ((rd_T33 t120 x6_1).f4)] 33 (0, 0)) (by (with_reducible repeat (first | refine blk_drewN ?_ _ | refine blk_drew ?_ | refine blk_alloc ?_ _)); exact BK127.out)) (below_size (by repeat (first | (with_reducible first | exact HB.out | apply below_alloc | apply pw_below_drewN | apply below_drew1 | refine below_set ?_ GE127.out) | exact HB.out)))); have n2_ := Aside0.mk (blk_below (g := gb127) (o := .cells #[.int .i64 ((rd_T33 t120 x6_1).f0), .int .i64 ((rd_T33 t120 x6_1).f1), .string ((rd_T33 t120 x6_1).f2), .int .i64 ((rd_T33 t120 x6_1).f3), .int .i64 ((rd_T33 t120 x6_1).f4)] 33 (0, 0)) (by (with_reducible repeat (first | refine blk_drewN ?_ _ | refine blk_drew ?_ | refine blk_alloc ?_ _)); exact BK127.out) hb); have n3_ := Aside0.mk (below_step (by repeat (first | (with_reducible first | exact HB.out | apply below_alloc | apply pw_below_drewN | apply below_drew1 | refine below_set ?_ GE127.out) | exact HB.out)) hb); clear HO_3; clear BK127; clear HB; have HO_3 := n0_; have HO138 := n1_; have BK127 := n2_; have HB := n3_; clear n0_ n1_ n2_ n3_; (try clear hb); (try clear hb2); (try clear hk); (try clear hi); (try clear ho0); have hcz81_0 : w80.cell? ⟨gb127, 0, none⟩ = some (.int .i64 ((rd_T33 t120 x6_1).f0)) := (blk_cell BK127.out 0).trans rfl; have hcz81_1 : w80.cell? ⟨gb127, 1, none⟩ = some (.int .i64 ((rd_T33 t120 x6_1).f1)) := (blk_cell BK127.out 1).trans rfl; have hcz81_2 : w80.cell? ⟨gb127, 2, none⟩ = some (.string ((rd_T33 t120 x6_1).f2)) := (blk_cell BK127.out 2).trans rfl; have hcz81_3 : w80.cell? ⟨gb127, 3, none⟩ = some (.int .i64 ((rd_T33 t120 x6_1).f3)) := (blk_cell BK127.out 3).trans rfl; have hcz81_4 : w80.cell? ⟨gb127, 4, none⟩ = some (.int .i64 ((rd_T33 t120 x6_1).f4)) := (blk_cell BK127.out 4).trans rfl; have hfz81_0 := blk_frozen BK127.out 0; have hfz81_1 := blk_frozen BK127.out 1; have hfz81_2 := blk_frozen BK127.out 2; have hfz81_3 := blk_frozen BK127.out 3; have hfz81_4 := blk_frozen BK127.out 4) | (go_at_call 13; (with_reducible refine (levylaw4_num.calls t136 t139 _ A56.out).mono ?_); rintro e w' ⟨rfl, ⟨nd, rfl⟩⟩; (try first | exact ⟨rfl, _, World.drewN_drewN _ _ _⟩ | exact ⟨rfl, _, Eq.trans (World.drewN_drewN _ _ _) (congrArg (World.drewN _) (Nat.add_assoc _ _ _))⟩)))
                                          repeat (go_quiet (first | (go_at_call 11; (with_reducible refine (words_Scan.calls (a0.extract (((rd_T33 t120 x6_1).f1) : Int).toNat (((rd_T33 t120 (ji49)).f1) : Int).toNat) t134 t135 t136 _ ?side1 A55.out).mono ?_); (case side1 => first | (with_reducible exact HT.out) | (with_reducible exact HT.out.below HB.out) | (with_reducible refine Tabs.below HT.out ?_; repeat (first | (with_reducible first | exact HB.out | apply below_alloc | apply pw_below_drewN | apply below_drew1 | refine below_set ?_ GE127.out) | exact HB.out))); rintro e w80 ⟨v137, rfl, ho0, hb⟩; have n0_ := Aside0.mk (Kd.R_elder' (by (with_reducible repeat (first | apply Kd.R_alloc | apply Kd.R_drewN | apply Kd.R_drew)); exact HO_3.out) (Kd.R_base ho0) hb); have n1_ := Aside0.mk (Kd.R_lower (Kd.R_newB (Kd.R_new' ho0 (Kd.R_lt (by (with_reducible repeat (first | apply Kd.R_alloc | apply Kd.R_drewN | apply Kd.R_drew)); exact HO_3.out))) (g := gb127) (o := .cells #[.int .i64 ((rd_T33 t120 x6_1).f0), .int .i64 ((rd_T33 t120 x6_1).f1), .string ((rd_T33 t120 x6_1).f2), .int .i64 ((rd_T33 t120 x6_1).f3), .int .i64 ((rd_T33 t120 x6_1).f4)] 33 (0, 0)) (by (with_reducible repeat (first | refine blk_drewN ?_ _ | refine blk_drew ?_ | refine blk_alloc ?_ _)); exact BK127.out)) (below_size (by repeat (first | (with_reducible first | exact HB.out | apply below_alloc | apply pw_below_drewN | apply below_drew1 | refine below_set ?_ GE127.out) | exact HB.out)))); have n2_ := Aside0.mk (blk_below (g := gb127) (o := .cells #[.int .i64 ((rd_T33 t120 x6_1).f0), .int .i64 ((rd_T33 t120 x6_1).f1), .string ((rd_T33 t120 x6_1).f2), .int .i64 ((rd_T33 t120 x6_1).f3), .int .i64 ((rd_T33 t120 x6_1).f4)] 33 (0, 0)) (by (with_reducible repeat (first | refine blk_drewN ?_ _ | refine blk_drew ?_ | refine blk_alloc ?_ _)); exact BK127.out) hb); have n3_ := Aside0.mk (below_step (by repeat (first | (with_reducible first | exact HB.out | apply below_alloc | apply pw_below_drewN | apply below_drew1 | refine below_set ?_ GE127.out) | exact HB.out)) hb); clear HO_3; clear BK127; clear HB; have HO_3 := n0_; have HO138 := n1_; have BK127 := n2_; have HB := n3_; clear n0_ n1_ n2_ n3_; (try clear hb); (try clear hb2); (try clear hk); (try clear hi); (try clear ho0); have hcz81_0 : w80.cell? ⟨gb127, 0, none⟩ = some (.int .i64 ((rd_T33 t120 x6_1).f0)) := (blk_cell BK127.out 0).trans rfl; have hcz81_1 : w80.cell? ⟨gb127, 1, none⟩ = some (.int .i64 ((rd_T33 t120 x6_1).f1)) := (blk_cell BK127.out 1).trans rfl; have hcz81_2 : w80.cell? ⟨gb127, 2, none⟩ = some (.string ((rd_T33 t120 x6_1).f2)) := (blk_cell BK127.out 2).trans rfl; have hcz81_3 : w80.cell? ⟨gb127, 3, none⟩ = some (.int .i64 ((rd_T33 t120 x6_1).f3)) := (blk_cell BK127.out 3).trans rfl; have hcz81_4 : w80.cell? ⟨gb127, 4, none⟩ = some (.int .i64 ((rd_T33 t120 x6_1).f4)) := (blk_cell BK127.out 4).trans rfl; have hfz81_0 := blk_frozen BK127.out 0; have hfz81_1 := blk_frozen BK127.out 1; have hfz81_2 := blk_frozen BK127.out 2; have hfz81_3 := blk_frozen BK127.out 3; have hfz81_4 := blk_frozen BK127.out 4) | (go_at_call 13; (with_reducible refine (levylaw4_num.calls t136 t139 _ A56.out).mono ?_); rintro e w' ⟨rfl, ⟨nd, rfl⟩⟩; (try first | exact ⟨rfl, _, World.drewN_drewN _ _ _⟩ | exact ⟨rfl, _, Eq.trans (World.drewN_drewN _ _ _) (congrArg (World.drewN _) (Nat.add_assoc _ _ _))⟩))); try go_wp2_with (first | (go_at_call 11; (with_reducible refine (words_Scan.calls (a0.extract (((rd_T33 t120 x6_1).f1) : Int).toNat (((rd_T33 t120 (ji49)).f1) : Int).toNat) t134 t135 t136 _ ?side1 A55.out).mono ?_); (case side1 => first | (with_reducible exact HT.out) | (with_reducible exact HT.out.below HB.out) | (with_reducible refine Tabs.below HT.out ?_; repeat (first | (with_reducible first | exact HB.out | apply below_alloc | apply pw_below_drewN | apply below_drew1 | refine below_set ?_ GE127.out) | exact HB.out))); rintro e w80 ⟨v137, rfl, ho0, hb⟩; have n0_ := Aside0.mk (Kd.R_elder' (by (with_reducible repeat (first | apply Kd.R_alloc | apply Kd.R_drewN | apply Kd.R_drew)); exact HO_3.out) (Kd.R_base ho0) hb); have n1_ := Aside0.mk (Kd.R_lower (Kd.R_newB (Kd.R_new' ho0 (Kd.R_lt (by (with_reducible repeat (first | apply Kd.R_alloc | apply Kd.R_drewN | apply Kd.R_drew)); exact HO_3.out))) (g := gb127) (o := .cells #[.int .i64 ((rd_T33 t120 x6_1).f0), .int .i64 ((rd_T33 t120 x6_1).f1), .string ((rd_T33 t120 x6_1).f2), .int .i64 ((rd_T33 t120 x6_1).f3), .int .i64 ((rd_T33 t120 x6_1).f4)] 33 (0, 0)) (by (with_reducible repeat (first | refine blk_drewN ?_ _ | refine blk_drew ?_ | refine blk_alloc ?_ _)); exact BK127.out)) (below_size (by repeat (first | (with_reducible first | exact HB.out | apply below_alloc | apply pw_below_drewN | apply below_drew1 | refine below_set ?_ GE127.out) | exact HB.out)))); have n2_ := Aside0.mk (blk_below (g := gb127) (o := .cells #[.int .i64 ((rd_T33 t120 x6_1).f0), .int .i64 ((rd_T33 t120 x6_1).f1), .string ((rd_T33 t120 x6_1).f2), .int .i64 ((rd_T33 t120 x6_1).f3), .int .i64 ((rd_T33 t120 x6_1).f4)] 33 (0, 0)) (by (with_reducible repeat (first | refine blk_drewN ?_ _ | refine blk_drew ?_ | refine blk_alloc ?_ _)); exact BK127.out) hb); have n3_ := Aside0.mk (below_step (by repeat (first | (with_reducible first | exact HB.out | apply below_alloc | apply pw_below_drewN | apply below_drew1 | refine below_set ?_ GE127.out) | exact HB.out)) hb); clear HO_3; clear BK127; clear HB; have HO_3 := n0_; have HO138 := n1_; have BK127 := n2_; have HB := n3_; clear n0_ n1_ n2_ n3_; (try clear hb); (try clear hb2); (try clear hk); (try clear hi); (try clear ho0); have hcz81_0 : w80.cell? ⟨gb127, 0, none⟩ = some (.int .i64 ((rd_T33 t120 x6_1).f0)) := (blk_cell BK127.out 0).trans rfl; have hcz81_1 : w80.cell? ⟨gb127, 1, none⟩ = some (.int .i64 ((rd_T33 t120 x6_1).f1)) := (blk_cell BK127.out 1).trans rfl; have hcz81_2 : w80.cell? ⟨gb127, 2, none⟩ = some (.string ((rd_T33 t120 x6_1).f2)) := (blk_cell BK127.out 2).trans rfl; have hcz81_3 : w80.cell? ⟨gb127, 3, none⟩ = some (.int .i64 ((rd_T33 t120 x6_1).f3)) := (blk_cell BK127.out 3).trans rfl; have hcz81_4 : w80.cell? ⟨gb127, 4, none⟩ = some (.int .i64 ((rd_T33 t120 x6_1).f4)) := (blk_cell BK127.out 4).trans rfl; have hfz81_0 := blk_frozen BK127.out 0; have hfz81_1 := blk_frozen BK127.out 1; have hfz81_2 := blk_frozen BK127.out 2; have hfz81_3 := blk_frozen BK127.out 3; have hfz81_4 := blk_frozen BK127.out 4) | (go_at_call 13; (with_reducible refine (levylaw4_num.calls t136 t139 _ A56.out).mono ?_); rintro e w' ⟨rfl, ⟨nd, rfl⟩⟩; (try first | exact ⟨rfl, _, World.drewN_drewN _ _ _⟩ | exact ⟨rfl, _, Eq.trans (World.drewN_drewN _ _ _) (congrArg (World.drewN _) (Nat.add_assoc _ _ _))⟩))))
                                          go_ret
                                          exact ⟨by first | rfl | (simp [errW_none, errW_some] <;> rfl) | (simp only [← hji49]; first | rfl | (simp [errW_none, errW_some] <;> rfl)) | (simp [*, errW_none, errW_some] <;> rfl), by repeat (first | (with_reducible first | exact HB.out | apply below_alloc | apply pw_below_drewN | apply below_drew1 | refine below_set ?_ GE127.out) | exact HB.out)⟩
                                      · rw [if_neg c54] at H
                                        exact absurd H (by simp)
                                    · rw [if_neg c53] at H
                                      exact absurd H (by simp)
                                  · rw [if_neg c52] at H
                                    exact absurd H (by simp)
                                · rw [if_neg c51] at H
                                  exact absurd H (by simp)
                              · rw [if_neg c50] at H
                                exact absurd H (by simp)
              · rw [if_neg c12] at H
                exact absurd H (by simp)
            · rw [if_neg c11] at H
              have c11b0 : decide (x6_1 < (t120.length : Int)) = false := decide_eq_false c11
              clear c11
              obtain rfl := Option.some.inj H
              obtain ⟨Ao82, co82, eo82⟩ := Kd.R_slice HO_3.out
              subst eo82
              go_wp2
              repeat (go_quiet (fail); try go_wp2)
              go_ret
              exact ⟨by first | rfl | (simp [errW_none, errW_some] <;> rfl) | (simp [*, errW_none, errW_some] <;> rfl), by repeat (first | (with_reducible first | exact HB.out | apply below_alloc | apply pw_below_drewN | apply below_drew1) | exact HB.out)⟩
      · rw [if_neg c8] at H
        have c8b0 : (t125 == 0) = false := beq_eq_false_iff_ne.mpr c8
        have c8b1 : (t125 != 0) = true := bne_iff_ne.mpr c8
        obtain rfl := Option.some.inj H
        go_enter Tryd.func4, Tryd.ntmps4
        go_wp2_with (first | (go_at_call 15; (with_reducible refine (levylaw4_known.calls k  true _ ?side1 A2.out).mono ?_); (case side1 => first | (with_reducible exact HT.out) | (with_reducible exact HT.out.below HB.out) | (with_reducible refine Tabs.below HT.out ?_; repeat (first | (with_reducible first | exact HB.out | apply below_alloc | apply pw_below_drewN | apply below_drew1) | exact HB.out))); rintro e w83 ⟨rfl, hb⟩; have n0_ := Aside0.mk (below_step (by repeat (first | (with_reducible first | exact HB.out | apply below_alloc | apply pw_below_drewN | apply below_drew1) | exact HB.out)) hb); clear HB; have HB := n0_; clear n0_; (try clear hb); (try clear hb2); (try clear hk); (try clear hi)) | (go_at_call 11; (with_reducible refine (words_Scan.calls a0 t120 t121 t122 _ ?side1 A6.out).mono ?_); (case side1 => first | (with_reducible exact HT.out) | (with_reducible exact HT.out.below HB.out) | (with_reducible refine Tabs.below HT.out ?_; repeat (first | (with_reducible first | exact HB.out | apply below_alloc | apply pw_below_drewN | apply below_drew1) | exact HB.out))); rintro e w84 ⟨v123, rfl, ho0, hb⟩; have n0_ := Aside0.mk (Kd.R_lower ho0 (below_size (by repeat (first | (with_reducible first | exact HB.out | apply below_alloc | apply pw_below_drewN | apply below_drew1) | exact HB.out)))); have n1_ := Aside0.mk (below_step (by repeat (first | (with_reducible first | exact HB.out | apply below_alloc | apply pw_below_drewN | apply below_drew1) | exact HB.out)) hb); clear HB; have HO124 := n0_; have HB := n1_; clear n0_ n1_; (try clear hb); (try clear hb2); (try clear hk); (try clear hi); (try clear ho0)) | (go_at_call 13; (with_reducible refine (levylaw4_num.calls t122 t125 _ A7.out).mono ?_); rintro e w' ⟨rfl, ⟨nd, rfl⟩⟩; (try first | exact ⟨rfl, _, World.drewN_drewN _ _ _⟩ | exact ⟨rfl, _, Eq.trans (World.drewN_drewN _ _ _) (congrArg (World.drewN _) (Nat.add_assoc _ _ _))⟩)))
        repeat (go_quiet (first | (go_at_call 15; (with_reducible refine (levylaw4_known.calls k  true _ ?side1 A2.out).mono ?_); (case side1 => first | (with_reducible exact HT.out) | (with_reducible exact HT.out.below HB.out) | (with_reducible refine Tabs.below HT.out ?_; repeat (first | (with_reducible first | exact HB.out | apply below_alloc | apply pw_below_drewN | apply below_drew1) | exact HB.out))); rintro e w83 ⟨rfl, hb⟩; have n0_ := Aside0.mk (below_step (by repeat (first | (with_reducible first | exact HB.out | apply below_alloc | apply pw_below_drewN | apply below_drew1) | exact HB.out)) hb); clear HB; have HB := n0_; clear n0_; (try clear hb); (try clear hb2); (try clear hk); (try clear hi)) | (go_at_call 11; (with_reducible refine (words_Scan.calls a0 t120 t121 t122 _ ?side1 A6.out).mono ?_); (case side1 => first | (with_reducible exact HT.out) | (with_reducible exact HT.out.below HB.out) | (with_reducible refine Tabs.below HT.out ?_; repeat (first | (with_reducible first | exact HB.out | apply below_alloc | apply pw_below_drewN | apply below_drew1) | exact HB.out))); rintro e w84 ⟨v123, rfl, ho0, hb⟩; have n0_ := Aside0.mk (Kd.R_lower ho0 (below_size (by repeat (first | (with_reducible first | exact HB.out | apply below_alloc | apply pw_below_drewN | apply below_drew1) | exact HB.out)))); have n1_ := Aside0.mk (below_step (by repeat (first | (with_reducible first | exact HB.out | apply below_alloc | apply pw_below_drewN | apply below_drew1) | exact HB.out)) hb); clear HB; have HO124 := n0_; have HB := n1_; clear n0_ n1_; (try clear hb); (try clear hb2); (try clear hk); (try clear hi); (try clear ho0)) | (go_at_call 13; (with_reducible refine (levylaw4_num.calls t122 t125 _ A7.out).mono ?_); rintro e w' ⟨rfl, ⟨nd, rfl⟩⟩; (try first | exact ⟨rfl, _, World.drewN_drewN _ _ _⟩ | exact ⟨rfl, _, Eq.trans (World.drewN_drewN _ _ _) (congrArg (World.drewN _) (Nat.add_assoc _ _ _))⟩))); try go_wp2_with (first | (go_at_call 15; (with_reducible refine (levylaw4_known.calls k  true _ ?side1 A2.out).mono ?_); (case side1 => first | (with_reducible exact HT.out) | (with_reducible exact HT.out.below HB.out) | (with_reducible refine Tabs.below HT.out ?_; repeat (first | (with_reducible first | exact HB.out | apply below_alloc | apply pw_below_drewN | apply below_drew1) | exact HB.out))); rintro e w83 ⟨rfl, hb⟩; have n0_ := Aside0.mk (below_step (by repeat (first | (with_reducible first | exact HB.out | apply below_alloc | apply pw_below_drewN | apply below_drew1) | exact HB.out)) hb); clear HB; have HB := n0_; clear n0_; (try clear hb); (try clear hb2); (try clear hk); (try clear hi)) | (go_at_call 11; (with_reducible refine (words_Scan.calls a0 t120 t121 t122 _ ?side1 A6.out).mono ?_); (case side1 => first | (with_reducible exact HT.out) | (with_reducible exact HT.out.below HB.out) | (with_reducible refine Tabs.below HT.out ?_; repeat (first | (with_reducible first | exact HB.out | apply below_alloc | apply pw_below_drewN | apply below_drew1) | exact HB.out))); rintro e w84 ⟨v123, rfl, ho0, hb⟩; have n0_ := Aside0.mk (Kd.R_lower ho0 (below_size (by repeat (first | (with_reducible first | exact HB.out | apply below_alloc | apply pw_below_drewN | apply below_drew1) | exact HB.out)))); have n1_ := Aside0.mk (below_step (by repeat (first | (with_reducible first | exact HB.out | apply below_alloc | apply pw_below_drewN | apply below_drew1) | exact HB.out)) hb); clear HB; have HO124 := n0_; have HB := n1_; clear n0_ n1_; (try clear hb); (try clear hb2); (try clear hk); (try clear hi); (try clear ho0)) | (go_at_call 13; (with_reducible refine (levylaw4_num.calls t122 t125 _ A7.out).mono ?_); rintro e w' ⟨rfl, ⟨nd, rfl⟩⟩; (try first | exact ⟨rfl, _, World.drewN_drewN _ _ _⟩ | exact ⟨rfl, _, Eq.trans (World.drewN_drewN _ _ _) (congrArg (World.drewN _) (Nat.add_assoc _ _ _))⟩))))
        go_ret
        exact ⟨by first | rfl | (simp [errW_none, errW_some] <;> rfl) | (simp [*, errW_none, errW_some] <;> rfl), by repeat (first | (with_reducible first | exact HB.out | apply below_alloc | apply pw_below_drewN | apply below_drew1) | exact HB.out)⟩
  · replace c3 := Bool.eq_false_iff.mpr c3
    subst c3
    have H1 : (some false) = some r := by rw [if_neg (show ¬ (false = true) by decide)] at H; exact H
    clear H
    have H := H1
    clear H1
    obtain rfl := Option.some.inj H
    go_enter Tryd.func4, Tryd.ntmps4
    go_wp2_with (first | (go_at_call 15; (with_reducible refine (levylaw4_known.calls k  false _ ?side1 A2.out).mono ?_); (case side1 => first | (with_reducible exact HT.out) | (with_reducible exact HT.out.below HB.out) | (with_reducible refine Tabs.below HT.out ?_; repeat (first | (with_reducible first | exact HB.out | apply below_alloc | apply pw_below_drewN | apply below_drew1) | exact HB.out))); rintro e w85 ⟨rfl, hb⟩; have n0_ := Aside0.mk (below_step (by repeat (first | (with_reducible first | exact HB.out | apply below_alloc | apply pw_below_drewN | apply below_drew1) | exact HB.out)) hb); clear HB; have HB := n0_; clear n0_; (try clear hb); (try clear hb2); (try clear hk); (try clear hi)))
    repeat (go_quiet (first | (go_at_call 15; (with_reducible refine (levylaw4_known.calls k  false _ ?side1 A2.out).mono ?_); (case side1 => first | (with_reducible exact HT.out) | (with_reducible exact HT.out.below HB.out) | (with_reducible refine Tabs.below HT.out ?_; repeat (first | (with_reducible first | exact HB.out | apply below_alloc | apply pw_below_drewN | apply below_drew1) | exact HB.out))); rintro e w85 ⟨rfl, hb⟩; have n0_ := Aside0.mk (below_step (by repeat (first | (with_reducible first | exact HB.out | apply below_alloc | apply pw_below_drewN | apply below_drew1) | exact HB.out)) hb); clear HB; have HB := n0_; clear n0_; (try clear hb); (try clear hb2); (try clear hk); (try clear hi))); try go_wp2_with (first | (go_at_call 15; (with_reducible refine (levylaw4_known.calls k  false _ ?side1 A2.out).mono ?_); (case side1 => first | (with_reducible exact HT.out) | (with_reducible exact HT.out.below HB.out) | (with_reducible refine Tabs.below HT.out ?_; repeat (first | (with_reducible first | exact HB.out | apply below_alloc | apply pw_below_drewN | apply below_drew1) | exact HB.out))); rintro e w85 ⟨rfl, hb⟩; have n0_ := Aside0.mk (below_step (by repeat (first | (with_reducible first | exact HB.out | apply below_alloc | apply pw_below_drewN | apply below_drew1) | exact HB.out)) hb); clear HB; have HB := n0_; clear n0_; (try clear hb); (try clear hb2); (try clear hk); (try clear hi))))
    go_ret
    exact ⟨by first | rfl | (simp [errW_none, errW_some] <;> rfl) | (simp [*, errW_none, errW_some] <;> rfl), by repeat (first | (with_reducible first | exact HB.out | apply below_alloc | apply pw_below_drewN | apply below_drew1) | exact HB.out)⟩

/-- THE ONE PURE STATEMENT of levylaw4_WordsPlaces: yours. -/
def levylaw4_WordsPlaces.Pure : Prop := ∀ (a0 : ByteArray), a0.size ≤ 140737488351232 → ∃ k, levylaw4_WordsPlaces.f k a0 = some true
theorem levylaw4_WordsPlaces.walk (P : levylaw4_WordsPlaces.Pure) (a0 : ByteArray) (w : World) (hT : Tabs w) (w0 : a0.size ≤ 140737488351232) :
    Calls Tryd.prog 4 #[.string a0] w fun e w' => e = .returned (.bool true) ∧ Below w.heap.size w w' := by
  obtain ⟨k, h⟩ := P a0 w0
  refine (levylaw4_WordsPlaces.calls k a0 true w hT h).mono ?_
  rintro e w' ⟨rfl, hd⟩
  exact ⟨rfl, hd⟩

end Go.Proofs.YtidbcenbcllfnaaDoor.PA
