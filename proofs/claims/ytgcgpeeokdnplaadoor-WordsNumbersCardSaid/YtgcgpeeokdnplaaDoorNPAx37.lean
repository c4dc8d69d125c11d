/- The Go functions of this seat that the laws of part A come to, each as a plain Lean function ('f', its loops 'l0' ..) with a proof that the call comes to its answer. Conditions: where a function comes to a package-level table, the world holds that table ('Tabs'). Written by a program of this session (a changed copy of the print). -/
import Derived.Test.YtgcgpeeokdnplaaDoorNPAx0
import Derived.Test.YtgcgpeeokdnplaaDoorNPAx34
import Derived.Test.YtgcgpeeokdnplaaDoorNPAx35
namespace Go.Proofs.YtgcgpeeokdnplaaDoor.PA
open Go.RowKit Go.Proofs.YtgcgpeeokdnplaaDoorW.PrintWords Go.Proofs.YtgcgpeeokdnplaaDoorW.PrintLast Go.Proofs.YtgcgpeeokdnplaaDoorW.PrintMore
attribute [local go_sem] max2_int min2_int max_two min_two max_three min_three max_four min_four   -- for this text's walks alone
set_option linter.unusedVariables false
set_option linter.unusedSimpArgs false

/-! ### words_scanner_dated: function 54 -/
def words_scanner_dated.l0 : Nat → Int → Int → ByteArray → Int → Bool → Int → Int → Option (Bool × ByteArray × Int × Bool × Int × Int)
  | 0, _, _, _, _, _, _, _ => none
  | k + 1, x1, x6, x1000, x1001, x1002, x1003, x1004 => if x6 < 10 then (if 0 ≤ x6 then (if (bt (⟨#[48, 48, 48, 48, 45, 48, 48, 45, 48, 48]⟩ : ByteArray) x6) = 48 then ((words_scanner_is.f x1000 x1001 x1002 x1003 x1004 (wrap64 (x1 + x6)) 2).bind fun bt290 => (if bt290.1 = true then (if (bt (⟨#[48, 48, 48, 48, 45, 48, 48, 45, 48, 48]⟩ : ByteArray) x6) = 45 then (if (wrap64 (x1 + x6)) ≥ (bt290.2.1.size : Int) then (some (false, bt290.2.1, bt290.2.2.1, bt290.2.2.2.1, bt290.2.2.2.2.1, bt290.2.2.2.2.2)) else (if 0 ≤ (wrap64 (x1 + x6)) then (if (wrap64 (x1 + x6)) < (bt290.2.1.size : Int) then (if (bt bt290.2.1 (wrap64 (x1 + x6))) = 45 then (words_scanner_dated.l0 k x1 (wrap64 (x6 + 1)) bt290.2.1 bt290.2.2.1 bt290.2.2.2.1 bt290.2.2.2.2.1 bt290.2.2.2.2.2) else (some (false, bt290.2.1, bt290.2.2.1, bt290.2.2.2.1, bt290.2.2.2.2.1, bt290.2.2.2.2.2))) else (none)) else (none))) else (words_scanner_dated.l0 k x1 (wrap64 (x6 + 1)) bt290.2.1 bt290.2.2.1 bt290.2.2.2.1 bt290.2.2.2.2.1 bt290.2.2.2.2.2)) else (some (false, bt290.2.1, bt290.2.2.1, bt290.2.2.2.1, bt290.2.2.2.2.1, bt290.2.2.2.2.2)))) else (if (bt (⟨#[48, 48, 48, 48, 45, 48, 48, 45, 48, 48]⟩ : ByteArray) x6) = 45 then (if (wrap64 (x1 + x6)) ≥ (x1000.size : Int) then (some (false, x1000, x1001, x1002, x1003, x1004)) else (if 0 ≤ (wrap64 (x1 + x6)) then (if (wrap64 (x1 + x6)) < (x1000.size : Int) then (if (bt x1000 (wrap64 (x1 + x6))) = 45 then (words_scanner_dated.l0 k x1 (wrap64 (x6 + 1)) x1000 x1001 x1002 x1003 x1004) else (some (false, x1000, x1001, x1002, x1003, x1004))) else (none)) else (none))) else (words_scanner_dated.l0 k x1 (wrap64 (x6 + 1)) x1000 x1001 x1002 x1003 x1004))) else (none)) else (some (true, x1000, x1001, x1002, x1003, x1004))
def words_scanner_dated.f (k : Nat) (s0_0 : ByteArray) (s0_1 : Int) (s0_2 : Bool) (s0_3 : Int) (s0_4 : Int) (a1 : Int) : Option (Bool × ByteArray × Int × Bool × Int × Int) := words_scanner_dated.l0 k a1 0 s0_0 s0_1 s0_2 s0_3 s0_4
theorem words_scanner_dated.mono_l : ∀ k, (∀ y0 y1 y2 y3 y4 y5 y6, LeO (words_scanner_dated.l0 k y0 y1 y2 y3 y4 y5 y6) (words_scanner_dated.l0 (k + 1) y0 y1 y2 y3 y4 y5 y6))
  | 0 => fun _ _ _ _ _ _ _ r h => by simp [words_scanner_dated.l0] at h
  | k + 1 => by
    have ih0 := words_scanner_dated.mono_l k
    · intro y0 y1 y2 y3 y4 y5 y6
      unfold words_scanner_dated.l0
      repeat' first
      | (with_reducible exact ih0 _ _ _ _ _ _ _)
      | (with_reducible exact LeO.refl _)
      | (with_reducible exact LeO.none _)
      | (with_reducible refine LeO.ite ?_ ?_)
      | (with_reducible refine LeO.bind ?_ (fun _ => ?_))
      | exact ih0 _ _ _ _ _ _ _
      | exact LeO.none _
      | refine LeO.ite ?_ ?_
      | refine LeO.bind ?_ (fun _ => ?_)
theorem words_scanner_dated.mono : ∀ a0 a1 a2 a3 a4 a5 k, LeO (words_scanner_dated.f k a0 a1 a2 a3 a4 a5) (words_scanner_dated.f (k + 1) a0 a1 a2 a3 a4 a5) := by
  intro a0 a1 a2 a3 a4 a5 k
  have ih0 := words_scanner_dated.mono_l k
  unfold words_scanner_dated.f
  repeat' first
      | (with_reducible exact ih0 _ _ _ _ _ _ _)
      | (with_reducible exact LeO.refl _)
      | (with_reducible exact LeO.none _)
      | (with_reducible refine LeO.ite ?_ ?_)
      | (with_reducible refine LeO.bind ?_ (fun _ => ?_))
      | exact ih0 _ _ _ _ _ _ _
      | exact LeO.none _
      | refine LeO.ite ?_ ?_
      | refine LeO.bind ?_ (fun _ => ?_)
set_option maxHeartbeats 8000000 in
set_option maxRecDepth 100000 in
theorem words_scanner_dated.calls (k : Nat) (g : Nat) (s0_0 : ByteArray) (s0_1 : Int) (s0_2 : Bool) (s0_3 : Int) (s0_4 : Int) (a1 : Int) (r1 : Bool) (r2 : ByteArray) (r3 : Int) (r4 : Bool) (r5 : Int) (r6 : Int) (w0 w : World) (hT : Tabs w0) (hI : IsS42 w0 w g s0_0 s0_1 s0_2 s0_3 s0_4) (hB : Below w0.heap.size w0 w) (h : words_scanner_dated.f k s0_0 s0_1 s0_2 s0_3 s0_4 a1 = some (r1, r2, r3, r4, r5, r6)) :
    Calls Tryd.prog 54 #[.pointer (some ⟨g, 0, none⟩), .int .i64 a1] w fun e w' => e = .returned (.bool r1) ∧ IsS42 w0 w' g r2 r3 r4 r5 r6 ∧ Below w0.heap.size w0 w' ∧ KeepBut w w' g none := by
  have HI0 := Aside0.mk hI
  have HK := Aside0.mk (KeepBut.refl w g none)
  have HL := Aside0.mk hB.size
  clear hI
  have HW0 := Aside0.mk hB.size
  have HB := Aside0.mk hB
  clear hB
  have HT := Aside0.mk hT
  clear hT
  have H : (words_scanner_dated.l0 k a1 0 s0_0 s0_1 s0_2 s0_3 s0_4) = some (r1, r2, r3, r4, r5, r6) := h
  clear h
  have H' := Aside0.mk H
  clear H
  go_enter Tryd.func54, Tryd.ntmps54
  go_wp2
  go_loopg [6] k (fun kq v6 w' => ∃ (x6_1 : Int) (x1000_1 : ByteArray) (x1001_1 : Int) (x1002_1 : Bool) (x1003_1 : Int) (x1004_1 : Int), v6 = .int .i64 x6_1 ∧ Aside0 (words_scanner_dated.l0 kq a1 x6_1 x1000_1 x1001_1 x1002_1 x1003_1 x1004_1 = some (r1, r2, r3, r4, r5, r6)) ∧ Aside0 (kq ≤ k) ∧ Aside0 (IsS42 w0 w' g x1000_1 x1001_1 x1002_1 x1003_1 x1004_1) ∧ Aside0 (KeepBut w w' g none) ∧ Aside0 (Below w0.heap.size w0 w'))
  case atStart => exact ⟨(0), (s0_0), (s0_1), (s0_2), (s0_3), (s0_4), (by first | rfl | (simp; done) | (simp [*]; done)), H', ⟨Nat.le_refl _⟩, ⟨by repeat (first | (with_reducible first | exact HI0.out | apply IsS42.alloc | apply IsS42.drewN | apply IsS42.drew | apply IsS42.set_0 | apply IsS42.set_1 | apply IsS42.set_2 | apply IsS42.set_3 | apply IsS42.set_4) | exact HI0.out)⟩, ⟨by repeat (first | (with_reducible first | exact HK.out | apply KeepBut.set_ | apply keep_drewN | apply keep_drew | apply keep_alloc) | exact HK.out)⟩, ⟨by repeat (first | (with_reducible first | exact HB.out | apply below_alloc | apply pw_below_drewN | apply below_drew1 | refine below_set ?_ (IsS42.ge HI0.out)) | exact HB.out)⟩⟩
  case round =>
    clear H'
    try clear p2
    obtain ⟨x6_1, x1000_1, x1001_1, x1002_1, x1003_1, x1004_1, rfl, HA, HK1, HI0, HK, HB⟩ := hrel
    cases gk with
    | zero => exact absurd HA.out (by simp [words_scanner_dated.l0])
    | succ k1 =>
      have H := HA.out
      clear HA
      simp only [words_scanner_dated.l0] at H
      by_cases c3 : x6_1 < 10
      · rw [if_pos c3] at H
        have c3b0 : decide (x6_1 < 10) = true := decide_eq_true c3
        clear c3
        by_cases c4 : 0 ≤ x6_1
        · rw [if_pos c4] at H
          have c4b0 : decide (0 ≤ x6_1) = true := decide_eq_true c4
          clear c4
          by_cases c6 : (bt (⟨#[48, 48, 48, 48, 45, 48, 48, 45, 48, 48]⟩ : ByteArray) x6_1) = 48
          · rw [if_pos c6] at H
            have c6b0 : ((bt (⟨#[48, 48, 48, 48, 45, 48, 48, 45, 48, 48]⟩ : ByteArray) x6_1) == 48) = true := beq_iff_eq.mpr c6
            have c6b1 : ((bt (⟨#[48, 48, 48, 48, 45, 48, 48, 45, 48, 48]⟩ : ByteArray) x6_1) != 48) = false := bne_eq_false_iff_eq.mpr c6
            clear c6
            replace H := Option.bind_eq_some_iff.mp H
            obtain ⟨⟨t290, t291, t292, t293, t294, t295⟩, A70, H⟩ := H
            replace H : (if t290 = true then (if (bt (⟨#[48, 48, 48, 48, 45, 48, 48, 45, 48, 48]⟩ : ByteArray) x6_1) = 45 then (if (wrap64 (a1 + x6_1)) ≥ (t291.size : Int) then (some (false, t291, t292, t293, t294, t295)) else (if 0 ≤ (wrap64 (a1 + x6_1)) then (if (wrap64 (a1 + x6_1)) < (t291.size : Int) then (if (bt t291 (wrap64 (a1 + x6_1))) = 45 then (words_scanner_dated.l0 k1 a1 (wrap64 (x6_1 + 1)) t291 t292 t293 t294 t295) else (some (false, t291, t292, t293, t294, t295))) else (none)) else (none))) else (words_scanner_dated.l0 k1 a1 (wrap64 (x6_1 + 1)) t291 t292 t293 t294 t295)) else (some (false, t291, t292, t293, t294, t295))) = some (r1, r2, r3, r4, r5, r6) := H
            have A7 := Aside0.mk A70
            clear A70
            by_cases c8 : t290 = true
            · subst c8
              have H1 : (if (bt (⟨#[48, 48, 48, 48, 45, 48, 48, 45, 48, 48]⟩ : ByteArray) x6_1) = 45 then (if (wrap64 (a1 + x6_1)) ≥ (t291.size : Int) then (some (false, t291, t292, t293, t294, t295)) else (if 0 ≤ (wrap64 (a1 + x6_1)) then (if (wrap64 (a1 + x6_1)) < (t291.size : Int) then (if (bt t291 (wrap64 (a1 + x6_1))) = 45 then (words_scanner_dated.l0 k1 a1 (wrap64 (x6_1 + 1)) t291 t292 t293 t294 t295) else (some (false, t291, t292, t293, t294, t295))) else (none)) else (none))) else (words_scanner_dated.l0 k1 a1 (wrap64 (x6_1 + 1)) t291 t292 t293 t294 t295)) = some (r1, r2, r3, r4, r5, r6) := by rw [if_pos rfl] at H; exact H
              clear H
              have H := H1
              clear H1
              by_cases c10 : (bt (⟨#[48, 48, 48, 48, 45, 48, 48, 45, 48, 48]⟩ : ByteArray) x6_1) = 45
              · rw [if_pos c10] at H
                have c10b0 : ((bt (⟨#[48, 48, 48, 48, 45, 48, 48, 45, 48, 48]⟩ : ByteArray) x6_1) == 45) = true := beq_iff_eq.mpr c10
                have c10b1 : ((bt (⟨#[48, 48, 48, 48, 45, 48, 48, 45, 48, 48]⟩ : ByteArray) x6_1) != 45) = false := bne_eq_false_iff_eq.mpr c10
                clear c10
                by_cases c11 : (wrap64 (a1 + x6_1)) ≥ (t291.size : Int)
                · rw [if_pos c11] at H
                  have c11b0 : decide ((t291.size : Int) ≤ (wrap64 (a1 + x6_1))) = true := decide_eq_true c11
                  clear c11
                  simp only [Option.some.injEq, Prod.mk.injEq] at H
                  obtain ⟨rfl, rfl, rfl, rfl, rfl, rfl⟩ := H
                  have p5 : 0 ≤ (x6_1 : Int) := of_decide_eq_true (by first | (with_reducible assumption) | assumption)
                  have q5 : x6_1 < (10 : Int) := of_decide_eq_true (by first | (with_reducible assumption) | assumption)
                  have hx5 := bt_at (⟨#[48, 48, 48, 48, 45, 48, 48, 45, 48, 48]⟩ : ByteArray) x6_1
                  replace p5 := eq_true p5
                  replace q5 := eq_true q5
                  go_wp2_with (first | (go_at_call 53; (with_reducible refine (words_scanner_is.calls g x1000_1 x1001_1 x1002_1 x1003_1 x1004_1 (wrap64 (a1 + x6_1)) 2 true t291 t292 t293 t294 t295 w0 _ ?side1 ?side2 ?side3 A7.out).mono ?_); (case side1 => exact HT.out); (case side2 => repeat (first | (with_reducible first | exact HI0.out | apply IsS42.alloc | apply IsS42.drewN | apply IsS42.drew | apply IsS42.set_0 | apply IsS42.set_1 | apply IsS42.set_2 | apply IsS42.set_3 | apply IsS42.set_4) | exact HI0.out)); (case side3 => repeat (first | (with_reducible first | exact HB.out | apply below_alloc | apply pw_below_drewN | apply below_drew1 | refine below_set ?_ (IsS42.ge HI0.out)) | exact HB.out)); rintro e w12 ⟨rfl, hi, hb, hk⟩; have n0_ := Aside0.mk (KeepBut.trans (by repeat (first | (with_reducible first | exact HK.out | apply KeepBut.set_ | apply keep_drewN | apply keep_drew | apply keep_alloc) | exact HK.out)) hk (.inl rfl)); have n1_ := Aside0.mk (hb); have n2_ := Aside0.mk (hi); clear HK; clear HB; clear HI0; have HK := n0_; have HB := n1_; have HI0 := n2_; clear n0_ n1_ n2_; (try clear hb); (try clear hb2); (try clear hk); (try clear hi); have p9 : 0 ≤ (x6_1 : Int) := of_decide_eq_true (by first | (with_reducible assumption) | assumption); have q9 : x6_1 < (10 : Int) := of_decide_eq_true (by first | (with_reducible assumption) | assumption); have hx9 := bt_at (⟨#[48, 48, 48, 48, 45, 48, 48, 45, 48, 48]⟩ : ByteArray) x6_1; replace p9 := eq_true p9; replace q9 := eq_true q9; obtain ⟨HGz13, hgz13⟩ := HI0.out; have hcz13_0 := cellS42_0 HGz13; have hcz13_1 := cellS42_1 HGz13; have hcz13_2 := cellS42_2 HGz13; have hcz13_3 := cellS42_3 HGz13; have hcz13_4 := cellS42_4 HGz13; have hfz13_0 := blk_frozen HGz13 0; have hfz13_1 := blk_frozen HGz13 1; have hfz13_2 := blk_frozen HGz13 2; have hfz13_3 := blk_frozen HGz13 3; have hfz13_4 := blk_frozen HGz13 4; clear HGz13 hgz13))
                  go_ret
                  exact ⟨by first | rfl | (simp [errW_none, errW_some] <;> rfl) | (simp [*, errW_none, errW_some] <;> rfl), by repeat (first | (with_reducible first | exact HI0.out | apply IsS42.alloc | apply IsS42.drewN | apply IsS42.drew | apply IsS42.set_0 | apply IsS42.set_1 | apply IsS42.set_2 | apply IsS42.set_3 | apply IsS42.set_4) | exact HI0.out), by repeat (first | (with_reducible first | exact HB.out | apply below_alloc | apply pw_below_drewN | apply below_drew1 | refine below_set ?_ (IsS42.ge HI0.out)) | exact HB.out), by repeat (first | (with_reducible first | exact HK.out | apply KeepBut.set_ | apply keep_drewN | apply keep_drew | apply keep_alloc) | exact HK.out)⟩
                · rw [if_neg c11] at H
                  have c11b0 : decide ((t291.size : Int) ≤ (wrap64 (a1 + x6_1))) = false := decide_eq_false c11
                  clear c11
                  obtain ⟨ji14, hji14⟩ : ∃ j_ : Int, (wrap64 (a1 + x6_1)) = j_ := ⟨_, rfl⟩
                  replace H : (if 0 ≤ (ji14) then (if (ji14) < (t291.size : Int) then (if (bt t291 (ji14)) = 45 then (words_scanner_dated.l0 k1 a1 (wrap64 (x6_1 + 1)) t291 t292 t293 t294 t295) else (some (false, t291, t292, t293, t294, t295))) else (none)) else (none)) = some (r1, r2, r3, r4, r5, r6) := by first | (rw [hji14] at H; exact H) | (simp only [hji14] at H ⊢; exact H)
                  (try rw [hji14] at c11b0)
                  (try rw [hji14] at A7)
                  have hji14w : (IntKind.i64.wrap (a1 + x6_1)) = ji14 := (i64_w _).trans hji14
                  by_cases c15 : 0 ≤ (ji14)
                  · rw [if_pos c15] at H
                    have c15b0 : decide (0 ≤ (ji14)) = true := decide_eq_true c15
                    clear c15
                    by_cases c16 : (ji14) < (t291.size : Int)
                    · rw [if_pos c16] at H
                      have c16b0 : decide ((ji14) < (t291.size : Int)) = true := decide_eq_true c16
                      clear c16
                      by_cases c18 : (bt t291 (ji14)) = 45
                      · rw [if_pos c18] at H
                        have c18b0 : ((bt t291 (ji14)) == 45) = true := beq_iff_eq.mpr c18
                        have c18b1 : ((bt t291 (ji14)) != 45) = false := bne_eq_false_iff_eq.mpr c18
                        clear c18
                        have H' := Aside0.mk H
                        clear H
                        have p5 : 0 ≤ (x6_1 : Int) := of_decide_eq_true (by first | (with_reducible assumption) | assumption)
                        have q5 : x6_1 < (10 : Int) := of_decide_eq_true (by first | (with_reducible assumption) | assumption)
                        have hx5 := bt_at (⟨#[48, 48, 48, 48, 45, 48, 48, 45, 48, 48]⟩ : ByteArray) x6_1
                        replace p5 := eq_true p5
                        replace q5 := eq_true q5
                        go_wp2_with (first | (go_at_call 53; (with_reducible refine (words_scanner_is.calls g x1000_1 x1001_1 x1002_1 x1003_1 x1004_1 ji14 2 true t291 t292 t293 t294 t295 w0 _ ?side1 ?side2 ?side3 A7.out).mono ?_); (case side1 => exact HT.out); (case side2 => repeat (first | (with_reducible first | exact HI0.out | apply IsS42.alloc | apply IsS42.drewN | apply IsS42.drew | apply IsS42.set_0 | apply IsS42.set_1 | apply IsS42.set_2 | apply IsS42.set_3 | apply IsS42.set_4) | exact HI0.out)); (case side3 => repeat (first | (with_reducible first | exact HB.out | apply below_alloc | apply pw_below_drewN | apply below_drew1 | refine below_set ?_ (IsS42.ge HI0.out)) | exact HB.out)); rintro e w19 ⟨rfl, hi, hb, hk⟩; have n0_ := Aside0.mk (KeepBut.trans (by repeat (first | (with_reducible first | exact HK.out | apply KeepBut.set_ | apply keep_drewN | apply keep_drew | apply keep_alloc) | exact HK.out)) hk (.inl rfl)); have n1_ := Aside0.mk (hb); have n2_ := Aside0.mk (hi); clear HK; clear HB; clear HI0; have HK := n0_; have HB := n1_; have HI0 := n2_; clear n0_ n1_ n2_; (try clear hb); (try clear hb2); (try clear hk); (try clear hi); have p9 : 0 ≤ (x6_1 : Int) := of_decide_eq_true (by first | (with_reducible assumption) | assumption); have q9 : x6_1 < (10 : Int) := of_decide_eq_true (by first | (with_reducible assumption) | assumption); have hx9 := bt_at (⟨#[48, 48, 48, 48, 45, 48, 48, 45, 48, 48]⟩ : ByteArray) x6_1; replace p9 := eq_true p9; replace q9 := eq_true q9; obtain ⟨HGz20, hgz20⟩ := HI0.out; have hcz20_0 := cellS42_0 HGz20; have hcz20_1 := cellS42_1 HGz20; have hcz20_2 := cellS42_2 HGz20; have hcz20_3 := cellS42_3 HGz20; have hcz20_4 := cellS42_4 HGz20; have hfz20_0 := blk_frozen HGz20 0; have hfz20_1 := blk_frozen HGz20 1; have hfz20_2 := blk_frozen HGz20 2; have hfz20_3 := blk_frozen HGz20 3; have hfz20_4 := blk_frozen HGz20 4; clear HGz20 hgz20; have p17 : 0 ≤ ((ji14) : Int) := of_decide_eq_true (by first | (with_reducible assumption) | assumption); have q17 : (ji14) < (t291.size : Int) := of_decide_eq_true (by first | (with_reducible assumption) | assumption); have hx17 := bt_at t291 (ji14); replace p17 := eq_true p17; replace q17 := eq_true q17))
                        go_roundg k1
                        case measure => have := HK1.out; omega
                        case rel => exact ⟨(wrap64 (x6_1 + 1)), (t291), (t292), (t293), (t294), (t295), (by first | rfl | (simp; done) | (simp [*]; done)), H', ⟨by have := HK1.out; omega⟩, ⟨by repeat (first | (with_reducible first | exact HI0.out | apply IsS42.alloc | apply IsS42.drewN | apply IsS42.drew | apply IsS42.set_0 | apply IsS42.set_1 | apply IsS42.set_2 | apply IsS42.set_3 | apply IsS42.set_4) | exact HI0.out)⟩, ⟨by repeat (first | (with_reducible first | exact HK.out | apply KeepBut.set_ | apply keep_drewN | apply keep_drew | apply keep_alloc) | exact HK.out)⟩, ⟨by repeat (first | (with_reducible first | exact HB.out | apply below_alloc | apply pw_below_drewN | apply below_drew1 | refine below_set ?_ (IsS42.ge HI0.out)) | exact HB.out)⟩⟩
                      · rw [if_neg c18] at H
                        have c18b0 : ((bt t291 (ji14)) == 45) = false := beq_eq_false_iff_ne.mpr c18
                        have c18b1 : ((bt t291 (ji14)) != 45) = true := bne_iff_ne.mpr c18
                        simp only [Option.some.injEq, Prod.mk.injEq] at H
                        obtain ⟨rfl, rfl, rfl, rfl, rfl, rfl⟩ := H
                        have p5 : 0 ≤ (x6_1 : Int) := of_decide_eq_true (by first | (with_reducible assumption) | assumption)
                        have q5 : x6_1 < (10 : Int) := of_decide_eq_true (by first | (with_reducible assumption) | assumption)
                        have hx5 := bt_at (⟨#[48, 48, 48, 48, 45, 48, 48, 45, 48, 48]⟩ : ByteArray) x6_1
                        replace p5 := eq_true p5
                        replace q5 := eq_true q5
                        go_wp2_with (first | (go_at_call 53; (with_reducible refine (words_scanner_is.calls g x1000_1 x1001_1 x1002_1 x1003_1 x1004_1 ji14 2 true t291 t292 t293 t294 t295 w0 _ ?side1 ?side2 ?side3 A7.out).mono ?_); (case side1 => exact HT.out); (case side2 => repeat (first | (with_reducible first | exact HI0.out | apply IsS42.alloc | apply IsS42.drewN | apply IsS42.drew | apply IsS42.set_0 | apply IsS42.set_1 | apply IsS42.set_2 | apply IsS42.set_3 | apply IsS42.set_4) | exact HI0.out)); (case side3 => repeat (first | (with_reducible first | exact HB.out | apply below_alloc | apply pw_below_drewN | apply below_drew1 | refine below_set ?_ (IsS42.ge HI0.out)) | exact HB.out)); rintro e w21 ⟨rfl, hi, hb, hk⟩; have n0_ := Aside0.mk (KeepBut.trans (by repeat (first | (with_reducible first | exact HK.out | apply KeepBut.set_ | apply keep_drewN | apply keep_drew | apply keep_alloc) | exact HK.out)) hk (.inl rfl)); have n1_ := Aside0.mk (hb); have n2_ := Aside0.mk (hi); clear HK; clear HB; clear HI0; have HK := n0_; have HB := n1_; have HI0 := n2_; clear n0_ n1_ n2_; (try clear hb); (try clear hb2); (try clear hk); (try clear hi); have p9 : 0 ≤ (x6_1 : Int) := of_decide_eq_true (by first | (with_reducible assumption) | assumption); have q9 : x6_1 < (10 : Int) := of_decide_eq_true (by first | (with_reducible assumption) | assumption); have hx9 := bt_at (⟨#[48, 48, 48, 48, 45, 48, 48, 45, 48, 48]⟩ : ByteArray) x6_1; replace p9 := eq_true p9; replace q9 := eq_true q9; obtain ⟨HGz22, hgz22⟩ := HI0.out; have hcz22_0 := cellS42_0 HGz22; have hcz22_1 := cellS42_1 HGz22; have hcz22_2 := cellS42_2 HGz22; have hcz22_3 := cellS42_3 HGz22; have hcz22_4 := cellS42_4 HGz22; have hfz22_0 := blk_frozen HGz22 0; have hfz22_1 := blk_frozen HGz22 1; have hfz22_2 := blk_frozen HGz22 2; have hfz22_3 := blk_frozen HGz22 3; have hfz22_4 := blk_frozen HGz22 4; clear HGz22 hgz22; have p17 : 0 ≤ ((ji14) : Int) := of_decide_eq_true (by first | (with_reducible assumption) | assumption); have q17 : (ji14) < (t291.size : Int) := of_decide_eq_true (by first | (with_reducible assumption) | assumption); have hx17 := bt_at t291 (ji14); replace p17 := eq_true p17; replace q17 := eq_true q17))
                        go_ret
                        exact ⟨by first | rfl | (simp [errW_none, errW_some] <;> rfl) | (simp only [← hji14]; first | rfl | (simp [errW_none, errW_some] <;> rfl)) | (simp [*, errW_none, errW_some] <;> rfl), by repeat (first | (with_reducible first | exact HI0.out | apply IsS42.alloc | apply IsS42.drewN | apply IsS42.drew | apply IsS42.set_0 | apply IsS42.set_1 | apply IsS42.set_2 | apply IsS42.set_3 | apply IsS42.set_4) | exact HI0.out), by repeat (first | (with_reducible first | exact HB.out | apply below_alloc | apply pw_below_drewN | apply below_drew1 | refine below_set ?_ (IsS42.ge HI0.out)) | exact HB.out), by repeat (first | (with_reducible first | exact HK.out | apply KeepBut.set_ | apply keep_drewN | apply keep_drew | apply keep_alloc) | exact HK.out)⟩
                    · rw [if_neg c16] at H
                      exact absurd H (by simp)
                  · rw [if_neg c15] at H
                    exact absurd H (by simp)
              · rw [if_neg c10] at H
                have c10b0 : ((bt (⟨#[48, 48, 48, 48, 45, 48, 48, 45, 48, 48]⟩ : ByteArray) x6_1) == 45) = false := beq_eq_false_iff_ne.mpr c10
                have c10b1 : ((bt (⟨#[48, 48, 48, 48, 45, 48, 48, 45, 48, 48]⟩ : ByteArray) x6_1) != 45) = true := bne_iff_ne.mpr c10
                have H' := Aside0.mk H
                clear H
                have p5 : 0 ≤ (x6_1 : Int) := of_decide_eq_true (by first | (with_reducible assumption) | assumption)
                have q5 : x6_1 < (10 : Int) := of_decide_eq_true (by first | (with_reducible assumption) | assumption)
                have hx5 := bt_at (⟨#[48, 48, 48, 48, 45, 48, 48, 45, 48, 48]⟩ : ByteArray) x6_1
                replace p5 := eq_true p5
                replace q5 := eq_true q5
                go_wp2_with (first | (go_at_call 53; (with_reducible refine (words_scanner_is.calls g x1000_1 x1001_1 x1002_1 x1003_1 x1004_1 (wrap64 (a1 + x6_1)) 2 true t291 t292 t293 t294 t295 w0 _ ?side1 ?side2 ?side3 A7.out).mono ?_); (case side1 => exact HT.out); (case side2 => repeat (first | (with_reducible first | exact HI0.out | apply IsS42.alloc | apply IsS42.drewN | apply IsS42.drew | apply IsS42.set_0 | apply IsS42.set_1 | apply IsS42.set_2 | apply IsS42.set_3 | apply IsS42.set_4) | exact HI0.out)); (case side3 => repeat (first | (with_reducible first | exact HB.out | apply below_alloc | apply pw_below_drewN | apply below_drew1 | refine below_set ?_ (IsS42.ge HI0.out)) | exact HB.out)); rintro e w23 ⟨rfl, hi, hb, hk⟩; have n0_ := Aside0.mk (KeepBut.trans (by repeat (first | (with_reducible first | exact HK.out | apply KeepBut.set_ | apply keep_drewN | apply keep_drew | apply keep_alloc) | exact HK.out)) hk (.inl rfl)); have n1_ := Aside0.mk (hb); have n2_ := Aside0.mk (hi); clear HK; clear HB; clear HI0; have HK := n0_; have HB := n1_; have HI0 := n2_; clear n0_ n1_ n2_; (try clear hb); (try clear hb2); (try clear hk); (try clear hi); have p9 : 0 ≤ (x6_1 : Int) := of_decide_eq_true (by first | (with_reducible assumption) | assumption); have q9 : x6_1 < (10 : Int) := of_decide_eq_true (by first | (with_reducible assumption) | assumption); have hx9 := bt_at (⟨#[48, 48, 48, 48, 45, 48, 48, 45, 48, 48]⟩ : ByteArray) x6_1; replace p9 := eq_true p9; replace q9 := eq_true q9))
                go_roundg k1
                case measure => have := HK1.out; omega
                case rel => exact ⟨(wrap64 (x6_1 + 1)), (t291), (t292), (t293), (t294), (t295), (by first | rfl | (simp; done) | (simp [*]; done)), H', ⟨by have := HK1.out; omega⟩, ⟨by repeat (first | (with_reducible first | exact HI0.out | apply IsS42.alloc | apply IsS42.drewN | apply IsS42.drew | apply IsS42.set_0 | apply IsS42.set_1 | apply IsS42.set_2 | apply IsS42.set_3 | apply IsS42.set_4) | exact HI0.out)⟩, ⟨by repeat (first | (with_reducible first | exact HK.out | apply KeepBut.set_ | apply keep_drewN | apply keep_drew | apply keep_alloc) | exact HK.out)⟩, ⟨by repeat (first | (with_reducible first | exact HB.out | apply below_alloc | apply pw_below_drewN | apply below_drew1 | refine below_set ?_ (IsS42.ge HI0.out)) | exact HB.out)⟩⟩
            · replace c8 := Bool.eq_false_iff.mpr c8
              subst c8
              have H1 : (some (false, t291, t292, t293, t294, t295)) = some (r1, r2, r3, r4, r5, r6) := by rw [if_neg (show ¬ (false = true) by decide)] at H; exact H
              clear H
              have H := H1
              clear H1
              simp only [Option.some.injEq, Prod.mk.injEq] at H
              obtain ⟨rfl, rfl, rfl, rfl, rfl, rfl⟩ := H
              have p5 : 0 ≤ (x6_1 : Int) := of_decide_eq_true (by first | (with_reducible assumption) | assumption)
              have q5 : x6_1 < (10 : Int) := of_decide_eq_true (by first | (with_reducible assumption) | assumption)
              have hx5 := bt_at (⟨#[48, 48, 48, 48, 45, 48, 48, 45, 48, 48]⟩ : ByteArray) x6_1
              replace p5 := eq_true p5
              replace q5 := eq_true q5
              go_wp2_with (first | (go_at_call 53; (with_reducible refine (words_scanner_is.calls g x1000_1 x1001_1 x1002_1 x1003_1 x1004_1 (wrap64 (a1 + x6_1)) 2 false t291 t292 t293 t294 t295 w0 _ ?side1 ?side2 ?side3 A7.out).mono ?_); (case side1 => exact HT.out); (case side2 => repeat (first | (with_reducible first | exact HI0.out | apply IsS42.alloc | apply IsS42.drewN | apply IsS42.drew | apply IsS42.set_0 | apply IsS42.set_1 | apply IsS42.set_2 | apply IsS42.set_3 | apply IsS42.set_4) | exact HI0.out)); (case side3 => repeat (first | (with_reducible first | exact HB.out | apply below_alloc | apply pw_below_drewN | apply below_drew1 | refine below_set ?_ (IsS42.ge HI0.out)) | exact HB.out)); rintro e w24 ⟨rfl, hi, hb, hk⟩; have n0_ := Aside0.mk (KeepBut.trans (by repeat (first | (with_reducible first | exact HK.out | apply KeepBut.set_ | apply keep_drewN | apply keep_drew | apply keep_alloc) | exact HK.out)) hk (.inl rfl)); have n1_ := Aside0.mk (hb); have n2_ := Aside0.mk (hi); clear HK; clear HB; clear HI0; have HK := n0_; have HB := n1_; have HI0 := n2_; clear n0_ n1_ n2_; (try clear hb); (try clear hb2); (try clear hk); (try clear hi)))
              go_ret
              exact ⟨by first | rfl | (simp [errW_none, errW_some] <;> rfl) | (simp [*, errW_none, errW_some] <;> rfl), by repeat (first | (with_reducible first | exact HI0.out | apply IsS42.alloc | apply IsS42.drewN | apply IsS42.drew | apply IsS42.set_0 | apply IsS42.set_1 | apply IsS42.set_2 | apply IsS42.set_3 | apply IsS42.set_4) | exact HI0.out), by repeat (first | (with_reducible first | exact HB.out | apply below_alloc | apply pw_below_drewN | apply below_drew1 | refine below_set ?_ (IsS42.ge HI0.out)) | exact HB.out), by repeat (first | (with_reducible first | exact HK.out | apply KeepBut.set_ | apply keep_drewN | apply keep_drew | apply keep_alloc) | exact HK.out)⟩
          · rw [if_neg c6] at H
            have c6b0 : ((bt (⟨#[48, 48, 48, 48, 45, 48, 48, 45, 48, 48]⟩ : ByteArray) x6_1) == 48) = false := beq_eq_false_iff_ne.mpr c6
            have c6b1 : ((bt (⟨#[48, 48, 48, 48, 45, 48, 48, 45, 48, 48]⟩ : ByteArray) x6_1) != 48) = true := bne_iff_ne.mpr c6
            by_cases c26 : (bt (⟨#[48, 48, 48, 48, 45, 48, 48, 45, 48, 48]⟩ : ByteArray) x6_1) = 45
            · rw [if_pos c26] at H
              have c26b0 : ((bt (⟨#[48, 48, 48, 48, 45, 48, 48, 45, 48, 48]⟩ : ByteArray) x6_1) == 45) = true := beq_iff_eq.mpr c26
              have c26b1 : ((bt (⟨#[48, 48, 48, 48, 45, 48, 48, 45, 48, 48]⟩ : ByteArray) x6_1) != 45) = false := bne_eq_false_iff_eq.mpr c26
              clear c26
              by_cases c27 : (wrap64 (a1 + x6_1)) ≥ (x1000_1.size : Int)
              · rw [if_pos c27] at H
                have c27b0 : decide ((x1000_1.size : Int) ≤ (wrap64 (a1 + x6_1))) = true := decide_eq_true c27
                clear c27
                simp only [Option.some.injEq, Prod.mk.injEq] at H
                obtain ⟨rfl, rfl, rfl, rfl, rfl, rfl⟩ := H
                have p5 : 0 ≤ (x6_1 : Int) := of_decide_eq_true (by first | (with_reducible assumption) | assumption)
                have q5 : x6_1 < (10 : Int) := of_decide_eq_true (by first | (with_reducible assumption) | assumption)
                have hx5 := bt_at (⟨#[48, 48, 48, 48, 45, 48, 48, 45, 48, 48]⟩ : ByteArray) x6_1
                replace p5 := eq_true p5
                replace q5 := eq_true q5
                have p25 : 0 ≤ (x6_1 : Int) := of_decide_eq_true (by first | (with_reducible assumption) | assumption)
                have q25 : x6_1 < (10 : Int) := of_decide_eq_true (by first | (with_reducible assumption) | assumption)
                have hx25 := bt_at (⟨#[48, 48, 48, 48, 45, 48, 48, 45, 48, 48]⟩ : ByteArray) x6_1
                replace p25 := eq_true p25
                replace q25 := eq_true q25
                obtain ⟨HGz28, hgz28⟩ := HI0.out
                have hcz28_0 := cellS42_0 HGz28
                have hcz28_1 := cellS42_1 HGz28
                have hcz28_2 := cellS42_2 HGz28
                have hcz28_3 := cellS42_3 HGz28
                have hcz28_4 := cellS42_4 HGz28
                have hfz28_0 := blk_frozen HGz28 0
                have hfz28_1 := blk_frozen HGz28 1
                have hfz28_2 := blk_frozen HGz28 2
                have hfz28_3 := blk_frozen HGz28 3
                have hfz28_4 := blk_frozen HGz28 4
                clear HGz28 hgz28
                go_wp2
                go_ret
                exact ⟨by first | rfl | (simp [errW_none, errW_some] <;> rfl) | (simp [*, errW_none, errW_some] <;> rfl), by repeat (first | (with_reducible first | exact HI0.out | apply IsS42.alloc | apply IsS42.drewN | apply IsS42.drew | apply IsS42.set_0 | apply IsS42.set_1 | apply IsS42.set_2 | apply IsS42.set_3 | apply IsS42.set_4) | exact HI0.out), by repeat (first | (with_reducible first | exact HB.out | apply below_alloc | apply pw_below_drewN | apply below_drew1 | refine below_set ?_ (IsS42.ge HI0.out)) | exact HB.out), by repeat (first | (with_reducible first | exact HK.out | apply KeepBut.set_ | apply keep_drewN | apply keep_drew | apply keep_alloc) | exact HK.out)⟩
              · rw [if_neg c27] at H
                have c27b0 : decide ((x1000_1.size : Int) ≤ (wrap64 (a1 + x6_1))) = false := decide_eq_false c27
                clear c27
                obtain ⟨ji29, hji29⟩ : ∃ j_ : Int, (wrap64 (a1 + x6_1)) = j_ := ⟨_, rfl⟩
                replace H : (if 0 ≤ (ji29) then (if (ji29) < (x1000_1.size : Int) then (if (bt x1000_1 (ji29)) = 45 then (words_scanner_dated.l0 k1 a1 (wrap64 (x6_1 + 1)) x1000_1 x1001_1 x1002_1 x1003_1 x1004_1) else (some (false, x1000_1, x1001_1, x1002_1, x1003_1, x1004_1))) else (none)) else (none)) = some (r1, r2, r3, r4, r5, r6) := by first | (rw [hji29] at H; exact H) | (simp only [hji29] at H ⊢; exact H)
                (try rw [hji29] at c27b0)
                have hji29w : (IntKind.i64.wrap (a1 + x6_1)) = ji29 := (i64_w _).trans hji29
                by_cases c30 : 0 ≤ (ji29)
                · rw [if_pos c30] at H
                  have c30b0 : decide (0 ≤ (ji29)) = true := decide_eq_true c30
                  clear c30
                  by_cases c31 : (ji29) < (x1000_1.size : Int)
                  · rw [if_pos c31] at H
                    have c31b0 : decide ((ji29) < (x1000_1.size : Int)) = true := decide_eq_true c31
                    clear c31
                    by_cases c33 : (bt x1000_1 (ji29)) = 45
                    · rw [if_pos c33] at H
                      have c33b0 : ((bt x1000_1 (ji29)) == 45) = true := beq_iff_eq.mpr c33
                      have c33b1 : ((bt x1000_1 (ji29)) != 45) = false := bne_eq_false_iff_eq.mpr c33
                      clear c33
                      have H' := Aside0.mk H
                      clear H
                      have p5 : 0 ≤ (x6_1 : Int) := of_decide_eq_true (by first | (with_reducible assumption) | assumption)
                      have q5 : x6_1 < (10 : Int) := of_decide_eq_true (by first | (with_reducible assumption) | assumption)
                      have hx5 := bt_at (⟨#[48, 48, 48, 48, 45, 48, 48, 45, 48, 48]⟩ : ByteArray) x6_1
                      replace p5 := eq_true p5
                      replace q5 := eq_true q5
                      have p25 : 0 ≤ (x6_1 : Int) := of_decide_eq_true (by first | (with_reducible assumption) | assumption)
                      have q25 : x6_1 < (10 : Int) := of_decide_eq_true (by first | (with_reducible assumption) | assumption)
                      have hx25 := bt_at (⟨#[48, 48, 48, 48, 45, 48, 48, 45, 48, 48]⟩ : ByteArray) x6_1
                      replace p25 := eq_true p25
                      replace q25 := eq_true q25
                      obtain ⟨HGz34, hgz34⟩ := HI0.out
                      have hcz34_0 := cellS42_0 HGz34
                      have hcz34_1 := cellS42_1 HGz34
                      have hcz34_2 := cellS42_2 HGz34
                      have hcz34_3 := cellS42_3 HGz34
                      have hcz34_4 := cellS42_4 HGz34
                      have hfz34_0 := blk_frozen HGz34 0
                      have hfz34_1 := blk_frozen HGz34 1
                      have hfz34_2 := blk_frozen HGz34 2
                      have hfz34_3 := blk_frozen HGz34 3
                      have hfz34_4 := blk_frozen HGz34 4
                      clear HGz34 hgz34
                      have p32 : 0 ≤ ((ji29) : Int) := of_decide_eq_true (by first | (with_reducible assumption) | assumption)
                      have q32 : (ji29) < (x1000_1.size : Int) := of_decide_eq_true (by first | (with_reducible assumption) | assumption)
                      have hx32 := bt_at x1000_1 (ji29)
                      replace p32 := eq_true p32
                      replace q32 := eq_true q32
                      go_wp2
                      go_roundg k1
                      case measure => have := HK1.out; omega
                      case rel => exact ⟨(wrap64 (x6_1 + 1)), (x1000_1), (x1001_1), (x1002_1), (x1003_1), (x1004_1), (by first | rfl | (simp; done) | (simp [*]; done)), H', ⟨by have := HK1.out; omega⟩, ⟨by repeat (first | (with_reducible first | exact HI0.out | apply IsS42.alloc | apply IsS42.drewN | apply IsS42.drew | apply IsS42.set_0 | apply IsS42.set_1 | apply IsS42.set_2 | apply IsS42.set_3 | apply IsS42.set_4) | exact HI0.out)⟩, ⟨by repeat (first | (with_reducible first | exact HK.out | apply KeepBut.set_ | apply keep_drewN | apply keep_drew | apply keep_alloc) | exact HK.out)⟩, ⟨by repeat (first | (with_reducible first | exact HB.out | apply below_alloc | apply pw_below_drewN | apply below_drew1 | refine below_set ?_ (IsS42.ge HI0.out)) | exact HB.out)⟩⟩
                    · rw [if_neg c33] at H
                      have c33b0 : ((bt x1000_1 (ji29)) == 45) = false := beq_eq_false_iff_ne.mpr c33
                      have c33b1 : ((bt x1000_1 (ji29)) != 45) = true := bne_iff_ne.mpr c33
                      simp only [Option.some.injEq, Prod.mk.injEq] at H
                      obtain ⟨rfl, rfl, rfl, rfl, rfl, rfl⟩ := H
                      have p5 : 0 ≤ (x6_1 : Int) := of_decide_eq_true (by first | (with_reducible assumption) | assumption)
                      have q5 : x6_1 < (10 : Int) := of_decide_eq_true (by first | (with_reducible assumption) | assumption)
                      have hx5 := bt_at (⟨#[48, 48, 48, 48, 45, 48, 48, 45, 48, 48]⟩ : ByteArray) x6_1
                      replace p5 := eq_true p5
                      replace q5 := eq_true q5
                      have p25 : 0 ≤ (x6_1 : Int) := of_decide_eq_true (by first | (with_reducible assumption) | assumption)
                      have q25 : x6_1 < (10 : Int) := of_decide_eq_true (by first | (with_reducible assumption) | assumption)
                      have hx25 := bt_at (⟨#[48, 48, 48, 48, 45, 48, 48, 45, 48, 48]⟩ : ByteArray) x6_1
                      replace p25 := eq_true p25
                      replace q25 := eq_true q25
                      obtain ⟨HGz35, hgz35⟩ := HI0.out
                      have hcz35_0 := cellS42_0 HGz35
                      have hcz35_1 := cellS42_1 HGz35
                      have hcz35_2 := cellS42_2 HGz35
                      have hcz35_3 := cellS42_3 HGz35
                      have hcz35_4 := cellS42_4 HGz35
                      have hfz35_0 := blk_frozen HGz35 0
                      have hfz35_1 := blk_frozen HGz35 1
                      have hfz35_2 := blk_frozen HGz35 2
                      have hfz35_3 := blk_frozen HGz35 3
                      have hfz35_4 := blk_frozen HGz35 4
                      clear HGz35 hgz35
                      have p32 : 0 ≤ ((ji29) : Int) := of_decide_eq_true (by first | (with_reducible assumption) | assumption)
                      have q32 : (ji29) < (x1000_1.size : Int) := of_decide_eq_true (by first | (with_reducible assumption) | assumption)
                      have hx32 := bt_at x1000_1 (ji29)
                      replace p32 := eq_true p32
                      replace q32 := eq_true q32
                      go_wp2
                      go_ret
                      exact ⟨by first | rfl | (simp [errW_none, errW_some] <;> rfl) | (simp only [← hji29]; first | rfl | (simp [errW_none, errW_some] <;> rfl)) | (simp [*, errW_none, errW_some] <;> rfl), by repeat (first | (with_reducible first | exact HI0.out | apply IsS42.alloc | apply IsS42.drewN | apply IsS42.drew | apply IsS42.set_0 | apply IsS42.set_1 | apply IsS42.set_2 | apply IsS42.set_3 | apply IsS42.set_4) | exact HI0.out), by repeat (first | (with_reducible first | exact HB.out | apply below_alloc | apply pw_below_drewN | apply below_drew1 | refine below_set ?_ (IsS42.ge HI0.out)) | exact HB.out), by repeat (first | (with_reducible first | exact HK.out | apply KeepBut.set_ | apply keep_drewN | apply keep_drew | apply keep_alloc) | exact HK.out)⟩
                  · rw [if_neg c31] at H
                    exact absurd H (by simp)
                · rw [if_neg c30] at H
                  exact absurd H (by simp)
            · rw [if_neg c26] at H
              have c26b0 : ((bt (⟨#[48, 48, 48, 48, 45, 48, 48, 45, 48, 48]⟩ : ByteArray) x6_1) == 45) = false := beq_eq_false_iff_ne.mpr c26
              have c26b1 : ((bt (⟨#[48, 48, 48, 48, 45, 48, 48, 45, 48, 48]⟩ : ByteArray) x6_1) != 45) = true := bne_iff_ne.mpr c26
              have H' := Aside0.mk H
              clear H
              have p5 : 0 ≤ (x6_1 : Int) := of_decide_eq_true (by first | (with_reducible assumption) | assumption)
              have q5 : x6_1 < (10 : Int) := of_decide_eq_true (by first | (with_reducible assumption) | assumption)
              have hx5 := bt_at (⟨#[48, 48, 48, 48, 45, 48, 48, 45, 48, 48]⟩ : ByteArray) x6_1
              replace p5 := eq_true p5
              replace q5 := eq_true q5
              have p25 : 0 ≤ (x6_1 : Int) := of_decide_eq_true (by first | (with_reducible assumption) | assumption)
              have q25 : x6_1 < (10 : Int) := of_decide_eq_true (by first | (with_reducible assumption) | assumption)
              have hx25 := bt_at (⟨#[48, 48, 48, 48, 45, 48, 48, 45, 48, 48]⟩ : ByteArray) x6_1
              replace p25 := eq_true p25
              replace q25 := eq_true q25
              go_wp2
              go_roundg k1
              case measure => have := HK1.out; omega
              case rel => exact ⟨(wrap64 (x6_1 + 1)), (x1000_1), (x1001_1), (x1002_1), (x1003_1), (x1004_1), (by first | rfl | (simp; done) | (simp [*]; done)), H', ⟨by have := HK1.out; omega⟩, ⟨by repeat (first | (with_reducible first | exact HI0.out | apply IsS42.alloc | apply IsS42.drewN | apply IsS42.drew | apply IsS42.set_0 | apply IsS42.set_1 | apply IsS42.set_2 | apply IsS42.set_3 | apply IsS42.set_4) | exact HI0.out)⟩, ⟨by repeat (first | (with_reducible first | exact HK.out | apply KeepBut.set_ | apply keep_drewN | apply keep_drew | apply keep_alloc) | exact HK.out)⟩, ⟨by repeat (first | (with_reducible first | exact HB.out | apply below_alloc | apply pw_below_drewN | apply below_drew1 | refine below_set ?_ (IsS42.ge HI0.out)) | exact HB.out)⟩⟩
        · rw [if_neg c4] at H
          exact absurd H (by simp)
      · rw [if_neg c3] at H
        have c3b0 : decide (x6_1 < 10) = false := decide_eq_false c3
        clear c3
        simp only [Option.some.injEq, Prod.mk.injEq] at H
        obtain ⟨rfl, rfl, rfl, rfl, rfl, rfl⟩ := H
        go_wp2
        go_ret
        exact ⟨by first | rfl | (simp [errW_none, errW_some] <;> rfl) | (simp [*, errW_none, errW_some] <;> rfl), by repeat (first | (with_reducible first | exact HI0.out | apply IsS42.alloc | apply IsS42.drewN | apply IsS42.drew | apply IsS42.set_0 | apply IsS42.set_1 | apply IsS42.set_2 | apply IsS42.set_3 | apply IsS42.set_4) | exact HI0.out), by repeat (first | (with_reducible first | exact HB.out | apply below_alloc | apply pw_below_drewN | apply below_drew1 | refine below_set ?_ (IsS42.ge HI0.out)) | exact HB.out), by repeat (first | (with_reducible first | exact HK.out | apply KeepBut.set_ | apply keep_drewN | apply keep_drew | apply keep_alloc) | exact HK.out)⟩

end Go.Proofs.YtgcgpeeokdnplaaDoor.PA
