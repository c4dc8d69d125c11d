/- The Go functions of this seat that the laws of part A come to, each as a plain Lean function ('f', its loops 'l0' ..) with a proof that the call comes to its answer. Conditions: where a function comes to a package-level table, the world holds that table ('Tabs'). Written by a program of this session (a changed copy of the print). -/
import Derived.Test.YtidbcenbcllfnaaDoorQPAx0
import Derived.Test.YtidbcenbcllfnaaDoorQPAx7
namespace Go.Proofs.YtidbcenbcllfnaaDoor.PA
open Go.RowKit Go.Proofs.YtidbcenbcllfnaaDoorW.PrintWords Go.Proofs.YtidbcenbcllfnaaDoorW.PrintLast Go.Proofs.YtidbcenbcllfnaaDoorW.PrintMore
attribute [local go_sem] max2_int min2_int max_two min_two max_three min_three max_four min_four   -- for this text's walks alone
set_option linter.unusedVariables false
set_option linter.unusedSimpArgs false

/-! ### levyref4_text: function 48 -/
mutual
def levyref4_text.l0 : Nat → ByteArray → Int → Int → ByteArray → Option (Int × Int × ByteArray × Int × Int × Int × Int)
  | 0, _, _, _, _ => none
  | k + 1, x0, x1, x7, x8 => if x7 < (x0.size : Int) then (if 0 ≤ x7 then (levyref4_text.j1 k x0 x1 x7 x8 ((bt x0 x7) != 34)) else (none)) else (levyref4_text.j1 k x0 x1 x7 x8 false)
def levyref4_text.j1 : Nat → ByteArray → Int → Int → ByteArray → Bool → Option (Int × Int × ByteArray × Int × Int × Int × Int)
  | 0, _, _, _, _, _ => none
  | k + 1, x0, x1, x7, x8, x21 => if x21 = true then (if 0 ≤ x7 then (if x7 < (x0.size : Int) then (if (bt x0 x7) = 10 then (some (0, 0, (⟨#[]⟩ : ByteArray), 0, 0, x1, 43)) else (if (bt x0 x7) < 32 then (levyref4_text.j2 k x0 x1 x7 x8 (bt x0 x7) true) else (levyref4_text.j2 k x0 x1 x7 x8 (bt x0 x7) (decide ((bt x0 x7) > 126))))) else (none)) else (none)) else (if x7 ≥ (x0.size : Int) then (some (0, 0, (⟨#[]⟩ : ByteArray), 0, 0, x1, 43)) else (if (x8.size : Int) > 40 then (some (0, 0, (⟨#[]⟩ : ByteArray), 0, 0, x1, 40)) else (some (6, 0, x8, 0, 0, wrap64 (x7 + 1), 0))))
def levyref4_text.j2 : Nat → ByteArray → Int → Int → ByteArray → Int → Bool → Option (Int × Int × ByteArray × Int × Int × Int × Int)
  | 0, _, _, _, _, _, _ => none
  | k + 1, x0, x1, x7, x8, x9, x30 => if x30 = true then (some (0, 0, (⟨#[]⟩ : ByteArray), 0, 0, x7, 43)) else (if x9 = 92 then ((levyref4_is.f x0 (wrap64 (x7 + 1)) (⟨#[34]⟩ : ByteArray)).bind fun t143 => (if t143 = true then (if 0 ≤ (wrap64 (x7 + 1)) then (if (wrap64 (x7 + 1)) ≤ (wrap64 ((wrap64 (x7 + 1)) + 1)) then (if (wrap64 ((wrap64 (x7 + 1)) + 1)) ≤ (x0.size : Int) then (if x8.size + (x0.extract ((wrap64 (x7 + 1)) : Int).toNat ((wrap64 ((wrap64 (x7 + 1)) + 1)) : Int).toNat).size ≤ 9223372036854775807 then (levyref4_text.l0 k x0 x1 (wrap64 ((wrap64 (x7 + 1)) + 1)) (x8 ++ (x0.extract ((wrap64 (x7 + 1)) : Int).toNat ((wrap64 ((wrap64 (x7 + 1)) + 1)) : Int).toNat))) else (none)) else (none)) else (none)) else (none)) else ((levyref4_is.f x0 (wrap64 (x7 + 1)) (⟨#[92]⟩ : ByteArray)).bind fun t144 => (if t144 = true then (if 0 ≤ (wrap64 (x7 + 1)) then (if (wrap64 (x7 + 1)) ≤ (wrap64 ((wrap64 (x7 + 1)) + 1)) then (if (wrap64 ((wrap64 (x7 + 1)) + 1)) ≤ (x0.size : Int) then (if x8.size + (x0.extract ((wrap64 (x7 + 1)) : Int).toNat ((wrap64 ((wrap64 (x7 + 1)) + 1)) : Int).toNat).size ≤ 9223372036854775807 then (levyref4_text.l0 k x0 x1 (wrap64 ((wrap64 (x7 + 1)) + 1)) (x8 ++ (x0.extract ((wrap64 (x7 + 1)) : Int).toNat ((wrap64 ((wrap64 (x7 + 1)) + 1)) : Int).toNat))) else (none)) else (none)) else (none)) else (none)) else (some (0, 0, (⟨#[]⟩ : ByteArray), 0, 0, x7, 43)))))) else (if 0 ≤ x7 then (if x7 ≤ (wrap64 (x7 + 1)) then (if (wrap64 (x7 + 1)) ≤ (x0.size : Int) then (if x8.size + (x0.extract (x7 : Int).toNat ((wrap64 (x7 + 1)) : Int).toNat).size ≤ 9223372036854775807 then (levyref4_text.l0 k x0 x1 (wrap64 (x7 + 1)) (x8 ++ (x0.extract (x7 : Int).toNat ((wrap64 (x7 + 1)) : Int).toNat))) else (none)) else (none)) else (none)) else (none)))
end
def levyref4_text.f (k : Nat) (a0 : ByteArray) (a1 : Int) : Option (Int × Int × ByteArray × Int × Int × Int × Int) := levyref4_text.l0 k a0 a1 (wrap64 (a1 + 1)) (⟨#[]⟩ : ByteArray)
theorem levyref4_text.mono_l : ∀ k, (∀ y0 y1 y2 y3, LeO (levyref4_text.l0 k y0 y1 y2 y3) (levyref4_text.l0 (k + 1) y0 y1 y2 y3)) ∧ (∀ y0 y1 y2 y3 y4, LeO (levyref4_text.j1 k y0 y1 y2 y3 y4) (levyref4_text.j1 (k + 1) y0 y1 y2 y3 y4)) ∧ (∀ y0 y1 y2 y3 y4 y5, LeO (levyref4_text.j2 k y0 y1 y2 y3 y4 y5) (levyref4_text.j2 (k + 1) y0 y1 y2 y3 y4 y5))
  | 0 => ⟨fun _ _ _ _ r h => by simp [levyref4_text.l0] at h, fun _ _ _ _ _ r h => by simp [levyref4_text.j1] at h, fun _ _ _ _ _ _ r h => by simp [levyref4_text.j2] at h⟩
  | k + 1 => by
    obtain ⟨ih0, ih1, ih2⟩ := levyref4_text.mono_l k
    refine ⟨?_, ?_, ?_⟩
    · intro y0 y1 y2 y3
      unfold levyref4_text.l0
      repeat' first
      | (with_reducible exact ih0 _ _ _ _)
      | (with_reducible exact ih1 _ _ _ _ _)
      | (with_reducible exact ih2 _ _ _ _ _ _)
      | (with_reducible exact LeO.refl _)
      | (with_reducible exact LeO.none _)
      | (with_reducible refine LeO.ite ?_ ?_)
      | (with_reducible refine LeO.bind ?_ (fun _ => ?_))
      | exact ih0 _ _ _ _
      | exact ih1 _ _ _ _ _
      | exact ih2 _ _ _ _ _ _
      | exact LeO.none _
      | refine LeO.ite ?_ ?_
      | refine LeO.bind ?_ (fun _ => ?_)
    · intro y0 y1 y2 y3 y4
      unfold levyref4_text.j1
      repeat' first
      | (with_reducible exact ih0 _ _ _ _)
      | (with_reducible exact ih1 _ _ _ _ _)
      | (with_reducible exact ih2 _ _ _ _ _ _)
      | (with_reducible exact LeO.refl _)
      | (with_reducible exact LeO.none _)
      | (with_reducible refine LeO.ite ?_ ?_)
      | (with_reducible refine LeO.bind ?_ (fun _ => ?_))
      | exact ih0 _ _ _ _
      | exact ih1 _ _ _ _ _
      | exact ih2 _ _ _ _ _ _
      | exact LeO.none _
      | refine LeO.ite ?_ ?_
      | refine LeO.bind ?_ (fun _ => ?_)
    · intro y0 y1 y2 y3 y4 y5
      unfold levyref4_text.j2
      repeat' first
      | (with_reducible exact ih0 _ _ _ _)
      | (with_reducible exact ih1 _ _ _ _ _)
      | (with_reducible exact ih2 _ _ _ _ _ _)
      | (with_reducible exact LeO.refl _)
      | (with_reducible exact LeO.none _)
      | (with_reducible refine LeO.ite ?_ ?_)
      | (with_reducible refine LeO.bind ?_ (fun _ => ?_))
      | exact ih0 _ _ _ _
      | exact ih1 _ _ _ _ _
      | exact ih2 _ _ _ _ _ _
      | exact LeO.none _
      | refine LeO.ite ?_ ?_
      | refine LeO.bind ?_ (fun _ => ?_)
theorem levyref4_text.mono : ∀ a0 a1 k, LeO (levyref4_text.f k a0 a1) (levyref4_text.f (k + 1) a0 a1) := by
  intro a0 a1 k
  obtain ⟨ih0, ih1, ih2⟩ := levyref4_text.mono_l k
  unfold levyref4_text.f
  repeat' first
      | (with_reducible exact ih0 _ _ _ _)
      | (with_reducible exact ih1 _ _ _ _ _)
      | (with_reducible exact ih2 _ _ _ _ _ _)
      | (with_reducible exact LeO.refl _)
      | (with_reducible exact LeO.none _)
      | (with_reducible refine LeO.ite ?_ ?_)
      | (with_reducible refine LeO.bind ?_ (fun _ => ?_))
      | exact ih0 _ _ _ _
      | exact ih1 _ _ _ _ _
      | exact ih2 _ _ _ _ _ _
      | exact LeO.none _
      | refine LeO.ite ?_ ?_
      | refine LeO.bind ?_ (fun _ => ?_)
set_option maxHeartbeats 8000000 in
set_option maxRecDepth 100000 in
theorem levyref4_text.calls (k : Nat) (a0 : ByteArray) (a1 : Int) (r1 : Int) (r2 : Int) (r3 : ByteArray) (r4 : Int) (r5 : Int) (r6 : Int) (r7 : Int) (w : World) (h : levyref4_text.f k a0 a1 = some (r1, r2, r3, r4, r5, r6, r7)) :
    Calls Tryd.prog 48 #[.string a0, .int .i64 a1] w fun e w' => e = .returned (.tuple #[.agg #[.int .i64 r1, .int .i64 r2, .string r3, .int .i64 r4, .int .i64 r5], .int .i64 r6, .int .i64 r7]) ∧ Below w.heap.size w w' := by
  have hu33 := Tryd.underlying33
  have HB := Aside0.mk (Below.refl w.heap.size w)
  have H : (levyref4_text.l0 k a0 a1 (wrap64 (a1 + 1)) (⟨#[]⟩ : ByteArray)) = some (r1, r2, r3, r4, r5, r6, r7) := h
  clear h
  have H' := Aside0.mk H
  clear H
  go_enter Tryd.func48, Tryd.ntmps48
  go_wp2_with (first | ((with_reducible refine gate_dst (N := 4) rfl ?_); refine box_event ?hg (N := 4) ?hd (cs := #[.int .i64 0, .int .i64 0, .string (⟨#[]⟩ : ByteArray), .int .i64 0, .int .i64 0]) (t := 33) ?hr ?_; (case hd => rfl); (case hg => rfl); (case hr => first | (go_simp; done) | (go_simp; rfl)); intro gb142 hg w3 hbox hb; have n0_ := Aside0.mk (below_step (by repeat (first | (with_reducible first | exact HB.out | apply below_alloc | apply pw_below_drewN | apply below_drew1) | exact HB.out)) hb); have n1_ := Aside0.mk (hbox); have n2_ := Aside0.mk ((by rw [hg]; exact (below_size (by repeat (first | (with_reducible first | exact HB.out | apply below_alloc | apply pw_below_drewN | apply below_drew1) | exact HB.out))) : w.heap.size ≤ gb142)); have n3_ := Aside0.mk ((by rw [hg]; exact (below_size (by repeat (first | (with_reducible first | exact HB.out | apply below_alloc | apply pw_below_drewN | apply below_drew1) | exact HB.out))) : w.heap.size ≤ gb142)); clear HB; have HB := n0_; have BK142 := n1_; have GW142 := n2_; have GE142 := n3_; clear n0_ n1_ n2_ n3_; clear hb hbox hg))
  go_loopg [7, 8] k (fun kq v7 v8 w' => ∃ (x7_1 : Int) (x8_1 : ByteArray) (x143000_1 : Int) (x143001_1 : Int) (x143002_1 : ByteArray) (x143003_1 : Int) (x143004_1 : Int), v7 = .int .i64 x7_1 ∧ v8 = .string x8_1 ∧ Aside0 (levyref4_text.l0 kq a0 a1 x7_1 x8_1 = some (r1, r2, r3, r4, r5, r6, r7)) ∧ Aside0 (kq ≤ k) ∧ Aside0 (w'.heap[gb142]? = some (.cells #[.int .i64 x143000_1, .int .i64 x143001_1, .string x143002_1, .int .i64 x143003_1, .int .i64 x143004_1] 33 (0, 0))) ∧ Aside0 (Below w.heap.size w w'))
  case atStart => exact ⟨(wrap64 (a1 + 1)), ((⟨#[]⟩ : ByteArray)), (0), (0), ((⟨#[]⟩ : ByteArray)), (0), (0), (by first | rfl | (simp; done) | (simp [*]; done)), (by first | rfl | (simp; done) | (simp [*]; done)), H', ⟨Nat.le_refl _⟩, ⟨by (with_reducible repeat (first | refine blk_drewN ?_ _ | refine blk_drew ?_ | refine blk_alloc ?_ _)); exact BK142.out⟩, ⟨by repeat (first | (with_reducible first | exact HB.out | apply below_alloc | apply pw_below_drewN | apply below_drew1 | refine below_set ?_ GE142.out) | exact HB.out)⟩⟩
  case round =>
    clear H'
    try clear p2
    obtain ⟨x7_1, x8_1, x143000_1, x143001_1, x143002_1, x143003_1, x143004_1, rfl, rfl, HA, HK1, BK142, HB⟩ := hrel
    cases gk with
    | zero => exact absurd HA.out (by simp [levyref4_text.l0])
    | succ k1 =>
      have H := HA.out
      clear HA
      simp only [levyref4_text.l0] at H
      have HC4 := Aside0.mk H
      clear H
      go_upto_region 3 with (fail)
      go_cut [21] (fun v21 wc => ∃ (kq : Nat) (x21_3 : Bool), v21 = .bool x21_3 ∧ Aside0 (levyref4_text.j1 kq a0 a1 x7_1 x8_1 x21_3 = some (r1, r2, r3, r4, r5, r6, r7)) ∧ Aside0 (kq ≤ k1) ∧ Aside0 (wc.heap[gb142]? = some (.cells #[.int .i64 x143000_1, .int .i64 x143001_1, .string x143002_1, .int .i64 x143003_1, .int .i64 x143004_1] 33 (0, 0))) ∧ Aside0 (Below w.heap.size w wc))
      case first =>
        have H := HC4.out
        clear HC4
        by_cases c5 : x7_1 < (a0.size : Int)
        · rw [if_pos c5] at H
          have c5b0 : decide (x7_1 < (a0.size : Int)) = true := decide_eq_true c5
          clear c5
          (first | rw [c5b0] | (simp only [i64_w, i32_w]; rw [c5b0]) | skip)
          by_cases c6 : 0 ≤ x7_1
          · rw [if_pos c6] at H
            have c6b0 : decide (0 ≤ x7_1) = true := decide_eq_true c6
            clear c6
            have H' := Aside0.mk H
            clear H
            have p7 : 0 ≤ (x7_1 : Int) := of_decide_eq_true (by first | (with_reducible assumption) | assumption)
            have q7 : x7_1 < (a0.size : Int) := of_decide_eq_true (by first | (with_reducible assumption) | assumption)
            have hx7 := bt_at a0 x7_1
            replace p7 := eq_true p7
            replace q7 := eq_true q7
            go_wp2
            go_meet
            case rel => exact ⟨_, (((bt a0 x7_1) != 34)), (by first | rfl | (simp; done) | (simp [*]; done)), H', ⟨by have := HK1.out; first | omega | exact Nat.le_refl _⟩, ⟨by (with_reducible repeat (first | refine blk_drewN ?_ _ | refine blk_drew ?_ | refine blk_alloc ?_ _)); exact BK142.out⟩, ⟨by repeat (first | (with_reducible first | exact HB.out | apply below_alloc | apply pw_below_drewN | apply below_drew1 | refine below_set ?_ GE142.out) | exact HB.out)⟩⟩
          · rw [if_neg c6] at H
            exact absurd H (by simp)
        · rw [if_neg c5] at H
          have c5b0 : decide (x7_1 < (a0.size : Int)) = false := decide_eq_false c5
          clear c5
          (first | rw [c5b0] | (simp only [i64_w, i32_w]; rw [c5b0]) | skip)
          have H' := Aside0.mk H
          clear H
          go_wp2
          go_meet
          case rel => exact ⟨_, (false), (by first | rfl | (simp; done) | (simp [*]; done)), H', ⟨by have := HK1.out; first | omega | exact Nat.le_refl _⟩, ⟨by (with_reducible repeat (first | refine blk_drewN ?_ _ | refine blk_drew ?_ | refine blk_alloc ?_ _)); exact BK142.out⟩, ⟨by repeat (first | (with_reducible first | exact HB.out | apply below_alloc | apply pw_below_drewN | apply below_drew1 | refine below_set ?_ GE142.out) | exact HB.out)⟩⟩
      case rest =>
        clear HC4
        try clear p2
        try clear c4
        try clear c5
        try clear c5b0
        try clear c6
        try clear c6b0
        try clear p6
        try clear p7
        try clear q7
        try clear hx7
        try clear p2
        try clear p7
        try clear q7
        obtain ⟨kq, x21_3, rfl, HA, HJ3, BK142, HB⟩ := hcut
        cases kq with
        | zero => exact absurd HA.out (by simp [levyref4_text.j1])
        | succ kj3 =>
          have H := HA.out
          clear HA
          simp only [levyref4_text.j1] at H
          by_cases c8 : x21_3 = true
          · subst c8
            have H1 : (if 0 ≤ x7_1 then (if x7_1 < (a0.size : Int) then (if (bt a0 x7_1) = 10 then (some (0, 0, (⟨#[]⟩ : ByteArray), 0, 0, a1, 43)) else (if (bt a0 x7_1) < 32 then (levyref4_text.j2 kj3 a0 a1 x7_1 x8_1 (bt a0 x7_1) true) else (levyref4_text.j2 kj3 a0 a1 x7_1 x8_1 (bt a0 x7_1) (decide ((bt a0 x7_1) > 126))))) else (none)) else (none)) = some (r1, r2, r3, r4, r5, r6, r7) := by rw [if_pos rfl] at H; exact H
            clear H
            have H := H1
            clear H1
            by_cases c9 : 0 ≤ x7_1
            · rw [if_pos c9] at H
              have c9b0 : decide (0 ≤ x7_1) = true := decide_eq_true c9
              clear c9
              by_cases c10 : x7_1 < (a0.size : Int)
              · rw [if_pos c10] at H
                have c10b0 : decide (x7_1 < (a0.size : Int)) = true := decide_eq_true c10
                clear c10
                by_cases c12 : (bt a0 x7_1) = 10
                · rw [if_pos c12] at H
                  have c12b0 : ((bt a0 x7_1) == 10) = true := beq_iff_eq.mpr c12
                  have c12b1 : ((bt a0 x7_1) != 10) = false := bne_eq_false_iff_eq.mpr c12
                  clear c12
                  simp only [Option.some.injEq, Prod.mk.injEq] at H
                  obtain ⟨rfl, rfl, rfl, rfl, rfl, rfl, rfl⟩ := H
                  have p11 : 0 ≤ (x7_1 : Int) := of_decide_eq_true (by first | (with_reducible assumption) | assumption)
                  have q11 : x7_1 < (a0.size : Int) := of_decide_eq_true (by first | (with_reducible assumption) | assumption)
                  have hx11 := bt_at a0 x7_1
                  replace p11 := eq_true p11
                  replace q11 := eq_true q11
                  have hcz13_0 : wc.cell? ⟨gb142, 0, none⟩ = some (.int .i64 x143000_1) := (blk_cell BK142.out 0).trans rfl
                  have hcz13_1 : wc.cell? ⟨gb142, 1, none⟩ = some (.int .i64 x143001_1) := (blk_cell BK142.out 1).trans rfl
                  have hcz13_2 : wc.cell? ⟨gb142, 2, none⟩ = some (.string x143002_1) := (blk_cell BK142.out 2).trans rfl
                  have hcz13_3 : wc.cell? ⟨gb142, 3, none⟩ = some (.int .i64 x143003_1) := (blk_cell BK142.out 3).trans rfl
                  have hcz13_4 : wc.cell? ⟨gb142, 4, none⟩ = some (.int .i64 x143004_1) := (blk_cell BK142.out 4).trans rfl
                  have hfz13_0 := blk_frozen BK142.out 0
                  have hfz13_1 := blk_frozen BK142.out 1
                  have hfz13_2 := blk_frozen BK142.out 2
                  have hfz13_3 := blk_frozen BK142.out 3
                  have hfz13_4 := blk_frozen BK142.out 4
                  go_wp2
                  refine bodyPost_ret (results_ctt rfl _ _ gb142 33 #[.int .i64 0, .int .i64 0, .string (⟨#[]⟩ : ByteArray), .int .i64 0, .int .i64 0] (0, 0) _ rfl (by (with_reducible repeat (first | refine blk_drewN ?_ _ | refine blk_drew ?_ | refine blk_alloc ?_ _)); refine blk_put (cs := #[.int .i64 0, .int .i64 0, .string (⟨#[]⟩ : ByteArray), .int .i64 0, .int .i64 x143004_1]) ?_ 4 _ rfl; (with_reducible repeat (first | refine blk_drewN ?_ _ | refine blk_drew ?_ | refine blk_alloc ?_ _)); refine blk_put (cs := #[.int .i64 0, .int .i64 0, .string (⟨#[]⟩ : ByteArray), .int .i64 x143003_1, .int .i64 x143004_1]) ?_ 3 _ rfl; (with_reducible repeat (first | refine blk_drewN ?_ _ | refine blk_drew ?_ | refine blk_alloc ?_ _)); refine blk_put (cs := #[.int .i64 0, .int .i64 0, .string x143002_1, .int .i64 x143003_1, .int .i64 x143004_1]) ?_ 2 _ rfl; (with_reducible repeat (first | refine blk_drewN ?_ _ | refine blk_drew ?_ | refine blk_alloc ?_ _)); refine blk_put (cs := #[.int .i64 0, .int .i64 x143001_1, .string x143002_1, .int .i64 x143003_1, .int .i64 x143004_1]) ?_ 1 _ rfl; (with_reducible repeat (first | refine blk_drewN ?_ _ | refine blk_drew ?_ | refine blk_alloc ?_ _)); refine blk_put (cs := #[.int .i64 x143000_1, .int .i64 x143001_1, .string x143002_1, .int .i64 x143003_1, .int .i64 x143004_1]) ?_ 0 _ rfl; (with_reducible repeat (first | refine blk_drewN ?_ _ | refine blk_drew ?_ | refine blk_alloc ?_ _)); exact BK142.out) Tryd.underlying33 rfl (by kernel_rfl)) rfl ?_
                  exact ⟨by first | rfl | (simp [errW_none, errW_some] <;> rfl) | (simp [*, errW_none, errW_some] <;> rfl), by repeat (first | (with_reducible first | exact HB.out | apply below_alloc | apply pw_below_drewN | apply below_drew1 | refine below_set ?_ GE142.out) | exact HB.out)⟩
                · rw [if_neg c12] at H
                  have c12b0 : ((bt a0 x7_1) == 10) = false := beq_eq_false_iff_ne.mpr c12
                  have c12b1 : ((bt a0 x7_1) != 10) = true := bne_iff_ne.mpr c12
                  have HC14 := Aside0.mk H
                  clear H
                  have p11 : 0 ≤ (x7_1 : Int) := of_decide_eq_true (by first | (with_reducible assumption) | assumption)
                  have q11 : x7_1 < (a0.size : Int) := of_decide_eq_true (by first | (with_reducible assumption) | assumption)
                  have hx11 := bt_at a0 x7_1
                  replace p11 := eq_true p11
                  replace q11 := eq_true q11
                  go_upto_region 7 with (fail)
                  go_cut [30] (fun v30 wc => ∃ (kq : Nat) (x30_13 : Bool), v30 = .bool x30_13 ∧ Aside0 (levyref4_text.j2 kq a0 a1 x7_1 x8_1 (bt a0 x7_1) x30_13 = some (r1, r2, r3, r4, r5, r6, r7)) ∧ Aside0 (kq ≤ kj3) ∧ Aside0 (wc.heap[gb142]? = some (.cells #[.int .i64 x143000_1, .int .i64 x143001_1, .string x143002_1, .int .i64 x143003_1, .int .i64 x143004_1] 33 (0, 0))) ∧ Aside0 (Below w.heap.size w wc))
                  case first =>
                    have H := HC14.out
                    clear HC14
                    by_cases c15 : (bt a0 x7_1) < 32
                    · rw [if_pos c15] at H
                      have c15b0 : decide ((bt a0 x7_1) < 32) = true := decide_eq_true c15
                      clear c15
                      (first | rw [c15b0] | (simp only [i64_w, i32_w]; rw [c15b0]) | skip)
                      have H' := Aside0.mk H
                      clear H
                      go_wp2
                      go_meet
                      case rel => exact ⟨_, (true), (by first | rfl | (simp; done) | (simp [*]; done)), H', ⟨by have := HK1.out; have := HJ3.out; first | omega | exact Nat.le_refl _⟩, ⟨by (with_reducible repeat (first | refine blk_drewN ?_ _ | refine blk_drew ?_ | refine blk_alloc ?_ _)); exact BK142.out⟩, ⟨by repeat (first | (with_reducible first | exact HB.out | apply below_alloc | apply pw_below_drewN | apply below_drew1 | refine below_set ?_ GE142.out) | exact HB.out)⟩⟩
                    · rw [if_neg c15] at H
                      have c15b0 : decide ((bt a0 x7_1) < 32) = false := decide_eq_false c15
                      clear c15
                      (first | rw [c15b0] | (simp only [i64_w, i32_w]; rw [c15b0]) | skip)
                      have H' := Aside0.mk H
                      clear H
                      go_wp2
                      go_meet
                      case rel => exact ⟨_, (decide ((bt a0 x7_1) > 126)), (by first | rfl | (simp; done) | (simp [*]; done)), H', ⟨by have := HK1.out; have := HJ3.out; first | omega | exact Nat.le_refl _⟩, ⟨by (with_reducible repeat (first | refine blk_drewN ?_ _ | refine blk_drew ?_ | refine blk_alloc ?_ _)); exact BK142.out⟩, ⟨by repeat (first | (with_reducible first | exact HB.out | apply below_alloc | apply pw_below_drewN | apply below_drew1 | refine below_set ?_ GE142.out) | exact HB.out)⟩⟩
                  case rest =>
                    clear HC14
                    try clear c1
                    try clear p1
                    try clear q1
                    try clear hx1
                    try clear p2
                    try clear c4
                    try clear c5
                    try clear c5b0
                    try clear c6
                    try clear c6b0
                    try clear p6
                    try clear p7
                    try clear q7
                    try clear hx7
                    try clear c8
                    try clear c9
                    try clear c9b0
                    try clear c10
                    try clear c10b0
                    try clear p11
                    try clear q11
                    try clear hx11
                    try clear c12
                    try clear c12b0
                    try clear c12b1
                    try clear c15
                    try clear c15b0
                    try clear hcz13_0
                    try clear hcz13_1
                    try clear hcz13_2
                    try clear hcz13_3
                    try clear hcz13_4
                    try clear hfz13_0
                    try clear hfz13_1
                    try clear hfz13_2
                    try clear hfz13_3
                    try clear hfz13_4
                    try clear p11
                    try clear p2
                    try clear p6
                    try clear p7
                    try clear q11
                    try clear q7
                    obtain ⟨kq, x30_13, rfl, HA, HJ13, BK142, HB⟩ := hcut
                    cases kq with
                    | zero => exact absurd HA.out (by simp [levyref4_text.j2])
                    | succ kj13 =>
                      have H := HA.out
                      clear HA
                      simp only [levyref4_text.j2] at H
                      by_cases c16 : x30_13 = true
                      · subst c16
                        have H1 : (some (0, 0, (⟨#[]⟩ : ByteArray), 0, 0, x7_1, 43)) = some (r1, r2, r3, r4, r5, r6, r7) := by rw [if_pos rfl] at H; exact H
                        clear H
                        have H := H1
                        clear H1
                        simp only [Option.some.injEq, Prod.mk.injEq] at H
                        obtain ⟨rfl, rfl, rfl, rfl, rfl, rfl, rfl⟩ := H
                        have hcz17_0 : wc.cell? ⟨gb142, 0, none⟩ = some (.int .i64 x143000_1) := (blk_cell BK142.out 0).trans rfl
                        have hcz17_1 : wc.cell? ⟨gb142, 1, none⟩ = some (.int .i64 x143001_1) := (blk_cell BK142.out 1).trans rfl
                        have hcz17_2 : wc.cell? ⟨gb142, 2, none⟩ = some (.string x143002_1) := (blk_cell BK142.out 2).trans rfl
                        have hcz17_3 : wc.cell? ⟨gb142, 3, none⟩ = some (.int .i64 x143003_1) := (blk_cell BK142.out 3).trans rfl
                        have hcz17_4 : wc.cell? ⟨gb142, 4, none⟩ = some (.int .i64 x143004_1) := (blk_cell BK142.out 4).trans rfl
                        have hfz17_0 := blk_frozen BK142.out 0
                        have hfz17_1 := blk_frozen BK142.out 1
                        have hfz17_2 := blk_frozen BK142.out 2
                        have hfz17_3 := blk_frozen BK142.out 3
                        have hfz17_4 := blk_frozen BK142.out 4
                        go_wp2
                        refine bodyPost_ret (results_ctt rfl _ _ gb142 33 #[.int .i64 0, .int .i64 0, .string (⟨#[]⟩ : ByteArray), .int .i64 0, .int .i64 0] (0, 0) _ rfl (by (with_reducible repeat (first | refine blk_drewN ?_ _ | refine blk_drew ?_ | refine blk_alloc ?_ _)); refine blk_put (cs := #[.int .i64 0, .int .i64 0, .string (⟨#[]⟩ : ByteArray), .int .i64 0, .int .i64 x143004_1]) ?_ 4 _ rfl; (with_reducible repeat (first | refine blk_drewN ?_ _ | refine blk_drew ?_ | refine blk_alloc ?_ _)); refine blk_put (cs := #[.int .i64 0, .int .i64 0, .string (⟨#[]⟩ : ByteArray), .int .i64 x143003_1, .int .i64 x143004_1]) ?_ 3 _ rfl; (with_reducible repeat (first | refine blk_drewN ?_ _ | refine blk_drew ?_ | refine blk_alloc ?_ _)); refine blk_put (cs := #[.int .i64 0, .int .i64 0, .string x143002_1, .int .i64 x143003_1, .int .i64 x143004_1]) ?_ 2 _ rfl; (with_reducible repeat (first | refine blk_drewN ?_ _ | refine blk_drew ?_ | refine blk_alloc ?_ _)); refine blk_put (cs := #[.int .i64 0, .int .i64 x143001_1, .string x143002_1, .int .i64 x143003_1, .int .i64 x143004_1]) ?_ 1 _ rfl; (with_reducible repeat (first | refine blk_drewN ?_ _ | refine blk_drew ?_ | refine blk_alloc ?_ _)); refine blk_put (cs := #[.int .i64 x143000_1, .int .i64 x143001_1, .string x143002_1, .int .i64 x143003_1, .int .i64 x143004_1]) ?_ 0 _ rfl; (with_reducible repeat (first | refine blk_drewN ?_ _ | refine blk_drew ?_ | refine blk_alloc ?_ _)); exact BK142.out) Tryd.underlying33 rfl (by kernel_rfl)) rfl ?_
                        exact ⟨by first | rfl | (simp [errW_none, errW_some] <;> rfl) | (simp [*, errW_none, errW_some] <;> rfl), by repeat (first | (with_reducible first | exact HB.out | apply below_alloc | apply pw_below_drewN | apply below_drew1 | refine below_set ?_ GE142.out) | exact HB.out)⟩
                      · replace c16 := Bool.eq_false_iff.mpr c16
                        subst c16
                        have H1 : (if (bt a0 x7_1) = 92 then ((levyref4_is.f a0 (wrap64 (x7_1 + 1)) (⟨#[34]⟩ : ByteArray)).bind fun t143 => (if t143 = true then (if 0 ≤ (wrap64 (x7_1 + 1)) then (if (wrap64 (x7_1 + 1)) ≤ (wrap64 ((wrap64 (x7_1 + 1)) + 1)) then (if (wrap64 ((wrap64 (x7_1 + 1)) + 1)) ≤ (a0.size : Int) then (if x8_1.size + (a0.extract ((wrap64 (x7_1 + 1)) : Int).toNat ((wrap64 ((wrap64 (x7_1 + 1)) + 1)) : Int).toNat).size ≤ 9223372036854775807 then (levyref4_text.l0 kj13 a0 a1 (wrap64 ((wrap64 (x7_1 + 1)) + 1)) (x8_1 ++ (a0.extract ((wrap64 (x7_1 + 1)) : Int).toNat ((wrap64 ((wrap64 (x7_1 + 1)) + 1)) : Int).toNat))) else (none)) else (none)) else (none)) else (none)) else ((levyref4_is.f a0 (wrap64 (x7_1 + 1)) (⟨#[92]⟩ : ByteArray)).bind fun t144 => (if t144 = true then (if 0 ≤ (wrap64 (x7_1 + 1)) then (if (wrap64 (x7_1 + 1)) ≤ (wrap64 ((wrap64 (x7_1 + 1)) + 1)) then (if (wrap64 ((wrap64 (x7_1 + 1)) + 1)) ≤ (a0.size : Int) then (if x8_1.size + (a0.extract ((wrap64 (x7_1 + 1)) : Int).toNat ((wrap64 ((wrap64 (x7_1 + 1)) + 1)) : Int).toNat).size ≤ 9223372036854775807 then (levyref4_text.l0 kj13 a0 a1 (wrap64 ((wrap64 (x7_1 + 1)) + 1)) (x8_1 ++ (a0.extract ((wrap64 (x7_1 + 1)) : Int).toNat ((wrap64 ((wrap64 (x7_1 + 1)) + 1)) : Int).toNat))) else (none)) else (none)) else (none)) else (none)) else (some (0, 0, (⟨#[]⟩ : ByteArray), 0, 0, x7_1, 43)))))) else (if 0 ≤ x7_1 then (if x7_1 ≤ (wrap64 (x7_1 + 1)) then (if (wrap64 (x7_1 + 1)) ≤ (a0.size : Int) then (if x8_1.size + (a0.extract (x7_1 : Int).toNat ((wrap64 (x7_1 + 1)) : Int).toNat).size ≤ 9223372036854775807 then (levyref4_text.l0 kj13 a0 a1 (wrap64 (x7_1 + 1)) (x8_1 ++ (a0.extract (x7_1 : Int).toNat ((wrap64 (x7_1 + 1)) : Int).toNat))) else (none)) else (none)) else (none)) else (none))) = some (r1, r2, r3, r4, r5, r6, r7) := by rw [if_neg (show ¬ (false = true) by decide)] at H; exact H
                        clear H
                        have H := H1
                        clear H1
                        by_cases c18 : (bt a0 x7_1) = 92
                        · rw [if_pos c18] at H
                          have c18b0 : ((bt a0 x7_1) == 92) = true := beq_iff_eq.mpr c18
                          have c18b1 : ((bt a0 x7_1) != 92) = false := bne_eq_false_iff_eq.mpr c18
                          clear c18
                          replace H := Option.bind_eq_some_iff.mp H
                          obtain ⟨t143, A190, H⟩ := H
                          replace H : (if t143 = true then (if 0 ≤ (wrap64 (x7_1 + 1)) then (if (wrap64 (x7_1 + 1)) ≤ (wrap64 ((wrap64 (x7_1 + 1)) + 1)) then (if (wrap64 ((wrap64 (x7_1 + 1)) + 1)) ≤ (a0.size : Int) then (if x8_1.size + (a0.extract ((wrap64 (x7_1 + 1)) : Int).toNat ((wrap64 ((wrap64 (x7_1 + 1)) + 1)) : Int).toNat).size ≤ 9223372036854775807 then (levyref4_text.l0 kj13 a0 a1 (wrap64 ((wrap64 (x7_1 + 1)) + 1)) (x8_1 ++ (a0.extract ((wrap64 (x7_1 + 1)) : Int).toNat ((wrap64 ((wrap64 (x7_1 + 1)) + 1)) : Int).toNat))) else (none)) else (none)) else (none)) else (none)) else ((levyref4_is.f a0 (wrap64 (x7_1 + 1)) (⟨#[92]⟩ : ByteArray)).bind fun t144 => (if t144 = true then (if 0 ≤ (wrap64 (x7_1 + 1)) then (if (wrap64 (x7_1 + 1)) ≤ (wrap64 ((wrap64 (x7_1 + 1)) + 1)) then (if (wrap64 ((wrap64 (x7_1 + 1)) + 1)) ≤ (a0.size : Int) then (if x8_1.size + (a0.extract ((wrap64 (x7_1 + 1)) : Int).toNat ((wrap64 ((wrap64 (x7_1 + 1)) + 1)) : Int).toNat).size ≤ 9223372036854775807 then (levyref4_text.l0 kj13 a0 a1 (wrap64 ((wrap64 (x7_1 + 1)) + 1)) (x8_1 ++ (a0.extract ((wrap64 (x7_1 + 1)) : Int).toNat ((wrap64 ((wrap64 (x7_1 + 1)) + 1)) : Int).toNat))) else (none)) else (none)) else (none)) else (none)) else (some (0, 0, (⟨#[]⟩ : ByteArray), 0, 0, x7_1, 43))))) = some (r1, r2, r3, r4, r5, r6, r7) := H
                          have A19 := Aside0.mk A190
                          clear A190
                          by_cases c20 : t143 = true
                          · subst c20
                            have H1 : (if 0 ≤ (wrap64 (x7_1 + 1)) then (if (wrap64 (x7_1 + 1)) ≤ (wrap64 ((wrap64 (x7_1 + 1)) + 1)) then (if (wrap64 ((wrap64 (x7_1 + 1)) + 1)) ≤ (a0.size : Int) then (if x8_1.size + (a0.extract ((wrap64 (x7_1 + 1)) : Int).toNat ((wrap64 ((wrap64 (x7_1 + 1)) + 1)) : Int).toNat).size ≤ 9223372036854775807 then (levyref4_text.l0 kj13 a0 a1 (wrap64 ((wrap64 (x7_1 + 1)) + 1)) (x8_1 ++ (a0.extract ((wrap64 (x7_1 + 1)) : Int).toNat ((wrap64 ((wrap64 (x7_1 + 1)) + 1)) : Int).toNat))) else (none)) else (none)) else (none)) else (none)) = some (r1, r2, r3, r4, r5, r6, r7) := by rw [if_pos rfl] at H; exact H
                            clear H
                            have H := H1
                            clear H1
                            obtain ⟨ji21, hji21⟩ : ∃ j_ : Int, (wrap64 (x7_1 + 1)) = j_ := ⟨_, rfl⟩
                            replace H : (if 0 ≤ (ji21) then (if (ji21) ≤ (wrap64 ((ji21) + 1)) then (if (wrap64 ((ji21) + 1)) ≤ (a0.size : Int) then (if x8_1.size + (a0.extract ((ji21) : Int).toNat ((wrap64 ((ji21) + 1)) : Int).toNat).size ≤ 9223372036854775807 then (levyref4_text.l0 kj13 a0 a1 (wrap64 ((ji21) + 1)) (x8_1 ++ (a0.extract ((ji21) : Int).toNat ((wrap64 ((ji21) + 1)) : Int).toNat))) else (none)) else (none)) else (none)) else (none)) = some (r1, r2, r3, r4, r5, r6, r7) := by first | (rw [hji21] at H; exact H) | (simp only [hji21] at H ⊢; exact H)
                            (try rw [hji21] at A19)
                            have hji21w : (IntKind.i64.wrap (x7_1 + 1)) = ji21 := (i64_w _).trans hji21
                            by_cases c22 : 0 ≤ (ji21)
                            · rw [if_pos c22] at H
                              have c22b0 := eq_true c22
                              have c22b1 : decide (0 ≤ (ji21)) = true := decide_eq_true c22
                              clear c22
                              by_cases c23 : (ji21) ≤ (wrap64 ((ji21) + 1))
                              · rw [if_pos c23] at H
                                have c23b0 := eq_true c23
                                have c23b1 : decide ((ji21) ≤ (wrap64 ((ji21) + 1))) = true := decide_eq_true c23
                                by_cases c24 : (wrap64 ((ji21) + 1)) ≤ (a0.size : Int)
                                · rw [if_pos c24] at H
                                  have c24b0 := eq_true c24
                                  have c24b1 : decide ((wrap64 ((ji21) + 1)) ≤ (a0.size : Int)) = true := decide_eq_true c24
                                  by_cases c25 : x8_1.size + (a0.extract ((ji21) : Int).toNat ((wrap64 ((ji21) + 1)) : Int).toNat).size ≤ 9223372036854775807
                                  · rw [if_pos c25] at H
                                    have c25b0 := eq_true c25
                                    have c25b1 : decide (x8_1.size + (a0.extract ((ji21) : Int).toNat ((wrap64 ((ji21) + 1)) : Int).toNat).size ≤ 9223372036854775807) = true := decide_eq_true c25
                                    try have c25b2 : (9223372036854775807 < x8_1.size + (a0.extract ((ji21) : Int).toNat ((wrap64 ((ji21) + 1)) : Int).toNat).size) = False := eq_false (Nat.not_lt.2 c25)
                                    have H' := Aside0.mk H
                                    clear H
                                    go_wp2_with (first | ((with_reducible refine gate_callee (f := 49) rfl ?_); refine goesL_ (some 45) rfl rfl Tryd.func49 (by kernel_rfl) rfl #[.string a0, .int .i64 ji21, .string (⟨#[34]⟩ : ByteArray)] rfl (by (try simp only [List.map_toArray, List.map_cons, List.map_nil]); first | done | (simp only [hji21]; rfl) | rfl | (simp only [List.length_drop, List.length_take]; rfl)) ?_; (with_reducible refine (levyref4_is.calls a0 ji21 (⟨#[34]⟩ : ByteArray) true _ A19.out).mono ?_); rintro e w' ⟨rfl, ⟨nd, rfl⟩⟩; refine ⟨_, rfl, ?_⟩))
                                    go_roundg kj13
                                    case measure => have := HK1.out; have := HJ3.out; have := HJ13.out; omega
                                    case rel => exact ⟨(wrap64 ((ji21) + 1)), (x8_1 ++ (a0.extract ((ji21) : Int).toNat ((wrap64 ((ji21) + 1)) : Int).toNat)), (x143000_1), (x143001_1), (x143002_1), (x143003_1), (x143004_1), (by first | rfl | (simp; done) | (simp only [← hji21] <;> (first | rfl | simp)) | (simp [*]; done)), (by first | rfl | (simp; done) | (simp only [← hji21] <;> (first | rfl | simp)) | (simp [*]; done)), H', ⟨by have := HK1.out; have := HJ3.out; have := HJ13.out; omega⟩, ⟨by (with_reducible repeat (first | refine blk_drewN ?_ _ | refine blk_drew ?_ | refine blk_alloc ?_ _)); exact BK142.out⟩, ⟨by repeat (first | (with_reducible first | exact HB.out | apply below_alloc | apply pw_below_drewN | apply below_drew1 | refine below_set ?_ GE142.out) | exact HB.out)⟩⟩
                                  · rw [if_neg c25] at H
                                    exact absurd H (by simp)
                                · rw [if_neg c24] at H
                                  exact absurd H (by simp)
                              · rw [if_neg c23] at H
                                exact absurd H (by simp)
                            · rw [if_neg c22] at H
                              exact absurd H (by simp)
                          · replace c20 := Bool.eq_false_iff.mpr c20
                            subst c20
                            have H1 : ((levyref4_is.f a0 (wrap64 (x7_1 + 1)) (⟨#[92]⟩ : ByteArray)).bind fun t144 => (if t144 = true then (if 0 ≤ (wrap64 (x7_1 + 1)) then (if (wrap64 (x7_1 + 1)) ≤ (wrap64 ((wrap64 (x7_1 + 1)) + 1)) then (if (wrap64 ((wrap64 (x7_1 + 1)) + 1)) ≤ (a0.size : Int) then (if x8_1.size + (a0.extract ((wrap64 (x7_1 + 1)) : Int).toNat ((wrap64 ((wrap64 (x7_1 + 1)) + 1)) : Int).toNat).size ≤ 9223372036854775807 then (levyref4_text.l0 kj13 a0 a1 (wrap64 ((wrap64 (x7_1 + 1)) + 1)) (x8_1 ++ (a0.extract ((wrap64 (x7_1 + 1)) : Int).toNat ((wrap64 ((wrap64 (x7_1 + 1)) + 1)) : Int).toNat))) else (none)) else (none)) else (none)) else (none)) else (some (0, 0, (⟨#[]⟩ : ByteArray), 0, 0, x7_1, 43)))) = some (r1, r2, r3, r4, r5, r6, r7) := by rw [if_neg (show ¬ (false = true) by decide)] at H; exact H
                            clear H
                            have H := H1
                            clear H1
                            replace H := Option.bind_eq_some_iff.mp H
                            obtain ⟨t144, A260, H⟩ := H
                            replace H : (if t144 = true then (if 0 ≤ (wrap64 (x7_1 + 1)) then (if (wrap64 (x7_1 + 1)) ≤ (wrap64 ((wrap64 (x7_1 + 1)) + 1)) then (if (wrap64 ((wrap64 (x7_1 + 1)) + 1)) ≤ (a0.size : Int) then (if x8_1.size + (a0.extract ((wrap64 (x7_1 + 1)) : Int).toNat ((wrap64 ((wrap64 (x7_1 + 1)) + 1)) : Int).toNat).size ≤ 9223372036854775807 then (levyref4_text.l0 kj13 a0 a1 (wrap64 ((wrap64 (x7_1 + 1)) + 1)) (x8_1 ++ (a0.extract ((wrap64 (x7_1 + 1)) : Int).toNat ((wrap64 ((wrap64 (x7_1 + 1)) + 1)) : Int).toNat))) else (none)) else (none)) else (none)) else (none)) else (some (0, 0, (⟨#[]⟩ : ByteArray), 0, 0, x7_1, 43))) = some (r1, r2, r3, r4, r5, r6, r7) := H
                            have A26 := Aside0.mk A260
                            clear A260
                            by_cases c27 : t144 = true
                            · subst c27
                              have H1 : (if 0 ≤ (wrap64 (x7_1 + 1)) then (if (wrap64 (x7_1 + 1)) ≤ (wrap64 ((wrap64 (x7_1 + 1)) + 1)) then (if (wrap64 ((wrap64 (x7_1 + 1)) + 1)) ≤ (a0.size : Int) then (if x8_1.size + (a0.extract ((wrap64 (x7_1 + 1)) : Int).toNat ((wrap64 ((wrap64 (x7_1 + 1)) + 1)) : Int).toNat).size ≤ 9223372036854775807 then (levyref4_text.l0 kj13 a0 a1 (wrap64 ((wrap64 (x7_1 + 1)) + 1)) (x8_1 ++ (a0.extract ((wrap64 (x7_1 + 1)) : Int).toNat ((wrap64 ((wrap64 (x7_1 + 1)) + 1)) : Int).toNat))) else (none)) else (none)) else (none)) else (none)) = some (r1, r2, r3, r4, r5, r6, r7) := by rw [if_pos rfl] at H; exact H
                              clear H
                              have H := H1
                              clear H1
                              obtain ⟨ji28, hji28⟩ : ∃ j_ : Int, (wrap64 (x7_1 + 1)) = j_ := ⟨_, rfl⟩
                              replace H : (if 0 ≤ (ji28) then (if (ji28) ≤ (wrap64 ((ji28) + 1)) then (if (wrap64 ((ji28) + 1)) ≤ (a0.size : Int) then (if x8_1.size + (a0.extract ((ji28) : Int).toNat ((wrap64 ((ji28) + 1)) : Int).toNat).size ≤ 9223372036854775807 then (levyref4_text.l0 kj13 a0 a1 (wrap64 ((ji28) + 1)) (x8_1 ++ (a0.extract ((ji28) : Int).toNat ((wrap64 ((ji28) + 1)) : Int).toNat))) else (none)) else (none)) else (none)) else (none)) = some (r1, r2, r3, r4, r5, r6, r7) := by first | (rw [hji28] at H; exact H) | (simp only [hji28] at H ⊢; exact H)
                              (try rw [hji28] at A19)
                              (try rw [hji28] at A26)
                              have hji28w : (IntKind.i64.wrap (x7_1 + 1)) = ji28 := (i64_w _).trans hji28
                              by_cases c29 : 0 ≤ (ji28)
                              · rw [if_pos c29] at H
                                have c29b0 := eq_true c29
                                have c29b1 : decide (0 ≤ (ji28)) = true := decide_eq_true c29
                                clear c29
                                by_cases c30 : (ji28) ≤ (wrap64 ((ji28) + 1))
                                · rw [if_pos c30] at H
                                  have c30b0 := eq_true c30
                                  have c30b1 : decide ((ji28) ≤ (wrap64 ((ji28) + 1))) = true := decide_eq_true c30
                                  by_cases c31 : (wrap64 ((ji28) + 1)) ≤ (a0.size : Int)
                                  · rw [if_pos c31] at H
                                    have c31b0 := eq_true c31
                                    have c31b1 : decide ((wrap64 ((ji28) + 1)) ≤ (a0.size : Int)) = true := decide_eq_true c31
                                    by_cases c32 : x8_1.size + (a0.extract ((ji28) : Int).toNat ((wrap64 ((ji28) + 1)) : Int).toNat).size ≤ 9223372036854775807
                                    · rw [if_pos c32] at H
                                      have c32b0 := eq_true c32
                                      have c32b1 : decide (x8_1.size + (a0.extract ((ji28) : Int).toNat ((wrap64 ((ji28) + 1)) : Int).toNat).size ≤ 9223372036854775807) = true := decide_eq_true c32
                                      try have c32b2 : (9223372036854775807 < x8_1.size + (a0.extract ((ji28) : Int).toNat ((wrap64 ((ji28) + 1)) : Int).toNat).size) = False := eq_false (Nat.not_lt.2 c32)
                                      have H' := Aside0.mk H
                                      clear H
                                      go_wp2_with (first | ((with_reducible refine gate_callee (f := 49) rfl ?_); refine goesL_ (some 45) rfl rfl Tryd.func49 (by kernel_rfl) rfl #[.string a0, .int .i64 ji28, .string (⟨#[34]⟩ : ByteArray)] rfl (by (try simp only [List.map_toArray, List.map_cons, List.map_nil]); first | done | (simp only [hji28]; rfl) | rfl | (simp only [List.length_drop, List.length_take]; rfl)) ?_; (with_reducible refine (levyref4_is.calls a0 ji28 (⟨#[34]⟩ : ByteArray) false _ A19.out).mono ?_); rintro e w' ⟨rfl, ⟨nd, rfl⟩⟩; refine ⟨_, rfl, ?_⟩) | (go_at_call 49; (with_reducible refine (levyref4_is.calls a0 ji28 (⟨#[92]⟩ : ByteArray) true _ A26.out).mono ?_); rintro e w' ⟨rfl, ⟨nd, rfl⟩⟩))
                                      go_roundg kj13
                                      case measure => have := HK1.out; have := HJ3.out; have := HJ13.out; omega
                                      case rel => exact ⟨(wrap64 ((ji28) + 1)), (x8_1 ++ (a0.extract ((ji28) : Int).toNat ((wrap64 ((ji28) + 1)) : Int).toNat)), (x143000_1), (x143001_1), (x143002_1), (x143003_1), (x143004_1), (by first | rfl | (simp; done) | (simp only [← hji28] <;> (first | rfl | simp)) | (simp [*]; done)), (by first | rfl | (simp; done) | (simp only [← hji28] <;> (first | rfl | simp)) | (simp [*]; done)), H', ⟨by have := HK1.out; have := HJ3.out; have := HJ13.out; omega⟩, ⟨by (with_reducible repeat (first | refine blk_drewN ?_ _ | refine blk_drew ?_ | refine blk_alloc ?_ _)); exact BK142.out⟩, ⟨by repeat (first | (with_reducible first | exact HB.out | apply below_alloc | apply pw_below_drewN | apply below_drew1 | refine below_set ?_ GE142.out) | exact HB.out)⟩⟩
                                    · rw [if_neg c32] at H
                                      exact absurd H (by simp)
                                  · rw [if_neg c31] at H
                                    exact absurd H (by simp)
                                · rw [if_neg c30] at H
                                  exact absurd H (by simp)
                              · rw [if_neg c29] at H
                                exact absurd H (by simp)
                            · replace c27 := Bool.eq_false_iff.mpr c27
                              subst c27
                              have H1 : (some (0, 0, (⟨#[]⟩ : ByteArray), 0, 0, x7_1, 43)) = some (r1, r2, r3, r4, r5, r6, r7) := by rw [if_neg (show ¬ (false = true) by decide)] at H; exact H
                              clear H
                              have H := H1
                              clear H1
                              simp only [Option.some.injEq, Prod.mk.injEq] at H
                              obtain ⟨rfl, rfl, rfl, rfl, rfl, rfl, rfl⟩ := H
                              go_wp2_with (first | ((with_reducible refine gate_callee (f := 49) rfl ?_); refine goesL_ (some 45) rfl rfl Tryd.func49 (by kernel_rfl) rfl #[.string a0, .int .i64 (wrap64 (x7_1 + 1)), .string (⟨#[34]⟩ : ByteArray)] rfl (by (try simp only [List.map_toArray, List.map_cons, List.map_nil]); first | done | rfl | (simp only [List.length_drop, List.length_take]; rfl)) ?_; (with_reducible refine (levyref4_is.calls a0 (wrap64 (x7_1 + 1)) (⟨#[34]⟩ : ByteArray) false _ A19.out).mono ?_); rintro e w' ⟨rfl, ⟨nd, rfl⟩⟩; refine ⟨_, rfl, ?_⟩; (try (rw [drewN_self wc]; generalize hq_ : World.drewN wc _ = wc; have n0_ : Aside0 (wc.heap[gb142]? = some (.cells #[.int .i64 x143000_1, .int .i64 x143001_1, .string x143002_1, .int .i64 x143003_1, .int .i64 x143004_1] 33 (0, 0))) := ⟨by rw [← hq_]; exact (by (with_reducible repeat (first | refine blk_drewN ?_ _ | refine blk_drew ?_ | refine blk_alloc ?_ _)); exact BK142.out)⟩; have n1_ : Aside0 (Below w.heap.size w wc) := ⟨by rw [← hq_]; exact (by repeat (first | (with_reducible first | exact HB.out | apply below_alloc | apply pw_below_drewN | apply below_drew1 | refine below_set ?_ GE142.out) | exact HB.out))⟩; clear BK142 HB hq_; have BK142 := n0_; have HB := n1_; clear n0_ n1_))) | (go_at_call 49; (with_reducible refine (levyref4_is.calls a0 (wrap64 (x7_1 + 1)) (⟨#[92]⟩ : ByteArray) false _ A26.out).mono ?_); rintro e w' ⟨rfl, ⟨nd, rfl⟩⟩; (try (rw [drewN_self wc]; generalize hq_ : World.drewN wc _ = wc; have n0_ : Aside0 (wc.heap[gb142]? = some (.cells #[.int .i64 x143000_1, .int .i64 x143001_1, .string x143002_1, .int .i64 x143003_1, .int .i64 x143004_1] 33 (0, 0))) := ⟨by rw [← hq_]; exact (by (with_reducible repeat (first | refine blk_drewN ?_ _ | refine blk_drew ?_ | refine blk_alloc ?_ _)); exact BK142.out)⟩; have n1_ : Aside0 (Below w.heap.size w wc) := ⟨by rw [← hq_]; exact (by repeat (first | (with_reducible first | exact HB.out | apply below_alloc | apply pw_below_drewN | apply below_drew1 | refine below_set ?_ GE142.out) | exact HB.out))⟩; clear BK142 HB hq_; have BK142 := n0_; have HB := n1_; clear n0_ n1_)); have hcz33_0 : wc.cell? ⟨gb142, 0, none⟩ = some (.int .i64 x143000_1) := (blk_cell BK142.out 0).trans rfl; have hcz33_1 : wc.cell? ⟨gb142, 1, none⟩ = some (.int .i64 x143001_1) := (blk_cell BK142.out 1).trans rfl; have hcz33_2 : wc.cell? ⟨gb142, 2, none⟩ = some (.string x143002_1) := (blk_cell BK142.out 2).trans rfl; have hcz33_3 : wc.cell? ⟨gb142, 3, none⟩ = some (.int .i64 x143003_1) := (blk_cell BK142.out 3).trans rfl; have hcz33_4 : wc.cell? ⟨gb142, 4, none⟩ = some (.int .i64 x143004_1) := (blk_cell BK142.out 4).trans rfl; have hfz33_0 := blk_frozen BK142.out 0; have hfz33_1 := blk_frozen BK142.out 1; have hfz33_2 := blk_frozen BK142.out 2; have hfz33_3 := blk_frozen BK142.out 3; have hfz33_4 := blk_frozen BK142.out 4))
                              refine bodyPost_ret (results_ctt rfl _ _ gb142 33 #[.int .i64 0, .int .i64 0, .string (⟨#[]⟩ : ByteArray), .int .i64 0, .int .i64 0] (0, 0) _ rfl (by (with_reducible repeat (first | refine blk_drewN ?_ _ | refine blk_drew ?_ | refine blk_alloc ?_ _)); refine blk_put (cs := #[.int .i64 0, .int .i64 0, .string (⟨#[]⟩ : ByteArray), .int .i64 0, .int .i64 x143004_1]) ?_ 4 _ rfl; (with_reducible repeat (first | refine blk_drewN ?_ _ | refine blk_drew ?_ | refine blk_alloc ?_ _)); refine blk_put (cs := #[.int .i64 0, .int .i64 0, .string (⟨#[]⟩ : ByteArray), .int .i64 x143003_1, .int .i64 x143004_1]) ?_ 3 _ rfl; (with_reducible repeat (first | refine blk_drewN ?_ _ | refine blk_drew ?_ | refine blk_alloc ?_ _)); refine blk_put (cs := #[.int .i64 0, .int .i64 0, .string x143002_1, .int .i64 x143003_1, .int .i64 x143004_1]) ?_ 2 _ rfl; (with_reducible repeat (first | refine blk_drewN ?_ _ | refine blk_drew ?_ | refine blk_alloc ?_ _)); refine blk_put (cs := #[.int .i64 0, .int .i64 x143001_1, .string x143002_1, .int .i64 x143003_1, .int .i64 x143004_1]) ?_ 1 _ rfl; (with_reducible repeat (first | refine blk_drewN ?_ _ | refine blk_drew ?_ | refine blk_alloc ?_ _)); refine blk_put (cs := #[.int .i64 x143000_1, .int .i64 x143001_1, .string x143002_1, .int .i64 x143003_1, .int .i64 x143004_1]) ?_ 0 _ rfl; (with_reducible repeat (first | refine blk_drewN ?_ _ | refine blk_drew ?_ | refine blk_alloc ?_ _)); exact BK142.out) Tryd.underlying33 rfl (by kernel_rfl)) rfl ?_
                              exact ⟨by first | rfl | (simp [errW_none, errW_some] <;> rfl) | (simp [*, errW_none, errW_some] <;> rfl), by repeat (first | (with_reducible first | exact HB.out | apply below_alloc | apply pw_below_drewN | apply below_drew1 | refine below_set ?_ GE142.out) | exact HB.out)⟩
                        · rw [if_neg c18] at H
                          have c18b0 : ((bt a0 x7_1) == 92) = false := beq_eq_false_iff_ne.mpr c18
                          have c18b1 : ((bt a0 x7_1) != 92) = true := bne_iff_ne.mpr c18
                          by_cases c34 : 0 ≤ x7_1
                          · rw [if_pos c34] at H
                            have c34b0 := eq_true c34
                            have c34b1 : decide (0 ≤ x7_1) = true := decide_eq_true c34
                            clear c34
                            by_cases c35 : x7_1 ≤ (wrap64 (x7_1 + 1))
                            · rw [if_pos c35] at H
                              have c35b0 := eq_true c35
                              have c35b1 : decide (x7_1 ≤ (wrap64 (x7_1 + 1))) = true := decide_eq_true c35
                              by_cases c36 : (wrap64 (x7_1 + 1)) ≤ (a0.size : Int)
                              · rw [if_pos c36] at H
                                have c36b0 := eq_true c36
                                have c36b1 : decide ((wrap64 (x7_1 + 1)) ≤ (a0.size : Int)) = true := decide_eq_true c36
                                by_cases c37 : x8_1.size + (a0.extract (x7_1 : Int).toNat ((wrap64 (x7_1 + 1)) : Int).toNat).size ≤ 9223372036854775807
                                · rw [if_pos c37] at H
                                  have c37b0 := eq_true c37
                                  have c37b1 : decide (x8_1.size + (a0.extract (x7_1 : Int).toNat ((wrap64 (x7_1 + 1)) : Int).toNat).size ≤ 9223372036854775807) = true := decide_eq_true c37
                                  try have c37b2 : (9223372036854775807 < x8_1.size + (a0.extract (x7_1 : Int).toNat ((wrap64 (x7_1 + 1)) : Int).toNat).size) = False := eq_false (Nat.not_lt.2 c37)
                                  have H' := Aside0.mk H
                                  clear H
                                  go_wp2
                                  go_roundg kj13
                                  case measure => have := HK1.out; have := HJ3.out; have := HJ13.out; omega
                                  case rel => exact ⟨(wrap64 (x7_1 + 1)), (x8_1 ++ (a0.extract (x7_1 : Int).toNat ((wrap64 (x7_1 + 1)) : Int).toNat)), (x143000_1), (x143001_1), (x143002_1), (x143003_1), (x143004_1), (by first | rfl | (simp; done) | (simp [*]; done)), (by first | rfl | (simp; done) | (simp [*]; done)), H', ⟨by have := HK1.out; have := HJ3.out; have := HJ13.out; omega⟩, ⟨by (with_reducible repeat (first | refine blk_drewN ?_ _ | refine blk_drew ?_ | refine blk_alloc ?_ _)); exact BK142.out⟩, ⟨by repeat (first | (with_reducible first | exact HB.out | apply below_alloc | apply pw_below_drewN | apply below_drew1 | refine below_set ?_ GE142.out) | exact HB.out)⟩⟩
                                · rw [if_neg c37] at H
                                  exact absurd H (by simp)
                              · rw [if_neg c36] at H
                                exact absurd H (by simp)
                            · rw [if_neg c35] at H
                              exact absurd H (by simp)
                          · rw [if_neg c34] at H
                            exact absurd H (by simp)
              · rw [if_neg c10] at H
                exact absurd H (by simp)
            · rw [if_neg c9] at H
              exact absurd H (by simp)
          · replace c8 := Bool.eq_false_iff.mpr c8
            subst c8
            have H1 : (if x7_1 ≥ (a0.size : Int) then (some (0, 0, (⟨#[]⟩ : ByteArray), 0, 0, a1, 43)) else (if (x8_1.size : Int) > 40 then (some (0, 0, (⟨#[]⟩ : ByteArray), 0, 0, a1, 40)) else (some (6, 0, x8_1, 0, 0, wrap64 (x7_1 + 1), 0)))) = some (r1, r2, r3, r4, r5, r6, r7) := by rw [if_neg (show ¬ (false = true) by decide)] at H; exact H
            clear H
            have H := H1
            clear H1
            by_cases c38 : x7_1 ≥ (a0.size : Int)
            · rw [if_pos c38] at H
              have c38b0 : decide ((a0.size : Int) ≤ x7_1) = true := decide_eq_true c38
              clear c38
              simp only [Option.some.injEq, Prod.mk.injEq] at H
              obtain ⟨rfl, rfl, rfl, rfl, rfl, rfl, rfl⟩ := H
              have hcz39_0 : wc.cell? ⟨gb142, 0, none⟩ = some (.int .i64 x143000_1) := (blk_cell BK142.out 0).trans rfl
              have hcz39_1 : wc.cell? ⟨gb142, 1, none⟩ = some (.int .i64 x143001_1) := (blk_cell BK142.out 1).trans rfl
              have hcz39_2 : wc.cell? ⟨gb142, 2, none⟩ = some (.string x143002_1) := (blk_cell BK142.out 2).trans rfl
              have hcz39_3 : wc.cell? ⟨gb142, 3, none⟩ = some (.int .i64 x143003_1) := (blk_cell BK142.out 3).trans rfl
              have hcz39_4 : wc.cell? ⟨gb142, 4, none⟩ = some (.int .i64 x143004_1) := (blk_cell BK142.out 4).trans rfl
              have hfz39_0 := blk_frozen BK142.out 0
              have hfz39_1 := blk_frozen BK142.out 1
              have hfz39_2 := blk_frozen BK142.out 2
              have hfz39_3 := blk_frozen BK142.out 3
              have hfz39_4 := blk_frozen BK142.out 4
              go_wp2
              refine bodyPost_ret (results_ctt rfl _ _ gb142 33 #[.int .i64 0, .int .i64 0, .string (⟨#[]⟩ : ByteArray), .int .i64 0, .int .i64 0] (0, 0) _ rfl (by (with_reducible repeat (first | refine blk_drewN ?_ _ | refine blk_drew ?_ | refine blk_alloc ?_ _)); refine blk_put (cs := #[.int .i64 0, .int .i64 0, .string (⟨#[]⟩ : ByteArray), .int .i64 0, .int .i64 x143004_1]) ?_ 4 _ rfl; (with_reducible repeat (first | refine blk_drewN ?_ _ | refine blk_drew ?_ | refine blk_alloc ?_ _)); refine blk_put (cs := #[.int .i64 0, .int .i64 0, .string (⟨#[]⟩ : ByteArray), .int .i64 x143003_1, .int .i64 x143004_1]) ?_ 3 _ rfl; (with_reducible repeat (first | refine blk_drewN ?_ _ | refine blk_drew ?_ | refine blk_alloc ?_ _)); refine blk_put (cs := #[.int .i64 0, .int .i64 0, .string x143002_1, .int .i64 x143003_1, .int .i64 x143004_1]) ?_ 2 _ rfl; (with_reducible repeat (first | refine blk_drewN ?_ _ | refine blk_drew ?_ | refine blk_alloc ?_ _)); refine blk_put (cs := #[.int .i64 0, .int .i64 x143001_1, .string x143002_1, .int .i64 x143003_1, .int .i64 x143004_1]) ?_ 1 _ rfl; (with_reducible repeat (first | refine blk_drewN ?_ _ | refine blk_drew ?_ | refine blk_alloc ?_ _)); refine blk_put (cs := #[.int .i64 x143000_1, .int .i64 x143001_1, .string x143002_1, .int .i64 x143003_1, .int .i64 x143004_1]) ?_ 0 _ rfl; (with_reducible repeat (first | refine blk_drewN ?_ _ | refine blk_drew ?_ | refine blk_alloc ?_ _)); exact BK142.out) Tryd.underlying33 rfl (by kernel_rfl)) rfl ?_
              exact ⟨by first | rfl | (simp [errW_none, errW_some] <;> rfl) | (simp [*, errW_none, errW_some] <;> rfl), by repeat (first | (with_reducible first | exact HB.out | apply below_alloc | apply pw_below_drewN | apply below_drew1 | refine below_set ?_ GE142.out) | exact HB.out)⟩
            · rw [if_neg c38] at H
              have c38b0 : decide ((a0.size : Int) ≤ x7_1) = false := decide_eq_false c38
              clear c38
              by_cases c40 : (x8_1.size : Int) > 40
              · rw [if_pos c40] at H
                have c40b0 : decide (40 < (x8_1.size : Int)) = true := decide_eq_true c40
                have c40b1 : decide (40 < x8_1.size) = true := decide_eq_true (by omega)
                clear c40
                simp only [Option.some.injEq, Prod.mk.injEq] at H
                obtain ⟨rfl, rfl, rfl, rfl, rfl, rfl, rfl⟩ := H
                have hcz41_0 : wc.cell? ⟨gb142, 0, none⟩ = some (.int .i64 x143000_1) := (blk_cell BK142.out 0).trans rfl
                have hcz41_1 : wc.cell? ⟨gb142, 1, none⟩ = some (.int .i64 x143001_1) := (blk_cell BK142.out 1).trans rfl
                have hcz41_2 : wc.cell? ⟨gb142, 2, none⟩ = some (.string x143002_1) := (blk_cell BK142.out 2).trans rfl
                have hcz41_3 : wc.cell? ⟨gb142, 3, none⟩ = some (.int .i64 x143003_1) := (blk_cell BK142.out 3).trans rfl
                have hcz41_4 : wc.cell? ⟨gb142, 4, none⟩ = some (.int .i64 x143004_1) := (blk_cell BK142.out 4).trans rfl
                have hfz41_0 := blk_frozen BK142.out 0
                have hfz41_1 := blk_frozen BK142.out 1
                have hfz41_2 := blk_frozen BK142.out 2
                have hfz41_3 := blk_frozen BK142.out 3
                have hfz41_4 := blk_frozen BK142.out 4
                go_wp2
                refine bodyPost_ret (results_ctt rfl _ _ gb142 33 #[.int .i64 0, .int .i64 0, .string (⟨#[]⟩ : ByteArray), .int .i64 0, .int .i64 0] (0, 0) _ rfl (by (with_reducible repeat (first | refine blk_drewN ?_ _ | refine blk_drew ?_ | refine blk_alloc ?_ _)); refine blk_put (cs := #[.int .i64 0, .int .i64 0, .string (⟨#[]⟩ : ByteArray), .int .i64 0, .int .i64 x143004_1]) ?_ 4 _ rfl; (with_reducible repeat (first | refine blk_drewN ?_ _ | refine blk_drew ?_ | refine blk_alloc ?_ _)); refine blk_put (cs := #[.int .i64 0, .int .i64 0, .string (⟨#[]⟩ : ByteArray), .int .i64 x143003_1, .int .i64 x143004_1]) ?_ 3 _ rfl; (with_reducible repeat (first | refine blk_drewN ?_ _ | refine blk_drew ?_ | refine blk_alloc ?_ _)); refine blk_put (cs := #[.int .i64 0, .int .i64 0, .string x143002_1, .int .i64 x143003_1, .int .i64 x143004_1]) ?_ 2 _ rfl; (with_reducible repeat (first | refine blk_drewN ?_ _ | refine blk_drew ?_ | refine blk_alloc ?_ _)); refine blk_put (cs := #[.int .i64 0, .int .i64 x143001_1, .string x143002_1, .int .i64 x143003_1, .int .i64 x143004_1]) ?_ 1 _ rfl; (with_reducible repeat (first | refine blk_drewN ?_ _ | refine blk_drew ?_ | refine blk_alloc ?_ _)); refine blk_put (cs := #[.int .i64 x143000_1, .int .i64 x143001_1, .string x143002_1, .int .i64 x143003_1, .int .i64 x143004_1]) ?_ 0 _ rfl; (with_reducible repeat (first | refine blk_drewN ?_ _ | refine blk_drew ?_ | refine blk_alloc ?_ _)); exact BK142.out) Tryd.underlying33 rfl (by kernel_rfl)) rfl ?_
                exact ⟨by first | rfl | (simp [errW_none, errW_some] <;> rfl) | (simp [*, errW_none, errW_some] <;> rfl), by repeat (first | (with_reducible first | exact HB.out | apply below_alloc | apply pw_below_drewN | apply below_drew1 | refine below_set ?_ GE142.out) | exact HB.out)⟩
              · rw [if_neg c40] at H
                have c40b0 : decide (40 < (x8_1.size : Int)) = false := decide_eq_false c40
                have c40b1 : decide (40 < x8_1.size) = false := decide_eq_false (by omega)
                clear c40
                simp only [Option.some.injEq, Prod.mk.injEq] at H
                obtain ⟨rfl, rfl, rfl, rfl, rfl, rfl, rfl⟩ := H
                have hcz42_0 : wc.cell? ⟨gb142, 0, none⟩ = some (.int .i64 x143000_1) := (blk_cell BK142.out 0).trans rfl
                have hcz42_1 : wc.cell? ⟨gb142, 1, none⟩ = some (.int .i64 x143001_1) := (blk_cell BK142.out 1).trans rfl
                have hcz42_2 : wc.cell? ⟨gb142, 2, none⟩ = some (.string x143002_1) := (blk_cell BK142.out 2).trans rfl
                have hcz42_3 : wc.cell? ⟨gb142, 3, none⟩ = some (.int .i64 x143003_1) := (blk_cell BK142.out 3).trans rfl
                have hcz42_4 : wc.cell? ⟨gb142, 4, none⟩ = some (.int .i64 x143004_1) := (blk_cell BK142.out 4).trans rfl
                have hfz42_0 := blk_frozen BK142.out 0
                have hfz42_1 := blk_frozen BK142.out 1
                have hfz42_2 := blk_frozen BK142.out 2
                have hfz42_3 := blk_frozen BK142.out 3
                have hfz42_4 := blk_frozen BK142.out 4
                go_wp2
                refine bodyPost_ret (results_ctt rfl _ _ gb142 33 #[.int .i64 6, .int .i64 0, .string x8_1, .int .i64 0, .int .i64 0] (0, 0) _ rfl (by (with_reducible repeat (first | refine blk_drewN ?_ _ | refine blk_drew ?_ | refine blk_alloc ?_ _)); refine blk_put (cs := #[.int .i64 6, .int .i64 0, .string x8_1, .int .i64 0, .int .i64 x143004_1]) ?_ 4 _ rfl; (with_reducible repeat (first | refine blk_drewN ?_ _ | refine blk_drew ?_ | refine blk_alloc ?_ _)); refine blk_put (cs := #[.int .i64 6, .int .i64 0, .string x8_1, .int .i64 x143003_1, .int .i64 x143004_1]) ?_ 3 _ rfl; (with_reducible repeat (first | refine blk_drewN ?_ _ | refine blk_drew ?_ | refine blk_alloc ?_ _)); refine blk_put (cs := #[.int .i64 6, .int .i64 0, .string x143002_1, .int .i64 x143003_1, .int .i64 x143004_1]) ?_ 2 _ rfl; (with_reducible repeat (first | refine blk_drewN ?_ _ | refine blk_drew ?_ | refine blk_alloc ?_ _)); refine blk_put (cs := #[.int .i64 6, .int .i64 x143001_1, .string x143002_1, .int .i64 x143003_1, .int .i64 x143004_1]) ?_ 1 _ rfl; (with_reducible repeat (first | refine blk_drewN ?_ _ | refine blk_drew ?_ | refine blk_alloc ?_ _)); refine blk_put (cs := #[.int .i64 x143000_1, .int .i64 x143001_1, .string x143002_1, .int .i64 x143003_1, .int .i64 x143004_1]) ?_ 0 _ rfl; (with_reducible repeat (first | refine blk_drewN ?_ _ | refine blk_drew ?_ | refine blk_alloc ?_ _)); exact BK142.out) Tryd.underlying33 rfl (by kernel_rfl)) rfl ?_
                exact ⟨by first | rfl | (simp [errW_none, errW_some] <;> rfl) | (simp [*, errW_none, errW_some] <;> rfl), by repeat (first | (with_reducible first | exact HB.out | apply below_alloc | apply pw_below_drewN | apply below_drew1 | refine below_set ?_ GE142.out) | exact HB.out)⟩

end Go.Proofs.YtidbcenbcllfnaaDoor.PA
