/- The contracts of levylaw2.pieces and its closure, walked by hand. Condition: the world holds the table of the months' lengths ('Tabs'). -/
import Derived.Test.YtlipkhhpjelicaaDoorHMonthsCl
import Derived.Test.YtlipkhhpjelicaaDoorHShare
import Derived.Test.YtlipkhhpjelicaaDoorPAx0
namespace Go.Proofs.YtlipkhhpjelicaaDoor.PA
open Go.RowKit Go.Shelf Go.Proofs.YtlipkhhpjelicaaDoorW.PrintWords Go.Proofs.YtlipkhhpjelicaaDoorW.PrintLast Go.Proofs.YtlipkhhpjelicaaDoorW.PrintMore Go.Proofs.YtlipkhhpjelicaaDoor.Days Go.Proofs.YtlipkhhpjelicaaDoor.Cal
set_option linter.unusedVariables false
set_option linter.unusedSimpArgs false

def kPc : Kd Pc := Kd.iso (Kd.pair (Kd.int .i64) (Kd.pair (Kd.int .i64) (Kd.pair (Kd.int .i64) (Kd.int .i64)))) (fun x : Pc => (x.1.1, x.1.2.1, x.1.2.2, x.2))
theorem kPc_open {w : World} {x : Pc} {cs : List Value} (h : kPc.K w x cs) : cs = [.int .i64 x.1.1, .int .i64 x.1.2.1, .int .i64 x.1.2.2, .int .i64 x.2] := by
  obtain ⟨_, _, rfl, rfl, ⟨_, _, rfl, rfl, ⟨_, _, rfl, rfl, rfl⟩⟩⟩ := h
  exact rfl
theorem kPc_mkM (w : World) (base : Nat) (ok : Nat → Prop) (x : Pc) : kPc.M w base ok x [.int .i64 x.1.1, .int .i64 x.1.2.1, .int .i64 x.1.2.2, .int .i64 x.2] :=
  ⟨[.int .i64 x.1.1], [.int .i64 x.1.2.1, .int .i64 x.1.2.2, .int .i64 x.2], rfl, rfl, ⟨[.int .i64 x.1.2.1], [.int .i64 x.1.2.2, .int .i64 x.2], rfl, rfl, ⟨[.int .i64 x.1.2.2], [.int .i64 x.2], rfl, rfl, rfl⟩⟩⟩
theorem infoPc : (Tryd.prog.info? 35).map (fun i => (i.zero, i.size, i.bytes)) = some (some (.agg #[.int .i64 0, .int .i64 0, .int .i64 0, .int .i64 0]), 4, 32) := by kernel_rfl

/-- Is the closure to say 'no more', when n pieces have come before this one? -/
def overB (n : Nat) (most : Int) : Bool := (n : Int) + 1 == most || decide (4000 ≤ (n : Int) + 1)
theorem over_true {n : Nat} {most : Int} (h : (n : Int) + 1 = most) : overB n most = true := by unfold overB; rw [beq_iff_eq.2 h]; rfl
theorem box_ne {W : World} {B B' : Nat} {t t' : TypeId} {v v' : Value} (h : Boxed W B t v) (h' : Boxed W B' t' v') (hn : t ≠ t') : B ≠ B' := by
  rintro rfl
  have h := h.symm.trans h'
  injection h with h
  injection h with _ h
  exact hn h
theorem kPc_far : ∀ q, q ∈ (35 : Nat) :: kPc.E → q ≠ 27 ∧ q ≠ 4 := by
  intro q hq
  rcases List.mem_cons.1 hq with rfl | h
  · exact ⟨by decide, by decide⟩
  · exact absurd (show q ∈ ([] : List Nat) from h) List.not_mem_nil

set_option maxRecDepth 100000 in
set_option maxHeartbeats 2000000 in
theorem pieces1_calls (Bo Bw Bs Bm : Nat) (x : Pc) (pre : List Pc) (most : Int) (v : Value) (base : Nat) (W : World) (hb : base ≤ W.heap.size)
    (bo : Boxed W Bo 4 (.bool false)) (bw : Boxed W Bw 4 (.bool true)) (bs : Boxed W Bs 27 v) (bm : Boxed W Bm 3 (.int .i64 most))
    (HO : Kd.R kPc 35 W base (fun _ => True) v pre) (hl : pre.length < 4000) (hne : Bw ≠ Bo) (hbo : base ≤ Bo) (hbs : base ≤ Bs) :
    Calls Tryd.prog 46 #[.agg #[.int .i64 x.1.1, .int .i64 x.1.2.1, .int .i64 x.1.2.2], .int .i64 x.2, .pointer (some ⟨Bo, 0, none⟩), .pointer (some ⟨Bw, 0, none⟩), .pointer (some ⟨Bs, 0, none⟩), .pointer (some ⟨Bm, 0, none⟩)] W fun e W' =>
      e = .returned (.bool (!(overB pre.length most))) ∧ ∃ v', Boxed W' Bo 4 (.bool (overB pre.length most)) ∧ Boxed W' Bw 4 (.bool true) ∧ Boxed W' Bs 27 v' ∧ Boxed W' Bm 3 (.int .i64 most) ∧ Kd.R kPc 35 W' base (fun _ => True) v' (pre ++ [x]) ∧ Below base W W' := by
  have ne1 : Bo ≠ Bs := box_ne bo bs (by decide)
  have ne2 : Bm ≠ Bs := box_ne bm bs (by decide)
  have ne5 : Bw ≠ Bs := box_ne bw bs (by decide)
  have ne6 : Bm ≠ Bo := box_ne bm bo (by decide)
  have ne3 : Bs ≠ Bo := fun e => ne1 e.symm
  have ne4 : Bs ≠ Bm := fun e => ne2 e.symm
  have bx := World.alloc_heap_new W (.cells #[.int .i64 x.1.1, .int .i64 x.1.2.1, .int .i64 x.1.2.2] 33)
  obtain ⟨W1, hW1⟩ : ∃ W1, W.alloc (.cells #[.int .i64 x.1.1, .int .i64 x.1.2.1, .int .i64 x.1.2.2] 33) = W1 := ⟨_, rfl⟩
  have hB1 : Below base W W1 := by rw [← hW1]; exact (Below.refl _ _).alloc hb _
  have HO1 : Kd.R kPc 35 W1 base (fun _ => True) v pre := by rw [← hW1]; exact Kd.R_alloc HO _
  have bo1 : Boxed W1 Bo 4 (.bool false) := by rw [← hW1]; exact bo.alloc _
  have bw1 : Boxed W1 Bw 4 (.bool true) := by rw [← hW1]; exact bw.alloc _
  have bs1 : Boxed W1 Bs 27 v := by rw [← hW1]; exact bs.alloc _
  have bm1 : Boxed W1 Bm 3 (.int .i64 most) := by rw [← hW1]; exact bm.alloc _
  rw [hW1] at bx
  have co := bo1.cell
  have fo := bo1.frozen
  have cs := bs1.cell
  have fs := bs1.frozen
  have cm := bm1.cell
  have cx0 := (blk_cell bx 0).trans rfl
  have cx1 := (blk_cell bx 1).trans rfl
  have cx2 := (blk_cell bx 2).trans rfl
  go_enter Tryd.func46, Tryd.ntmps46
  have HW1 := Aside0.mk hW1
  clear hW1
  have HO2 := Aside0.mk HO1
  have HB2 := Aside0.mk hB1
  have HL := Aside0.mk hl
  have BO := Aside0.mk bo1
  have BW := Aside0.mk bw1
  have BS := Aside0.mk bs1
  have BM := Aside0.mk bm1
  clear HO1 hB1 hl bo1 bw1 bs1 bm1 HO
  go_wp2_with (first
    | (rw [HW1.out])
    | ((with_reducible refine gate_builtin (b := .append) (xs := #[.tmp 10, .tmp 14]) rfl ?_); at_builtin; refine Kd.R_append kPc (w0 := W) base rfl (.tmp 10) (.tmp 14) 27 35 (.agg #[.int .i64 0, .int .i64 0, .int .i64 0, .int .i64 0]) 32 rfl Tryd.underlying27 infoPc rfl (by decide) (by omega) v pre x [.int .i64 x.1.1, .int .i64 x.1.2.1, .int .i64 x.1.2.2, .int .i64 x.2] (fun _ => True) (fun _ => False) rfl rfl ?aP (fun _ hk => hk.elim) ?aF ?aO ?aB ?aS ?aL ?_; (case aP => exact kPc_mkM _ _ _ x); (case aB => exact HB2.out); (case aF => exact (fun _ _ => trivial)); (case aO => exact HO2.out); (case aS => exact Nat.le_trans hb HB2.out.size); (case aL => have := HL.out; omega); intro v1 w1 ho hbw hg hat; obtain ⟨A1, c1, rfl⟩ := Kd.R_slice ho; have bo2 := BO.out.kept hg (Kd.R_ne HO2.out BO.out (by decide)); have bs2 := BS.out.kept hg (Kd.R_ne HO2.out BS.out (by decide)); have bm2 := BM.out.kept hg (Kd.R_ne HO2.out BM.out (by decide)); have bw2 := BW.out.kept hg (Kd.R_ne HO2.out BW.out (by decide)); have co2 := bo2.cell; have fo2 := bo2.frozen; have cs2 := bs2.cell; have fs2 := bs2.frozen; have cm2 := bm2.cell; have HO3 := Aside0.mk ho; have HB3 := Aside0.mk hbw; have BO2 := Aside0.mk bo2; have BS2 := Aside0.mk bs2; have BM2 := Aside0.mk bm2; have BW2 := Aside0.mk bw2; clear ho hbw hg hat bo2 bs2 bm2 bw2))
  · rename_i hov
    have ho : overB pre.length most = true := over_true (by first | exact hov | omega)
    rw [ho]
    refine bodyPost_ret (results_tmp rfl _ _ _) rfl ⟨rfl, .slice A1 (pre.length + 1) c1, (BO2.out.other ne1 _).set _, (BW2.out.other ne5 _).other hne _, (BS2.out.set _).other ne3 _, (BM2.out.other ne2 _).other ne6 _, ?_, (HB3.out.setCell (p := ⟨Bs, 0, none⟩) hbs _).setCell (p := ⟨Bo, 0, none⟩) hbo _⟩
    have h4 := HO3.out
    rw [List.length_append] at h4
    exact Kd.R_set (Kd.R_set h4 BS2.out (fun q hq => (kPc_far q hq).1) 0 _) (BO2.out.other ne1 _) (fun q hq => (kPc_far q hq).2) 0 _
  · refine bodyPost_ret (results_tmp rfl _ _ _) rfl ⟨by unfold overB; simp, .slice A1 (pre.length + 1) c1, (BO2.out.other ne1 _).set _, (BW2.out.other ne5 _).other hne _, (BS2.out.set _).other ne3 _, (BM2.out.other ne2 _).other ne6 _, ?_, (HB3.out.setCell (p := ⟨Bs, 0, none⟩) hbs _).setCell (p := ⟨Bo, 0, none⟩) hbo _⟩
    have h4 := HO3.out
    rw [List.length_append] at h4
    exact Kd.R_set (Kd.R_set h4 BS2.out (fun q hq => (kPc_far q hq).1) 0 _) (BO2.out.other ne1 _) (fun q hq => (kPc_far q hq).2) 0 _

theorem eq_nil (f : FuncId) (lb : Array Value) (W : World) : (binOp .eql 25 (.func (.func f) #[] lb) .nilFunc).run Tryd.prog W = .ok (.bool false) W := by
  have hu := Tryd.underlying25
  obtain ⟨d, hd⟩ : ∃ d, Op.maxDepth = d + 1 := ⟨9999, rfl⟩
  unfold binOp
  simp only [Op.equal, hd]
  simp [Op.equalIn, go_sem, hu]

/-- What pieces comes to: the first so many of the months, all where most is below 1. -/
def takeS (xs : List Pc) (most : Int) : List Pc := if 1 ≤ most then xs.take most.toNat else xs

set_option maxRecDepth 100000 in
set_option maxHeartbeats 2000000 in
theorem pieces_calls (Ba Bb : Nat) (a b most : Int) (xs : List Pc) (hxs : MF (min b 109572) (max a 0) xs) (hlen : xs.length < 4000) (w : World) (hT : Tabs w) (hBa : Ba < w.heap.size) (hBb : Bb < w.heap.size)
    (ha : w.cell? ⟨Ba, 0, none⟩ = some (.int .i64 a)) (hb : w.cell? ⟨Bb, 0, none⟩ = some (.int .i64 b)) :
    Calls Tryd.prog 14 #[.func (.func 44) #[] #[.pointer (some ⟨Bb, 0, none⟩), .pointer (some ⟨Ba, 0, none⟩)], .int .i64 most] w fun e w' =>
      ∃ v, e = .returned (.tuple #[v, .bool true]) ∧ Kd.R kPc 35 w' w.heap.size (fun _ => True) v (takeS xs most) ∧ Below w.heap.size w w' := by
  go_enter Tryd.func14, Tryd.ntmps14
  have heq := eq_nil
  go_wp2_with fail
  have hm : Boxed ((((w.alloc (.cells #[.int .i64 most] 3)).alloc (.cells #[.slice none 0 0] 27)).alloc (.cells #[.bool false] 4)).alloc (.cells #[.bool true] 4)) w.heap.size 3 (.int .i64 most) := blk_alloc (blk_alloc (blk_alloc (World.alloc_heap_new w _) _) _) _
  have hs : Boxed ((((w.alloc (.cells #[.int .i64 most] 3)).alloc (.cells #[.slice none 0 0] 27)).alloc (.cells #[.bool false] 4)).alloc (.cells #[.bool true] 4)) (w.heap.size + 1) 27 (.slice none 0 0) := by
    have h := World.alloc_heap_new (w.alloc (.cells #[.int .i64 most] 3)) (.cells #[.slice none 0 0] 27)
    rw [World.size_alloc] at h
    exact blk_alloc (blk_alloc h _) _
  have ho : Boxed ((((w.alloc (.cells #[.int .i64 most] 3)).alloc (.cells #[.slice none 0 0] 27)).alloc (.cells #[.bool false] 4)).alloc (.cells #[.bool true] 4)) (w.heap.size + 1 + 1) 4 (.bool false) := by
    have h := World.alloc_heap_new ((w.alloc (.cells #[.int .i64 most] 3)).alloc (.cells #[.slice none 0 0] 27)) (.cells #[.bool false] 4)
    rw [World.size_alloc, World.size_alloc] at h
    exact blk_alloc h _
  have hw : Boxed ((((w.alloc (.cells #[.int .i64 most] 3)).alloc (.cells #[.slice none 0 0] 27)).alloc (.cells #[.bool false] 4)).alloc (.cells #[.bool true] 4)) (w.heap.size + 1 + 1 + 1) 4 (.bool true) := by
    have h := World.alloc_heap_new (((w.alloc (.cells #[.int .i64 most] 3)).alloc (.cells #[.slice none 0 0] 27)).alloc (.cells #[.bool false] 4)) (.cells #[.bool true] 4)
    rw [World.size_alloc, World.size_alloc, World.size_alloc] at h
    exact h
  have hB0 : Below w.heap.size w ((((w.alloc (.cells #[.int .i64 most] 3)).alloc (.cells #[.slice none 0 0] 27)).alloc (.cells #[.bool false] 4)).alloc (.cells #[.bool true] 4)) := by repeat (first | exact Below.refl _ _ | apply below_alloc)
  obtain ⟨W0, hW0⟩ : ∃ W0, ((((w.alloc (.cells #[.int .i64 most] 3)).alloc (.cells #[.slice none 0 0] 27)).alloc (.cells #[.bool false] 4)).alloc (.cells #[.bool true] 4)) = W0 := ⟨_, rfl⟩
  rw [hW0] at hm hs ho hw hB0 ⊢
  clear hW0
  have hcl := months_cl 1 (.pointer (some ⟨w.heap.size + 1 + 1, 0, none⟩)) (.pointer (some ⟨w.heap.size + 1 + 1 + 1, 0, none⟩)) (.pointer (some ⟨w.heap.size + 1, 0, none⟩)) (.pointer (some ⟨w.heap.size, 0, none⟩)) (Nat.le_refl _) Ba Bb a b xs hxs
    (fun pre W => ¬ (1 ≤ most ∧ most ≤ (pre.length : Int)) ∧ ∃ v, Boxed W (w.heap.size + 1 + 1) 4 (.bool false) ∧ Boxed W (w.heap.size + 1 + 1 + 1) 4 (.bool true) ∧ Boxed W (w.heap.size + 1) 27 v ∧ Boxed W w.heap.size 3 (.int .i64 most) ∧ Kd.R kPc 35 W w.heap.size (fun _ => True) v pre ∧ Below w.heap.size w W)
    (fun pre W => (1 ≤ most ∧ (pre.length : Int) = most) ∧ ∃ v, Boxed W (w.heap.size + 1 + 1 + 1) 4 (.bool true) ∧ Boxed W (w.heap.size + 1) 27 v ∧ Boxed W w.heap.size 3 (.int .i64 most) ∧ Kd.R kPc 35 W w.heap.size (fun _ => True) v pre ∧ Below w.heap.size w W)
    W0 (hT.below hB0) ((hB0.cell hBa).trans ha) ((hB0.cell hBb).trans hb)
    (fun pre X Y hj hbl => by
      obtain ⟨h1, v, b1, b2, b3, b4, b5, b6⟩ := hj
      exact ⟨h1, v, b1.kept (grown_of_below hbl none) (by simp), b2.kept (grown_of_below hbl none) (by simp), b3.kept (grown_of_below hbl none) (by simp), b4.kept (grown_of_below hbl none) (by simp), Kd.R_below b5 hbl, b6.trans (hbl.mono b6.size)⟩)
    (fun pre x W1 hj hlt => by
      obtain ⟨h1, v, b1, b2, b3, b4, b5, b6⟩ := hj
      refine (pieces1_calls (w.heap.size + 1 + 1) (w.heap.size + 1 + 1 + 1) (w.heap.size + 1) w.heap.size x pre most v w.heap.size W1 b6.size b1 b2 b3 b4 b5 (by omega) (by omega) (by omega) (by omega)).mono ?_
      rintro e W' ⟨rfl, v', c1, c2, c3, c4, c5, c6⟩
      refine ⟨!(overB pre.length most), rfl, fun hc => ?_, fun hc => ?_⟩
      · have ho : overB pre.length most = false := by simpa using hc
        rw [ho] at c1
        have hn : ¬ ((pre.length : Int) + 1 = most) := fun e => by rw [over_true e] at ho; cases ho
        exact ⟨⟨by rw [List.length_append]; simp only [List.length_cons, List.length_nil]; omega, v', c1, c2, c3, c4, c5, b6.trans c6⟩, c6.mono hT.size⟩
      · have ho : overB pre.length most = true := by simpa using hc
        have hn : (pre.length : Int) + 1 = most := by
          unfold overB at ho
          rw [decide_eq_false (by omega), Bool.or_false, beq_iff_eq] at ho
          exact ho
        exact ⟨⟨by omega, by rw [List.length_append]; simp only [List.length_cons, List.length_nil]; omega⟩, v', c2, c3, c4, c5, b6.trans c6⟩)
    ⟨by simp; omega, .slice none 0 0, ho, hw, hs, hm, Kd.R_nil _ _ _ _ _, hB0⟩
  refine (callsIn_wide.1 hcl).mono ?_
  rintro e W' ⟨⟨u, rfl⟩, h⟩
  have h2 : ∃ v pre, pre = takeS xs most ∧ Boxed W' (w.heap.size + 1 + 1 + 1) 4 (.bool true) ∧ Boxed W' (w.heap.size + 1) 27 v ∧ Kd.R kPc 35 W' w.heap.size (fun _ => True) v pre ∧ Below w.heap.size w W' := by
    rcases h with ⟨ys, rfl, h1, v, b1, b2, b3, b4, b5, b6⟩ | ⟨pre, hp, h1, v, b2, b3, b4, b5, b6⟩
    · refine ⟨v, ys, ?_, b2, b3, b5, b6⟩
      unfold takeS
      split
      · rw [List.take_of_length_le (by omega)]
      · rfl
    · refine ⟨v, pre, ?_, b2, b3, b5, b6⟩
      unfold takeS
      rw [if_pos h1.1]
      obtain ⟨post, rfl⟩ := hp
      rw [List.take_append_of_le_length (by omega), List.take_of_length_le (by omega)]
  obtain ⟨v, pre, hpre, b2, b3, b5, b6⟩ := h2
  obtain ⟨A1, c1, rfl⟩ := Kd.R_slice b5
  have cw := b2.cell
  have cs := b3.cell
  have B5 := Aside0.mk b5
  have B6 := Aside0.mk b6
  have HP := Aside0.mk hpre
  clear hpre b5 b6 h hcl
  go_wp2_with fail
  go_region
  go_wp2_with fail
  refine bodyPost_ret (results_tmp2 rfl _ _ _) rfl ⟨.slice A1 pre.length c1, rfl, ?_, B6.out.drew⟩
  rw [← HP.out]
  exact Kd.R_drew B5.out

end Go.Proofs.YtlipkhhpjelicaaDoor.PA
