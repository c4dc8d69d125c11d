/- Several texts of this claim in one, each in a section of its own; what nothing reaches is left out. Conditions: each law's own. -/
import Derived.Test.YtgcgpeeokdnplaaDoorBPAx0
section
/- The Go functions of this seat that the laws of part A come to, each as a plain Lean function ('f', its loops 'l0' ..) with a proof that the call comes to its answer. Conditions: where a function comes to a package-level table, the world holds that table ('Tabs'). Written by a program of this session (a changed copy of the print). -/
namespace Go.Proofs.YtgcgpeeokdnplaaDoor.PA
open Go.RowKit Go.Proofs.YtgcgpeeokdnplaaDoorW.PrintWords Go.Proofs.YtgcgpeeokdnplaaDoorW.PrintLast Go.Proofs.YtgcgpeeokdnplaaDoorW.PrintMore
attribute [local go_sem] max2_int min2_int max_two min_two max_three min_three max_four min_four   -- for this text's walks alone
set_option linter.unusedVariables false
set_option linter.unusedSimpArgs false

/-! ### words_of: function 36 -/
def words_of.f (a0 : Int) : Option (Int) := if (wrap64 (a0)) < 128 then (if 0 ≤ a0 then (if a0 < 128 then (some (rd tab0 a0)) else (none)) else (none)) else (some 0)
set_option maxHeartbeats 8000000 in
set_option maxRecDepth 100000 in
theorem words_of.calls (a0 : Int) (r : Int) (w : World) (hT : Tabs w) (h : words_of.f a0 = some r) :
    Calls Tryd.prog 36 #[.int .u8 a0] w fun e w' => e = .returned (.int .u8 r) ∧ Drawn0 w w' := by
  have HT := Aside0.mk hT
  clear hT
  have H : (if (wrap64 (a0)) < 128 then (if 0 ≤ a0 then (if a0 < 128 then (some (rd tab0 a0)) else (none)) else (none)) else (some 0)) = some r := h
  clear h
  by_cases c2 : (wrap64 (a0)) < 128
  · rw [if_pos c2] at H
    have c2b0 : decide ((wrap64 (a0)) < 128) = true := decide_eq_true c2
    clear c2
    by_cases c3 : 0 ≤ a0
    · rw [if_pos c3] at H
      have c3b0 : decide (0 ≤ a0) = true := decide_eq_true c3
      clear c3
      by_cases c4 : a0 < 128
      · rw [if_pos c4] at H
        have c4b0 : decide (a0 < 128) = true := decide_eq_true c4
        clear c4
        obtain rfl := Option.some.inj H
        have p5 : 0 ≤ (a0 : Int) := of_decide_eq_true (by first | (with_reducible assumption) | assumption)
        have q5 : a0 < 128 := of_decide_eq_true (by first | (with_reducible assumption) | assumption)
        have hx5_0 := (HT.out).c0 a0 p5 q5
        replace p5 := eq_true p5
        replace q5 := eq_true q5
        go_enter Tryd.func36, Tryd.ntmps36
        go_wp2
        go_ret
        exact ⟨by first | rfl | (simp; done) | (simp [*]; done), by repeat (first | exact Drawn0.refl _ | apply Drawn0.step)⟩
      · rw [if_neg c4] at H
        exact absurd H (by simp)
    · rw [if_neg c3] at H
      exact absurd H (by simp)
  · rw [if_neg c2] at H
    have c2b0 : decide ((wrap64 (a0)) < 128) = false := decide_eq_false c2
    clear c2
    obtain rfl := Option.some.inj H
    go_enter Tryd.func36, Tryd.ntmps36
    go_wp2
    go_ret
    exact ⟨by first | rfl | (simp; done) | (simp [*]; done), by repeat (first | exact Drawn0.refl _ | apply Drawn0.step)⟩

end Go.Proofs.YtgcgpeeokdnplaaDoor.PA
end
section
/- The Go functions of this seat that the laws of part A come to, each as a plain Lean function ('f', its loops 'l0' ..) with a proof that the call comes to its answer. Conditions: where a function comes to a package-level table, the world holds that table ('Tabs'). Written by a program of this session (a changed copy of the print). -/
namespace Go.Proofs.YtgcgpeeokdnplaaDoor.PA
open Go.RowKit Go.Proofs.YtgcgpeeokdnplaaDoorW.PrintWords Go.Proofs.YtgcgpeeokdnplaaDoorW.PrintLast Go.Proofs.YtgcgpeeokdnplaaDoorW.PrintMore
attribute [local go_sem] max2_int min2_int max_two min_two max_three min_three max_four min_four   -- for this text's walks alone
set_option linter.unusedVariables false
set_option linter.unusedSimpArgs false

/-- A state of type 42 at block g of W; what its slices lead to came in by w0. -/
def IsS42 (w0 W : World) (g : Nat) (f0 : ByteArray) (f1 : Int) (f2 : Bool) (f3 : Int) (f4 : Int) : Prop := W.heap[g]? = some (.cells #[.string f0, .int .i64 f1, .bool f2, .int .i64 f3, .int .i64 f4] 42 (0, 0)) ∧ w0.heap.size ≤ g
theorem IsS42.grown {w0 W : World} {g : Nat} {f0 : ByteArray} {f1 : Int} {f2 : Bool} {f3 : Int} {f4 : Int} {W1 : World} {row : Option Nat} (h : IsS42 w0 W g f0 f1 f2 f3 f4) (hw : W.grownBy W1 row) (hne : some g ≠ row) : IsS42 w0 W1 g f0 f1 f2 f3 f4 := by
  obtain ⟨hb, hg⟩ := h
  exact ⟨blk_grown hb hw hne, hg⟩
theorem IsS42.kept {w0 W : World} {g : Nat} {f0 : ByteArray} {f1 : Int} {f2 : Bool} {f3 : Int} {f4 : Int} {W1 : World} {S : Nat → Prop} (h : IsS42 w0 W g f0 f1 f2 f3 f4) (hk : Kept W W1 S) (hne : ¬ S g) : IsS42 w0 W1 g f0 f1 f2 f3 f4 := by
  obtain ⟨hb, hg⟩ := h
  exact ⟨blk_kept hb hk hne, hg⟩
theorem IsS42.below {w0 W : World} {g : Nat} {f0 : ByteArray} {f1 : Int} {f2 : Bool} {f3 : Int} {f4 : Int} {W1 : World} (h : IsS42 w0 W g f0 f1 f2 f3 f4) (hw : Below W.heap.size W W1) : IsS42 w0 W1 g f0 f1 f2 f3 f4 := h.grown (grown_of_below hw none) (by simp)
theorem IsS42.alloc {w0 W : World} {g : Nat} {f0 : ByteArray} {f1 : Int} {f2 : Bool} {f3 : Int} {f4 : Int} (h : IsS42 w0 W g f0 f1 f2 f3 f4) (o : Obj) : IsS42 w0 (W.alloc o) g f0 f1 f2 f3 f4 := h.below (below_alloc (Below.refl _ _) o)
theorem IsS42.drewN {w0 W : World} {g : Nat} {f0 : ByteArray} {f1 : Int} {f2 : Bool} {f3 : Int} {f4 : Int} (h : IsS42 w0 W g f0 f1 f2 f3 f4) (m : Nat) : IsS42 w0 (W.drewN m) g f0 f1 f2 f3 f4 := h
theorem IsS42.drew {w0 W : World} {g : Nat} {f0 : ByteArray} {f1 : Int} {f2 : Bool} {f3 : Int} {f4 : Int} (h : IsS42 w0 W g f0 f1 f2 f3 f4) : IsS42 w0 W.drew g f0 f1 f2 f3 f4 := h
theorem IsS42.at_ {w0 W : World} {g : Nat} {f0 : ByteArray} {f1 : Int} {f2 : Bool} {f3 : Int} {f4 : Int} {w' : World} {m : Nat} (hq : W.drewN m = w') (h : IsS42 w0 W g f0 f1 f2 f3 f4) : IsS42 w0 w' g f0 f1 f2 f3 f4 := by subst hq; exact IsS42.drewN h m
theorem IsS42.apart {w0 W : World} {g : Nat} {f0 : ByteArray} {f1 : Int} {f2 : Bool} {f3 : Int} {f4 : Int} {α : Type} {d : Kd α} {e : Nat} {base : Nat} {ok : Nat → Prop} {v : Value} {xs : List α} (h : IsS42 w0 W g f0 f1 f2 f3 f4) (ho : d.R e W base ok v xs) (ht : ∀ q, q ∈ e :: d.E → q ≠ 42) : d.R e W base (fun k => ok k ∧ k ≠ g) v xs := by
  obtain ⟨hb, hg⟩ := h
  exact Kd.R_types ho hb ht
theorem IsS42.own_ne {w0 W : World} {g : Nat} {f0 : ByteArray} {f1 : Int} {f2 : Bool} {f3 : Int} {f4 : Int} {α : Type} {d : Kd α} {e : Nat} {base : Nat} {ok : Nat → Prop} {v : Value} {xs : List α} (h : IsS42 w0 W g f0 f1 f2 f3 f4) (ho : d.R e W base ok v xs) (ht : e ≠ 42) : some g ≠ v.ownBlock := by
  obtain ⟨hb, hg⟩ := h
  exact Kd.R_ne ho hb ht
theorem IsS42.lt {w0 W : World} {g : Nat} {f0 : ByteArray} {f1 : Int} {f2 : Bool} {f3 : Int} {f4 : Int} (h : IsS42 w0 W g f0 f1 f2 f3 f4) : g < W.heap.size := by
  obtain ⟨hb, hg⟩ := h
  exact blk_lt hb
theorem IsS42.ge {w0 W : World} {g : Nat} {f0 : ByteArray} {f1 : Int} {f2 : Bool} {f3 : Int} {f4 : Int} (h : IsS42 w0 W g f0 f1 f2 f3 f4) : w0.heap.size ≤ g := by
  obtain ⟨hb, hg⟩ := h
  exact hg
theorem IsS42.far {w0 W : World} {g : Nat} {f0 : ByteArray} {f1 : Int} {f2 : Bool} {f3 : Int} {f4 : Int} {p : Addr} (h : IsS42 w0 W g f0 f1 f2 f3 f4) (hne : g ≠ p.block) (u : Value) : IsS42 w0 (W.setCell p u) g f0 f1 f2 f3 f4 := by
  obtain ⟨hb, hg⟩ := h
  exact ⟨blk_far hb hne u, hg⟩
theorem cellS42_0 {W : World} {g : Nat} {f0 : ByteArray} {f1 : Int} {f2 : Bool} {f3 : Int} {f4 : Int} (h : W.heap[g]? = some (.cells #[.string f0, .int .i64 f1, .bool f2, .int .i64 f3, .int .i64 f4] 42 (0, 0))) : W.cell? ⟨g, 0, none⟩ = some (.string f0) := (blk_cell h 0).trans rfl
theorem IsS42.set_0 {w0 W : World} {g : Nat} {f0 : ByteArray} {f1 : Int} {f2 : Bool} {f3 : Int} {f4 : Int} (h : IsS42 w0 W g f0 f1 f2 f3 f4) (x : ByteArray) : IsS42 w0 (W.setCell ⟨g, 0, none⟩ (.string x)) g x f1 f2 f3 f4 := by
  obtain ⟨hb, hg⟩ := h
  exact ⟨by simpa using blk_set hb 0 (.string x), hg⟩
theorem cellS42_1 {W : World} {g : Nat} {f0 : ByteArray} {f1 : Int} {f2 : Bool} {f3 : Int} {f4 : Int} (h : W.heap[g]? = some (.cells #[.string f0, .int .i64 f1, .bool f2, .int .i64 f3, .int .i64 f4] 42 (0, 0))) : W.cell? ⟨g, 1, none⟩ = some (.int .i64 f1) := (blk_cell h 1).trans rfl
theorem IsS42.set_1 {w0 W : World} {g : Nat} {f0 : ByteArray} {f1 : Int} {f2 : Bool} {f3 : Int} {f4 : Int} (h : IsS42 w0 W g f0 f1 f2 f3 f4) (x : Int) : IsS42 w0 (W.setCell ⟨g, 1, none⟩ (.int .i64 x)) g f0 x f2 f3 f4 := by
  obtain ⟨hb, hg⟩ := h
  exact ⟨by simpa using blk_set hb 1 (.int .i64 x), hg⟩
theorem cellS42_2 {W : World} {g : Nat} {f0 : ByteArray} {f1 : Int} {f2 : Bool} {f3 : Int} {f4 : Int} (h : W.heap[g]? = some (.cells #[.string f0, .int .i64 f1, .bool f2, .int .i64 f3, .int .i64 f4] 42 (0, 0))) : W.cell? ⟨g, 2, none⟩ = some (.bool f2) := (blk_cell h 2).trans rfl
theorem IsS42.set_2 {w0 W : World} {g : Nat} {f0 : ByteArray} {f1 : Int} {f2 : Bool} {f3 : Int} {f4 : Int} (h : IsS42 w0 W g f0 f1 f2 f3 f4) (x : Bool) : IsS42 w0 (W.setCell ⟨g, 2, none⟩ (.bool x)) g f0 f1 x f3 f4 := by
  obtain ⟨hb, hg⟩ := h
  exact ⟨by simpa using blk_set hb 2 (.bool x), hg⟩
theorem cellS42_3 {W : World} {g : Nat} {f0 : ByteArray} {f1 : Int} {f2 : Bool} {f3 : Int} {f4 : Int} (h : W.heap[g]? = some (.cells #[.string f0, .int .i64 f1, .bool f2, .int .i64 f3, .int .i64 f4] 42 (0, 0))) : W.cell? ⟨g, 3, none⟩ = some (.int .i64 f3) := (blk_cell h 3).trans rfl
theorem IsS42.set_3 {w0 W : World} {g : Nat} {f0 : ByteArray} {f1 : Int} {f2 : Bool} {f3 : Int} {f4 : Int} (h : IsS42 w0 W g f0 f1 f2 f3 f4) (x : Int) : IsS42 w0 (W.setCell ⟨g, 3, none⟩ (.int .i64 x)) g f0 f1 f2 x f4 := by
  obtain ⟨hb, hg⟩ := h
  exact ⟨by simpa using blk_set hb 3 (.int .i64 x), hg⟩
theorem cellS42_4 {W : World} {g : Nat} {f0 : ByteArray} {f1 : Int} {f2 : Bool} {f3 : Int} {f4 : Int} (h : W.heap[g]? = some (.cells #[.string f0, .int .i64 f1, .bool f2, .int .i64 f3, .int .i64 f4] 42 (0, 0))) : W.cell? ⟨g, 4, none⟩ = some (.int .i64 f4) := (blk_cell h 4).trans rfl
theorem IsS42.set_4 {w0 W : World} {g : Nat} {f0 : ByteArray} {f1 : Int} {f2 : Bool} {f3 : Int} {f4 : Int} (h : IsS42 w0 W g f0 f1 f2 f3 f4) (x : Int) : IsS42 w0 (W.setCell ⟨g, 4, none⟩ (.int .i64 x)) g f0 f1 f2 f3 x := by
  obtain ⟨hb, hg⟩ := h
  exact ⟨by simpa using blk_set hb 4 (.int .i64 x), hg⟩
/-! ### words_scanner_fail: function 41 -/
def words_scanner_fail.f (s0_0 : ByteArray) (s0_1 : Int) (s0_2 : Bool) (s0_3 : Int) (s0_4 : Int) (a1 : Int) (a2 : Int) : Option (Int × Int × ByteArray × Int × Int × Bool × ByteArray × Int × Bool × Int × Int) := some (0, 0, (⟨#[]⟩ : ByteArray), 0, 0, false, s0_0, s0_1, s0_2, a1, a2)
set_option maxHeartbeats 8000000 in
set_option maxRecDepth 100000 in
theorem words_scanner_fail.calls (g : Nat) (s0_0 : ByteArray) (s0_1 : Int) (s0_2 : Bool) (s0_3 : Int) (s0_4 : Int) (a1 : Int) (a2 : Int) (r1 : Int) (r2 : Int) (r3 : ByteArray) (r4 : Int) (r5 : Int) (r6 : Bool) (r7 : ByteArray) (r8 : Int) (r9 : Bool) (r10 : Int) (r11 : Int) (w0 w : World) (hI : IsS42 w0 w g s0_0 s0_1 s0_2 s0_3 s0_4) (hB : Below w0.heap.size w0 w) (h : words_scanner_fail.f s0_0 s0_1 s0_2 s0_3 s0_4 a1 a2 = some (r1, r2, r3, r4, r5, r6, r7, r8, r9, r10, r11)) :
    Calls Tryd.prog 41 #[.pointer (some ⟨g, 0, none⟩), .int .i64 a1, .int .i64 a2] w fun e w' => e = .returned (.tuple #[.agg #[.int .i64 r1, .int .i64 r2, .string r3, .int .i64 r4, .int .i64 r5], .bool r6]) ∧ IsS42 w0 w' g r7 r8 r9 r10 r11 ∧ Below w0.heap.size w0 w' ∧ KeepBut w w' g none := by
  have hu30 := Tryd.underlying30
  have HI0 := Aside0.mk hI
  have HK := Aside0.mk (KeepBut.refl w g none)
  have HL := Aside0.mk hB.size
  clear hI
  have HW0 := Aside0.mk hB.size
  have HB := Aside0.mk hB
  clear hB
  have H : (some (0, 0, (⟨#[]⟩ : ByteArray), 0, 0, false, s0_0, s0_1, s0_2, a1, a2)) = some (r1, r2, r3, r4, r5, r6, r7, r8, r9, r10, r11) := h
  clear h
  simp only [Option.some.injEq, Prod.mk.injEq] at H
  obtain ⟨rfl, rfl, rfl, rfl, rfl, rfl, rfl, rfl, rfl, rfl, rfl⟩ := H
  go_enter Tryd.func41, Tryd.ntmps41
  go_wp2_with (first | ((with_reducible refine gate_dst (N := 6) rfl ?_); refine box_event ?hg (N := 6) ?hd (cs := #[.int .i64 0, .int .i64 0, .string (⟨#[]⟩ : ByteArray), .int .i64 0, .int .i64 0]) (t := 30) ?hr ?_; (case hd => rfl); (case hg => rfl); (case hr => first | (go_simp; done) | (go_simp; rfl)); intro gb270 hg w4 hbox hb; have n0_ := Aside0.mk (IsS42.below (by repeat (first | (with_reducible first | exact HI0.out | apply IsS42.alloc | apply IsS42.drewN | apply IsS42.drew | apply IsS42.set_0 | apply IsS42.set_1 | apply IsS42.set_2 | apply IsS42.set_3 | apply IsS42.set_4) | exact HI0.out)) hb); have n1_ := Aside0.mk (KeepBut.trans (by repeat (first | (with_reducible first | exact HK.out | apply KeepBut.set_ | apply keep_drewN | apply keep_drew | apply keep_alloc) | exact HK.out)) (KeepBut.of_below hb g none) (.inl rfl)); have n2_ := Aside0.mk (below_step (by repeat (first | (with_reducible first | exact HB.out | apply below_alloc | apply pw_below_drewN | apply below_drew1 | refine below_set ?_ (IsS42.ge HI0.out)) | exact HB.out)) hb); have n3_ := Aside0.mk (hbox); have n4_ := Aside0.mk ((by rw [hg]; exact (keep_size (w := w) (g := g) (row := none) (by repeat (first | (with_reducible first | exact HK.out | apply KeepBut.set_ | apply keep_drewN | apply keep_drew | apply keep_alloc) | exact HK.out))) : w.heap.size ≤ gb270)); have n5_ := Aside0.mk ((Nat.le_trans HW0.out (by rw [hg]; exact (keep_size (w := w) (g := g) (row := none) (by repeat (first | (with_reducible first | exact HK.out | apply KeepBut.set_ | apply keep_drewN | apply keep_drew | apply keep_alloc) | exact HK.out))) : w.heap.size ≤ gb270) : w0.heap.size ≤ gb270)); have n6_ := Aside0.mk ((by rw [hg]; exact Nat.ne_of_lt (IsS42.lt (show IsS42 w0 _ g s0_0 s0_1 s0_2 s0_3 s0_4 from by repeat (first | (with_reducible first | exact HI0.out | apply IsS42.alloc | apply IsS42.drewN | apply IsS42.drew | apply IsS42.set_0 | apply IsS42.set_1 | apply IsS42.set_2 | apply IsS42.set_3 | apply IsS42.set_4) | exact HI0.out))) : g ≠ gb270)); have n7_ := Aside0.mk ((by rw [hg]; exact Nat.ne_of_gt (IsS42.lt (show IsS42 w0 _ g s0_0 s0_1 s0_2 s0_3 s0_4 from by repeat (first | (with_reducible first | exact HI0.out | apply IsS42.alloc | apply IsS42.drewN | apply IsS42.drew | apply IsS42.set_0 | apply IsS42.set_1 | apply IsS42.set_2 | apply IsS42.set_3 | apply IsS42.set_4) | exact HI0.out))) : gb270 ≠ g)); clear HI0; clear HK; clear HB; have HI0 := n0_; have HK := n1_; have HB := n2_; have BK270 := n3_; have GW270 := n4_; have GE270 := n5_; have NB0_270 := n6_; have NB270_0 := n7_; clear n0_ n1_ n2_ n3_ n4_ n5_ n6_ n7_; clear hb hbox hg; obtain ⟨HGz5, hgz5⟩ := HI0.out; have hcz5_0 := cellS42_0 HGz5; have hcz5_1 := cellS42_1 HGz5; have hcz5_2 := cellS42_2 HGz5; have hcz5_3 := cellS42_3 HGz5; have hcz5_4 := cellS42_4 HGz5; have hfz5_0 := blk_frozen HGz5 0; have hfz5_1 := blk_frozen HGz5 1; have hfz5_2 := blk_frozen HGz5 2; have hfz5_3 := blk_frozen HGz5 3; have hfz5_4 := blk_frozen HGz5 4; clear HGz5 hgz5; have hnb6 := NB270_0.out; have hnc6 := NB0_270.out; have hcz7_0 : w4.cell? ⟨gb270, 0, none⟩ = some (.int .i64 0) := (blk_cell BK270.out 0).trans rfl; have hcz7_1 : w4.cell? ⟨gb270, 1, none⟩ = some (.int .i64 0) := (blk_cell BK270.out 1).trans rfl; have hcz7_2 : w4.cell? ⟨gb270, 2, none⟩ = some (.string (⟨#[]⟩ : ByteArray)) := (blk_cell BK270.out 2).trans rfl; have hcz7_3 : w4.cell? ⟨gb270, 3, none⟩ = some (.int .i64 0) := (blk_cell BK270.out 3).trans rfl; have hcz7_4 : w4.cell? ⟨gb270, 4, none⟩ = some (.int .i64 0) := (blk_cell BK270.out 4).trans rfl; have hfz7_0 := blk_frozen BK270.out 0; have hfz7_1 := blk_frozen BK270.out 1; have hfz7_2 := blk_frozen BK270.out 2; have hfz7_3 := blk_frozen BK270.out 3; have hfz7_4 := blk_frozen BK270.out 4))
  refine bodyPost_ret (results_ct rfl _ _ gb270 30 #[.int .i64 0, .int .i64 0, .string (⟨#[]⟩ : ByteArray), .int .i64 0, .int .i64 0] (0, 0) _ rfl (by (with_reducible repeat (first | refine blk_drewN ?_ _ | refine blk_drew ?_ | refine blk_alloc ?_ _)); refine blk_put (cs := #[.int .i64 0, .int .i64 0, .string (⟨#[]⟩ : ByteArray), .int .i64 0, .int .i64 0]) ?_ 4 _ rfl; (with_reducible repeat (first | refine blk_drewN ?_ _ | refine blk_drew ?_ | refine blk_alloc ?_ _)); refine blk_put (cs := #[.int .i64 0, .int .i64 0, .string (⟨#[]⟩ : ByteArray), .int .i64 0, .int .i64 0]) ?_ 3 _ rfl; (with_reducible repeat (first | refine blk_drewN ?_ _ | refine blk_drew ?_ | refine blk_alloc ?_ _)); refine blk_put (cs := #[.int .i64 0, .int .i64 0, .string (⟨#[]⟩ : ByteArray), .int .i64 0, .int .i64 0]) ?_ 2 _ rfl; (with_reducible repeat (first | refine blk_drewN ?_ _ | refine blk_drew ?_ | refine blk_alloc ?_ _)); refine blk_put (cs := #[.int .i64 0, .int .i64 0, .string (⟨#[]⟩ : ByteArray), .int .i64 0, .int .i64 0]) ?_ 1 _ rfl; (with_reducible repeat (first | refine blk_drewN ?_ _ | refine blk_drew ?_ | refine blk_alloc ?_ _)); refine blk_put (cs := #[.int .i64 0, .int .i64 0, .string (⟨#[]⟩ : ByteArray), .int .i64 0, .int .i64 0]) ?_ 0 _ rfl; (with_reducible repeat (first | refine blk_drewN ?_ _ | refine blk_drew ?_ | refine blk_alloc ?_ _)); refine blk_far ?_ NB270_0.out _; (with_reducible repeat (first | refine blk_drewN ?_ _ | refine blk_drew ?_ | refine blk_alloc ?_ _)); refine blk_far ?_ NB270_0.out _; (with_reducible repeat (first | refine blk_drewN ?_ _ | refine blk_drew ?_ | refine blk_alloc ?_ _)); exact BK270.out) Tryd.underlying30 rfl (by kernel_rfl)) rfl ?_
  exact ⟨by first | rfl | (simp [errW_none, errW_some] <;> rfl) | (simp [*, errW_none, errW_some] <;> rfl), by repeat (first | (with_reducible first | exact HI0.out | apply IsS42.alloc | apply IsS42.drewN | apply IsS42.drew | apply IsS42.set_0 | apply IsS42.set_1 | apply IsS42.set_2 | apply IsS42.set_3 | apply IsS42.set_4 | refine IsS42.far ?_ NB0_270.out _) | exact HI0.out), by repeat (first | (with_reducible first | exact HB.out | apply below_alloc | apply pw_below_drewN | apply below_drew1 | refine below_set ?_ (IsS42.ge HI0.out) | refine below_set ?_ GE270.out) | exact HB.out), by repeat (first | (with_reducible first | exact HK.out | apply KeepBut.set_ | apply keep_drewN | apply keep_drew | apply keep_alloc | refine keep_far ?_ GW270.out _) | exact HK.out)⟩

end Go.Proofs.YtgcgpeeokdnplaaDoor.PA
end
section
/- The Go functions of this seat that the laws of part A come to, each as a plain Lean function ('f', its loops 'l0' ..) with a proof that the call comes to its answer. Conditions: where a function comes to a package-level table, the world holds that table ('Tabs'). Written by a program of this session (a changed copy of the print). -/
namespace Go.Proofs.YtgcgpeeokdnplaaDoor.PA
open Go.RowKit Go.Proofs.YtgcgpeeokdnplaaDoorW.PrintWords Go.Proofs.YtgcgpeeokdnplaaDoorW.PrintLast Go.Proofs.YtgcgpeeokdnplaaDoorW.PrintMore
attribute [local go_sem] max2_int min2_int max_two min_two max_three min_three max_four min_four   -- for this text's walks alone
set_option linter.unusedVariables false
set_option linter.unusedSimpArgs false

/-! ### words_scanner_is: function 53 -/
def words_scanner_is.f (s0_0 : ByteArray) (s0_1 : Int) (s0_2 : Bool) (s0_3 : Int) (s0_4 : Int) (a1 : Int) (a2 : Int) : Option (Bool × ByteArray × Int × Bool × Int × Int) := if a1 < (s0_0.size : Int) then (if 0 ≤ a1 then ((words_of.f (bt s0_0 a1)).bind fun t271 => (some (((Go.bits .and .u8 t271 a2) != 0), s0_0, s0_1, s0_2, s0_3, s0_4))) else (none)) else (some (false, s0_0, s0_1, s0_2, s0_3, s0_4))
set_option maxHeartbeats 8000000 in
set_option maxRecDepth 100000 in
theorem words_scanner_is.calls (g : Nat) (s0_0 : ByteArray) (s0_1 : Int) (s0_2 : Bool) (s0_3 : Int) (s0_4 : Int) (a1 : Int) (a2 : Int) (r1 : Bool) (r2 : ByteArray) (r3 : Int) (r4 : Bool) (r5 : Int) (r6 : Int) (w0 w : World) (hT : Tabs w0) (hI : IsS42 w0 w g s0_0 s0_1 s0_2 s0_3 s0_4) (hB : Below w0.heap.size w0 w) (h : words_scanner_is.f s0_0 s0_1 s0_2 s0_3 s0_4 a1 a2 = some (r1, r2, r3, r4, r5, r6)) :
    Calls Tryd.prog 53 #[.pointer (some ⟨g, 0, none⟩), .int .i64 a1, .int .u8 a2] w fun e w' => e = .returned (.bool r1) ∧ IsS42 w0 w' g r2 r3 r4 r5 r6 ∧ Below w0.heap.size w0 w' ∧ KeepBut w w' g none := by
  have HI0 := Aside0.mk hI
  have HK := Aside0.mk (KeepBut.refl w g none)
  have HL := Aside0.mk hB.size
  clear hI
  have HW0 := Aside0.mk hB.size
  have HB := Aside0.mk hB
  clear hB
  have HT := Aside0.mk hT
  clear hT
  have H : (if a1 < (s0_0.size : Int) then (if 0 ≤ a1 then ((words_of.f (bt s0_0 a1)).bind fun t271 => (some (((Go.bits .and .u8 t271 a2) != 0), s0_0, s0_1, s0_2, s0_3, s0_4))) else (none)) else (some (false, s0_0, s0_1, s0_2, s0_3, s0_4))) = some (r1, r2, r3, r4, r5, r6) := h
  clear h
  by_cases c4 : a1 < (s0_0.size : Int)
  · rw [if_pos c4] at H
    have c4b0 : decide (a1 < (s0_0.size : Int)) = true := decide_eq_true c4
    clear c4
    by_cases c5 : 0 ≤ a1
    · rw [if_pos c5] at H
      have c5b0 : decide (0 ≤ a1) = true := decide_eq_true c5
      clear c5
      replace H := Option.bind_eq_some_iff.mp H
      obtain ⟨t271, A70, H⟩ := H
      replace H : (some (((Go.bits .and .u8 t271 a2) != 0), s0_0, s0_1, s0_2, s0_3, s0_4)) = some (r1, r2, r3, r4, r5, r6) := H
      have A7 := Aside0.mk A70
      clear A70
      simp only [Option.some.injEq, Prod.mk.injEq] at H
      obtain ⟨rfl, rfl, rfl, rfl, rfl, rfl⟩ := H
      obtain ⟨HGz8, hgz8⟩ := HI0.out
      have hcz8_0 := cellS42_0 HGz8
      have hcz8_1 := cellS42_1 HGz8
      have hcz8_2 := cellS42_2 HGz8
      have hcz8_3 := cellS42_3 HGz8
      have hcz8_4 := cellS42_4 HGz8
      have hfz8_0 := blk_frozen HGz8 0
      have hfz8_1 := blk_frozen HGz8 1
      have hfz8_2 := blk_frozen HGz8 2
      have hfz8_3 := blk_frozen HGz8 3
      have hfz8_4 := blk_frozen HGz8 4
      clear HGz8 hgz8
      have p6 : 0 ≤ (a1 : Int) := of_decide_eq_true (by first | (with_reducible assumption) | assumption)
      have q6 : a1 < (s0_0.size : Int) := of_decide_eq_true (by first | (with_reducible assumption) | assumption)
      have hx6 := bt_at s0_0 a1
      replace p6 := eq_true p6
      replace q6 := eq_true q6
      go_enter Tryd.func53, Tryd.ntmps53
      go_wp2_with (first | (go_at_call 36; (with_reducible refine (words_of.calls (bt s0_0 a1) t271 _ ?side1 A7.out).mono ?_); (case side1 => first | (with_reducible exact HT.out) | (with_reducible exact HT.out.below HB.out) | (with_reducible refine Tabs.below HT.out ?_; repeat (first | (with_reducible first | exact HB.out | apply below_alloc | apply pw_below_drewN | apply below_drew1 | refine below_set ?_ (IsS42.ge HI0.out)) | exact HB.out))); rintro e w' ⟨rfl, ⟨nd, rfl⟩⟩))
      go_ret
      exact ⟨by first | rfl | (simp [errW_none, errW_some] <;> rfl) | (simp [*, errW_none, errW_some] <;> rfl), by repeat (first | (with_reducible first | exact HI0.out | apply IsS42.alloc | apply IsS42.drewN | apply IsS42.drew | apply IsS42.set_0 | apply IsS42.set_1 | apply IsS42.set_2 | apply IsS42.set_3 | apply IsS42.set_4) | exact HI0.out), by repeat (first | (with_reducible first | exact HB.out | apply below_alloc | apply pw_below_drewN | apply below_drew1 | refine below_set ?_ (IsS42.ge HI0.out)) | exact HB.out), by repeat (first | (with_reducible first | exact HK.out | apply KeepBut.set_ | apply keep_drewN | apply keep_drew | apply keep_alloc) | exact HK.out)⟩
    · rw [if_neg c5] at H
      exact absurd H (by simp)
  · rw [if_neg c4] at H
    have c4b0 : decide (a1 < (s0_0.size : Int)) = false := decide_eq_false c4
    clear c4
    simp only [Option.some.injEq, Prod.mk.injEq] at H
    obtain ⟨rfl, rfl, rfl, rfl, rfl, rfl⟩ := H
    obtain ⟨HGz9, hgz9⟩ := HI0.out
    have hcz9_0 := cellS42_0 HGz9
    have hcz9_1 := cellS42_1 HGz9
    have hcz9_2 := cellS42_2 HGz9
    have hcz9_3 := cellS42_3 HGz9
    have hcz9_4 := cellS42_4 HGz9
    have hfz9_0 := blk_frozen HGz9 0
    have hfz9_1 := blk_frozen HGz9 1
    have hfz9_2 := blk_frozen HGz9 2
    have hfz9_3 := blk_frozen HGz9 3
    have hfz9_4 := blk_frozen HGz9 4
    clear HGz9 hgz9
    go_enter Tryd.func53, Tryd.ntmps53
    go_wp2
    go_ret
    exact ⟨by first | rfl | (simp [errW_none, errW_some] <;> rfl) | (simp [*, errW_none, errW_some] <;> rfl), by repeat (first | (with_reducible first | exact HI0.out | apply IsS42.alloc | apply IsS42.drewN | apply IsS42.drew | apply IsS42.set_0 | apply IsS42.set_1 | apply IsS42.set_2 | apply IsS42.set_3 | apply IsS42.set_4) | exact HI0.out), by repeat (first | (with_reducible first | exact HB.out | apply below_alloc | apply pw_below_drewN | apply below_drew1 | refine below_set ?_ (IsS42.ge HI0.out)) | exact HB.out), by repeat (first | (with_reducible first | exact HK.out | apply KeepBut.set_ | apply keep_drewN | apply keep_drew | apply keep_alloc) | exact HK.out)⟩

end Go.Proofs.YtgcgpeeokdnplaaDoor.PA
end
section
/- The Go functions of this seat that the laws of part A come to, each as a plain Lean function ('f', its loops 'l0' ..) with a proof that the call comes to its answer. Conditions: where a function comes to a package-level table, the world holds that table ('Tabs'). Written by a program of this session (a changed copy of the print). -/
namespace Go.Proofs.YtgcgpeeokdnplaaDoor.PA
open Go.RowKit Go.Proofs.YtgcgpeeokdnplaaDoorW.PrintWords Go.Proofs.YtgcgpeeokdnplaaDoorW.PrintLast Go.Proofs.YtgcgpeeokdnplaaDoorW.PrintMore
attribute [local go_sem] max2_int min2_int max_two min_two max_three min_three max_four min_four   -- for this text's walks alone
set_option linter.unusedVariables false
set_option linter.unusedSimpArgs false

/-! ### words_common: function 31 -/
def words_common.l0 : Nat → Int → Int → Option (Int)
  | 0, _, _ => none
  | k + 1, x0, x1 => if x1 = 0 then (some (mx x0 1)) else (words_common.l0 k x1 (Int.tmod x0 x1))
def words_common.f (k : Nat) (a0 : Int) (a1 : Int) : Option (Int) := words_common.l0 k a0 a1
theorem words_common.mono_l : ∀ k, (∀ y0 y1, LeO (words_common.l0 k y0 y1) (words_common.l0 (k + 1) y0 y1))
  | 0 => fun _ _ r h => by simp [words_common.l0] at h
  | k + 1 => by
    have ih0 := words_common.mono_l k
    · intro y0 y1
      unfold words_common.l0
      repeat' first
      | (with_reducible exact ih0 _ _)
      | (with_reducible exact LeO.refl _)
      | (with_reducible exact LeO.none _)
      | (with_reducible refine LeO.ite ?_ ?_)
      | (with_reducible refine LeO.bind ?_ (fun _ => ?_))
      | exact ih0 _ _
      | exact LeO.none _
      | refine LeO.ite ?_ ?_
      | refine LeO.bind ?_ (fun _ => ?_)
theorem words_common.mono : ∀ a0 a1 k, LeO (words_common.f k a0 a1) (words_common.f (k + 1) a0 a1) := by
  intro a0 a1 k
  have ih0 := words_common.mono_l k
  unfold words_common.f
  repeat' first
      | (with_reducible exact ih0 _ _)
      | (with_reducible exact LeO.refl _)
      | (with_reducible exact LeO.none _)
      | (with_reducible refine LeO.ite ?_ ?_)
      | (with_reducible refine LeO.bind ?_ (fun _ => ?_))
      | exact ih0 _ _
      | exact LeO.none _
      | refine LeO.ite ?_ ?_
      | refine LeO.bind ?_ (fun _ => ?_)
set_option maxHeartbeats 8000000 in
set_option maxRecDepth 100000 in
theorem words_common.calls (k : Nat) (a0 : Int) (a1 : Int) (r : Int) (w : World) (h : words_common.f k a0 a1 = some r) :
    Calls Tryd.prog 31 #[.int .i64 a0, .int .i64 a1] w fun e w' => e = .returned (.int .i64 r) ∧ Below w.heap.size w w' := by
  have HB := Aside0.mk (Below.refl w.heap.size w)
  have H : (words_common.l0 k a0 a1) = some r := h
  clear h
  have H' := Aside0.mk H
  clear H
  go_enter Tryd.func31, Tryd.ntmps31
  go_wp2
  repeat (go_quiet (fail); try go_wp2)
  go_loopg [0, 1] k (fun kq v0 v1 w' => ∃ (x0_1 : Int) (x1_1 : Int), v0 = .int .i64 x0_1 ∧ v1 = .int .i64 x1_1 ∧ Aside0 (words_common.l0 kq x0_1 x1_1 = some r) ∧ Aside0 (kq ≤ k) ∧ Aside0 (Below w.heap.size w w'))
  case atStart => exact ⟨(a0), (a1), (by first | rfl | (simp; done) | (simp [*]; done)), (by first | rfl | (simp; done) | (simp [*]; done)), H', ⟨Nat.le_refl _⟩, ⟨by repeat (first | (with_reducible first | exact HB.out | apply below_alloc | apply pw_below_drewN | apply below_drew1) | exact HB.out)⟩⟩
  case round =>
    clear H'
    try clear p2
    obtain ⟨x0_1, x1_1, rfl, rfl, HA, HK1, HB⟩ := hrel
    cases gk with
    | zero => exact absurd HA.out (by simp [words_common.l0])
    | succ k1 =>
      have H := HA.out
      clear HA
      simp only [words_common.l0] at H
      by_cases c3 : x1_1 = 0
      · rw [if_pos c3] at H
        have c3b0 : (x1_1 == 0) = true := beq_iff_eq.mpr c3
        have c3b1 : (x1_1 != 0) = false := bne_eq_false_iff_eq.mpr c3
        clear c3
        obtain ⟨ji4, hji4⟩ : ∃ j_ : Int, (mx x0_1 1) = j_ := ⟨_, rfl⟩
        replace H : (some ji4) = some r := by first | (rw [hji4] at H; exact H) | (simp only [hji4] at H ⊢; exact H)
        have hji4_ : (if x0_1 < 1 then 1 else x0_1) = ji4 := hji4
        obtain rfl := Option.some.inj H
        go_wp2
        repeat (go_quiet (fail); try go_wp2)
        go_ret
        exact ⟨by first | rfl | (simp [errW_none, errW_some] <;> rfl) | (simp only [← hji4]; first | rfl | (simp [errW_none, errW_some] <;> rfl)) | (simp [*, errW_none, errW_some] <;> rfl), by repeat (first | (with_reducible first | exact HB.out | apply below_alloc | apply pw_below_drewN | apply below_drew1) | exact HB.out)⟩
      · rw [if_neg c3] at H
        have c3b0 : (x1_1 == 0) = false := beq_eq_false_iff_ne.mpr c3
        have c3b1 : (x1_1 != 0) = true := bne_iff_ne.mpr c3
        have H' := Aside0.mk H
        clear H
        go_wp2
        repeat (go_quiet (fail); try go_wp2)
        go_roundg k1
        case measure => have := HK1.out; omega
        case rel => exact ⟨(x1_1), (Int.tmod x0_1 x1_1), (by first | rfl | (simp; done) | (simp [*]; done)), (by first | rfl | (simp; done) | (simp [*]; done)), H', ⟨by have := HK1.out; omega⟩, ⟨by repeat (first | (with_reducible first | exact HB.out | apply below_alloc | apply pw_below_drewN | apply below_drew1) | exact HB.out)⟩⟩

end Go.Proofs.YtgcgpeeokdnplaaDoor.PA
end
section
/- The Go functions of this seat that the laws of part A come to, each as a plain Lean function ('f', its loops 'l0' ..) with a proof that the call comes to its answer. Conditions: where a function comes to a package-level table, the world holds that table ('Tabs'). Written by a program of this session (a changed copy of the print). -/
namespace Go.Proofs.YtgcgpeeokdnplaaDoor.PA
open Go.RowKit Go.Proofs.YtgcgpeeokdnplaaDoorW.PrintWords Go.Proofs.YtgcgpeeokdnplaaDoorW.PrintLast Go.Proofs.YtgcgpeeokdnplaaDoorW.PrintMore
attribute [local go_sem] max2_int min2_int max_two min_two max_three min_three max_four min_four   -- for this text's walks alone
set_option linter.unusedVariables false
set_option linter.unusedSimpArgs false

/-! ### days_isDay: function 49 -/
def days_isDay.f (a0 : Int) : Option (Bool) := if a0 ≥ 0 then (some (decide (a0 ≤ 109572))) else (some false)
set_option maxHeartbeats 8000000 in
set_option maxRecDepth 100000 in
theorem days_isDay.calls (a0 : Int) (r : Bool) (w : World) (h : days_isDay.f a0 = some r) :
    Calls Tryd.prog 49 #[.int .i64 a0] w fun e w' => e = .returned (.bool r) ∧ Drawn0 w w' := by
  have H : (if a0 ≥ 0 then (some (decide (a0 ≤ 109572))) else (some false)) = some r := h
  clear h
  by_cases c2 : a0 ≥ 0
  · rw [if_pos c2] at H
    have c2b0 : decide (0 ≤ a0) = true := decide_eq_true c2
    clear c2
    obtain rfl := Option.some.inj H
    go_enter Tryd.func49, Tryd.ntmps49
    go_wp2
    go_ret
    exact ⟨by first | rfl | (simp; done) | (simp [*]; done), by repeat (first | exact Drawn0.refl _ | apply Drawn0.step)⟩
  · rw [if_neg c2] at H
    have c2b0 : decide (0 ≤ a0) = false := decide_eq_false c2
    clear c2
    obtain rfl := Option.some.inj H
    go_enter Tryd.func49, Tryd.ntmps49
    go_wp2
    go_ret
    exact ⟨by first | rfl | (simp; done) | (simp [*]; done), by repeat (first | exact Drawn0.refl _ | apply Drawn0.step)⟩

/-! ### days_daysAhead: function 67 -/
def days_daysAhead.f (a0 : Int) : Option (Int) := some (wrap64 ((wrap64 (365 * (wrap64 (a0 - 1900)))) + (wrap64 ((wrap64 ((wrap64 ((wrap64 (Int.tdiv (wrap64 (a0 - 1)) 4)) - (wrap64 (Int.tdiv (wrap64 (a0 - 1)) 100)))) + (wrap64 (Int.tdiv (wrap64 (a0 - 1)) 400)))) - 460))))
set_option maxHeartbeats 8000000 in
set_option maxRecDepth 100000 in
theorem days_daysAhead.calls (a0 : Int) (r : Int) (w : World) (h : days_daysAhead.f a0 = some r) :
    Calls Tryd.prog 67 #[.int .i64 a0] w fun e w' => e = .returned (.int .i64 r) ∧ Drawn0 w w' := by
  have H : (some (wrap64 ((wrap64 (365 * (wrap64 (a0 - 1900)))) + (wrap64 ((wrap64 ((wrap64 ((wrap64 (Int.tdiv (wrap64 (a0 - 1)) 4)) - (wrap64 (Int.tdiv (wrap64 (a0 - 1)) 100)))) + (wrap64 (Int.tdiv (wrap64 (a0 - 1)) 400)))) - 460))))) = some r := h
  clear h
  obtain rfl := Option.some.inj H
  go_enter Tryd.func67, Tryd.ntmps67
  go_wp2
  go_ret
  exact ⟨by first | rfl | (simp; done) | (simp [*]; done), by repeat (first | exact Drawn0.refl _ | apply Drawn0.step)⟩

/-! ### days_Leap: function 78 -/
def days_Leap.f (a0 : Int) : Option (Bool) := if (Int.tmod a0 4) = 0 then (if (Int.tmod a0 100) = 0 then (some ((Int.tmod a0 400) == 0)) else (some true)) else (some false)
set_option maxHeartbeats 8000000 in
set_option maxRecDepth 100000 in
theorem days_Leap.calls (a0 : Int) (r : Bool) (w : World) (h : days_Leap.f a0 = some r) :
    Calls Tryd.prog 78 #[.int .i64 a0] w fun e w' => e = .returned (.bool r) ∧ Drawn0 w w' := by
  have H : (if (Int.tmod a0 4) = 0 then (if (Int.tmod a0 100) = 0 then (some ((Int.tmod a0 400) == 0)) else (some true)) else (some false)) = some r := h
  clear h
  by_cases c2 : (Int.tmod a0 4) = 0
  · rw [if_pos c2] at H
    have c2b0 : ((Int.tmod a0 4) == 0) = true := beq_iff_eq.mpr c2
    have c2b1 : ((Int.tmod a0 4) != 0) = false := bne_eq_false_iff_eq.mpr c2
    clear c2
    by_cases c3 : (Int.tmod a0 100) = 0
    · rw [if_pos c3] at H
      have c3b0 : ((Int.tmod a0 100) == 0) = true := beq_iff_eq.mpr c3
      have c3b1 : ((Int.tmod a0 100) != 0) = false := bne_eq_false_iff_eq.mpr c3
      clear c3
      obtain rfl := Option.some.inj H
      go_enter Tryd.func78, Tryd.ntmps78
      go_wp2
      go_ret
      exact ⟨by first | rfl | (simp; done) | (simp [*]; done), by repeat (first | exact Drawn0.refl _ | apply Drawn0.step)⟩
    · rw [if_neg c3] at H
      have c3b0 : ((Int.tmod a0 100) == 0) = false := beq_eq_false_iff_ne.mpr c3
      have c3b1 : ((Int.tmod a0 100) != 0) = true := bne_iff_ne.mpr c3
      obtain rfl := Option.some.inj H
      go_enter Tryd.func78, Tryd.ntmps78
      go_wp2
      go_ret
      exact ⟨by first | rfl | (simp; done) | (simp [*]; done), by repeat (first | exact Drawn0.refl _ | apply Drawn0.step)⟩
  · rw [if_neg c2] at H
    have c2b0 : ((Int.tmod a0 4) == 0) = false := beq_eq_false_iff_ne.mpr c2
    have c2b1 : ((Int.tmod a0 4) != 0) = true := bne_iff_ne.mpr c2
    obtain rfl := Option.some.inj H
    go_enter Tryd.func78, Tryd.ntmps78
    go_wp2
    go_ret
    exact ⟨by first | rfl | (simp; done) | (simp [*]; done), by repeat (first | exact Drawn0.refl _ | apply Drawn0.step)⟩

end Go.Proofs.YtgcgpeeokdnplaaDoor.PA
end
section
/- The Go functions of this seat that the laws of part A come to, each as a plain Lean function ('f', its loops 'l0' ..) with a proof that the call comes to its answer. Conditions: where a function comes to a package-level table, the world holds that table ('Tabs'). Written by a program of this session (a changed copy of the print). -/
namespace Go.Proofs.YtgcgpeeokdnplaaDoor.PA
open Go.RowKit Go.Proofs.YtgcgpeeokdnplaaDoorW.PrintWords Go.Proofs.YtgcgpeeokdnplaaDoorW.PrintLast Go.Proofs.YtgcgpeeokdnplaaDoorW.PrintMore
attribute [local go_sem] max2_int min2_int max_two min_two max_three min_three max_four min_four   -- for this text's walks alone
set_option linter.unusedVariables false
set_option linter.unusedSimpArgs false

/-! ### days_Last: function 68 -/
def days_Last.j0 : Nat → Int → Int → Bool → Option (Int)
  | 0, _, _, _ => none
  | k + 1, x0, x1, x10 => if x10 = true then (some 0) else (if x1 = 2 then ((days_Leap.f x0).bind fun t169 => (if t169 = true then (some 29) else (if 0 ≤ (wrap64 (x1 - 1)) then (if (wrap64 (x1 - 1)) < 12 then (some (rd tab2 (wrap64 (x1 - 1)))) else (none)) else (none)))) else (if 0 ≤ (wrap64 (x1 - 1)) then (if (wrap64 (x1 - 1)) < 12 then (some (rd tab2 (wrap64 (x1 - 1)))) else (none)) else (none)))
def days_Last.f (k : Nat) (a0 : Int) (a1 : Int) : Option (Int) := if a1 < 1 then (days_Last.j0 k a0 a1 true) else (days_Last.j0 k a0 a1 (decide (a1 > 12)))
theorem days_Last.mono_l : ∀ k, (∀ y0 y1 y2, LeO (days_Last.j0 k y0 y1 y2) (days_Last.j0 (k + 1) y0 y1 y2))
  | 0 => fun _ _ _ r h => by simp [days_Last.j0] at h
  | k + 1 => by
    have ih0 := days_Last.mono_l k
    · intro y0 y1 y2
      unfold days_Last.j0
      repeat' first
      | (with_reducible exact ih0 _ _ _)
      | (with_reducible exact LeO.refl _)
      | (with_reducible exact LeO.none _)
      | (with_reducible refine LeO.ite ?_ ?_)
      | (with_reducible refine LeO.bind ?_ (fun _ => ?_))
      | exact ih0 _ _ _
      | exact LeO.none _
      | refine LeO.ite ?_ ?_
      | refine LeO.bind ?_ (fun _ => ?_)
theorem days_Last.mono : ∀ a0 a1 k, LeO (days_Last.f k a0 a1) (days_Last.f (k + 1) a0 a1) := by
  intro a0 a1 k
  have ih0 := days_Last.mono_l k
  unfold days_Last.f
  repeat' first
      | (with_reducible exact ih0 _ _ _)
      | (with_reducible exact LeO.refl _)
      | (with_reducible exact LeO.none _)
      | (with_reducible refine LeO.ite ?_ ?_)
      | (with_reducible refine LeO.bind ?_ (fun _ => ?_))
      | exact ih0 _ _ _
      | exact LeO.none _
      | refine LeO.ite ?_ ?_
      | refine LeO.bind ?_ (fun _ => ?_)
set_option maxHeartbeats 8000000 in
set_option maxRecDepth 100000 in
theorem days_Last.calls (k : Nat) (a0 : Int) (a1 : Int) (r : Int) (w : World) (hT : Tabs w) (h : days_Last.f k a0 a1 = some r) :
    Calls Tryd.prog 68 #[.int .i64 a0, .int .i64 a1] w fun e w' => e = .returned (.int .i64 r) ∧ Drawn0 w w' := by
  have HT := Aside0.mk hT
  clear hT
  have H : (if a1 < 1 then (days_Last.j0 k a0 a1 true) else (days_Last.j0 k a0 a1 (decide (a1 > 12)))) = some r := h
  clear h
  have HC3 := Aside0.mk H
  clear H
  go_enter Tryd.func68, Tryd.ntmps68
  go_upto_region 1 with (fail)
  go_cut [10] (fun v10 wc => ∃ (kq : Nat) (x10_2 : Bool), v10 = .bool x10_2 ∧ Aside0 (days_Last.j0 kq a0 a1 x10_2 = some r) ∧ Aside0 (kq ≤ k) ∧ Drawn0 w wc)
  case first =>
    have H := HC3.out
    clear HC3
    by_cases c4 : a1 < 1
    · rw [if_pos c4] at H
      have c4b0 : decide (a1 < 1) = true := decide_eq_true c4
      clear c4
      (first | rw [c4b0] | (simp only [i64_w, i32_w]; rw [c4b0]) | skip)
      have H' := Aside0.mk H
      clear H
      go_wp2
      go_meet
      case rel => exact ⟨_, (true), (by first | rfl | (simp; done) | (simp [*]; done)), H', ⟨by first | omega | exact Nat.le_refl _⟩, by repeat (first | exact Drawn0.refl _ | apply Drawn0.step)⟩
    · rw [if_neg c4] at H
      have c4b0 : decide (a1 < 1) = false := decide_eq_false c4
      clear c4
      (first | rw [c4b0] | (simp only [i64_w, i32_w]; rw [c4b0]) | skip)
      have H' := Aside0.mk H
      clear H
      go_wp2
      go_meet
      case rel => exact ⟨_, (decide (a1 > 12)), (by first | rfl | (simp; done) | (simp [*]; done)), H', ⟨by first | omega | exact Nat.le_refl _⟩, by repeat (first | exact Drawn0.refl _ | apply Drawn0.step)⟩
  case rest =>
    clear HC3
    try clear p2
    try clear c4
    try clear c4b0
    obtain ⟨kq, x10_2, rfl, HA, HJ2, ⟨mc2, rfl⟩⟩ := hcut
    cases kq with
    | zero => exact absurd HA.out (by simp [days_Last.j0])
    | succ kj2 =>
      have H := HA.out
      clear HA
      simp only [days_Last.j0] at H
      by_cases c5 : x10_2 = true
      · subst c5
        have H1 : (some 0) = some r := by rw [if_pos rfl] at H; exact H
        clear H
        have H := H1
        clear H1
        obtain rfl := Option.some.inj H
        go_wp2
        go_ret
        exact ⟨by first | rfl | (simp; done) | (simp [*]; done), by repeat (first | exact Drawn0.refl _ | apply Drawn0.step)⟩
      · replace c5 := Bool.eq_false_iff.mpr c5
        subst c5
        have H1 : (if a1 = 2 then ((days_Leap.f a0).bind fun t169 => (if t169 = true then (some 29) else (if 0 ≤ (wrap64 (a1 - 1)) then (if (wrap64 (a1 - 1)) < 12 then (some (rd tab2 (wrap64 (a1 - 1)))) else (none)) else (none)))) else (if 0 ≤ (wrap64 (a1 - 1)) then (if (wrap64 (a1 - 1)) < 12 then (some (rd tab2 (wrap64 (a1 - 1)))) else (none)) else (none))) = some r := by rw [if_neg (show ¬ (false = true) by decide)] at H; exact H
        clear H
        have H := H1
        clear H1
        by_cases c6 : a1 = 2
        · rw [if_pos c6] at H
          have c6b0 : (a1 == 2) = true := beq_iff_eq.mpr c6
          have c6b1 : (a1 != 2) = false := bne_eq_false_iff_eq.mpr c6
          clear c6
          replace H := Option.bind_eq_some_iff.mp H
          obtain ⟨t169, A70, H⟩ := H
          replace H : (if t169 = true then (some 29) else (if 0 ≤ (wrap64 (a1 - 1)) then (if (wrap64 (a1 - 1)) < 12 then (some (rd tab2 (wrap64 (a1 - 1)))) else (none)) else (none))) = some r := H
          have A7 := Aside0.mk A70
          clear A70
          by_cases c8 : t169 = true
          · subst c8
            have H1 : (some 29) = some r := by rw [if_pos rfl] at H; exact H
            clear H
            have H := H1
            clear H1
            obtain rfl := Option.some.inj H
            go_wp2_with (first | (go_at_call 78; (with_reducible refine (days_Leap.calls a0 true _ A7.out).mono ?_); rintro e w' ⟨rfl, ⟨nd, rfl⟩⟩))
            go_ret
            exact ⟨by first | rfl | (simp; done) | (simp [*]; done), by repeat (first | exact Drawn0.refl _ | apply Drawn0.step)⟩
          · replace c8 := Bool.eq_false_iff.mpr c8
            subst c8
            have H1 : (if 0 ≤ (wrap64 (a1 - 1)) then (if (wrap64 (a1 - 1)) < 12 then (some (rd tab2 (wrap64 (a1 - 1)))) else (none)) else (none)) = some r := by rw [if_neg (show ¬ (false = true) by decide)] at H; exact H
            clear H
            have H := H1
            clear H1
            obtain ⟨ji9, hji9⟩ : ∃ j_ : Int, (wrap64 (a1 - 1)) = j_ := ⟨_, rfl⟩
            replace H : (if 0 ≤ (ji9) then (if (ji9) < 12 then (some (rd tab2 (ji9))) else (none)) else (none)) = some r := by first | (rw [hji9] at H; exact H) | (simp only [hji9] at H ⊢; exact H)
            (try rw [hji9] at A7)
            have hji9w : (IntKind.i64.wrap (a1 - 1)) = ji9 := (i64_w _).trans hji9
            by_cases c10 : 0 ≤ (ji9)
            · rw [if_pos c10] at H
              have c10b0 : decide (0 ≤ (ji9)) = true := decide_eq_true c10
              clear c10
              by_cases c11 : (ji9) < 12
              · rw [if_pos c11] at H
                have c11b0 : decide ((ji9) < 12) = true := decide_eq_true c11
                clear c11
                obtain rfl := Option.some.inj H
                go_wp2_with (first | (go_at_call 78; (with_reducible refine (days_Leap.calls a0 false _ A7.out).mono ?_); rintro e w' ⟨rfl, ⟨nd, rfl⟩⟩; have p12 : 0 ≤ ((ji9) : Int) := of_decide_eq_true (by first | (with_reducible assumption) | assumption); have q12 : (ji9) < 12 := of_decide_eq_true (by first | (with_reducible assumption) | assumption); have hx12_0 := (HT.out).c2 (ji9) p12 q12; replace p12 := eq_true p12; replace q12 := eq_true q12))
                go_ret
                exact ⟨by first | rfl | (simp; done) | (simp only [← hji9] <;> (first | rfl | simp)) | (simp [*]; done), by repeat (first | exact Drawn0.refl _ | apply Drawn0.step)⟩
              · rw [if_neg c11] at H
                exact absurd H (by simp)
            · rw [if_neg c10] at H
              exact absurd H (by simp)
        · rw [if_neg c6] at H
          have c6b0 : (a1 == 2) = false := beq_eq_false_iff_ne.mpr c6
          have c6b1 : (a1 != 2) = true := bne_iff_ne.mpr c6
          obtain ⟨ji13, hji13⟩ : ∃ j_ : Int, (wrap64 (a1 - 1)) = j_ := ⟨_, rfl⟩
          replace H : (if 0 ≤ (ji13) then (if (ji13) < 12 then (some (rd tab2 (ji13))) else (none)) else (none)) = some r := by first | (rw [hji13] at H; exact H) | (simp only [hji13] at H ⊢; exact H)
          have hji13w : (IntKind.i64.wrap (a1 - 1)) = ji13 := (i64_w _).trans hji13
          by_cases c14 : 0 ≤ (ji13)
          · rw [if_pos c14] at H
            have c14b0 : decide (0 ≤ (ji13)) = true := decide_eq_true c14
            clear c14
            by_cases c15 : (ji13) < 12
            · rw [if_pos c15] at H
              have c15b0 : decide ((ji13) < 12) = true := decide_eq_true c15
              clear c15
              obtain rfl := Option.some.inj H
              have p16 : 0 ≤ ((ji13) : Int) := of_decide_eq_true (by first | (with_reducible assumption) | assumption)
              have q16 : (ji13) < 12 := of_decide_eq_true (by first | (with_reducible assumption) | assumption)
              have hx16_0 := (HT.out).c2 (ji13) p16 q16
              replace p16 := eq_true p16
              replace q16 := eq_true q16
              go_wp2
              go_ret
              exact ⟨by first | rfl | (simp; done) | (simp only [← hji13] <;> (first | rfl | simp)) | (simp [*]; done), by repeat (first | exact Drawn0.refl _ | apply Drawn0.step)⟩
            · rw [if_neg c15] at H
              exact absurd H (by simp)
          · rw [if_neg c14] at H
            exact absurd H (by simp)

end Go.Proofs.YtgcgpeeokdnplaaDoor.PA
end
section
/- The Go functions of this seat that the laws of part A come to, each as a plain Lean function ('f', its loops 'l0' ..) with a proof that the call comes to its answer. Conditions: where a function comes to a package-level table, the world holds that table ('Tabs'). Written by a program of this session (a changed copy of the print). -/
namespace Go.Proofs.YtgcgpeeokdnplaaDoor.PA
open Go.RowKit Go.Proofs.YtgcgpeeokdnplaaDoorW.PrintWords Go.Proofs.YtgcgpeeokdnplaaDoorW.PrintLast Go.Proofs.YtgcgpeeokdnplaaDoorW.PrintMore
attribute [local go_sem] max2_int min2_int max_two min_two max_three min_three max_four min_four   -- for this text's walks alone
set_option linter.unusedVariables false
set_option linter.unusedSimpArgs false

/-! ### days_Number: function 69 -/
mutual
def days_Number.j0 : Nat → Int → Int → Int → Bool → Option (Int × Int)
  | 0, _, _, _, _ => none
  | k + 1, x0, x1, x2, x18 => if x18 = true then (some (0, 20)) else (if x0 < 1900 then (days_Number.j1 k x0 x1 x2 true) else (days_Number.j1 k x0 x1 x2 (decide (x0 > 2199))))
def days_Number.j1 : Nat → Int → Int → Int → Bool → Option (Int × Int)
  | 0, _, _, _, _ => none
  | k + 1, x0, x1, x2, x24 => if x24 = true then (some (0, 21)) else ((days_daysAhead.f x0).bind fun t297 => (days_Number.l0 k x0 x1 (wrap64 ((wrap64 (t297 + x2)) - 1)) 1))
def days_Number.l0 : Nat → Int → Int → Int → Int → Option (Int × Int)
  | 0, _, _, _, _ => none
  | k + 1, x0, x1, x8, x9 => if x9 < x1 then ((days_Last.f k x0 x9).bind fun t298 => (days_Number.l0 k x0 x1 (wrap64 (x8 + t298)) (wrap64 (x9 + 1)))) else (some (x8, 0))
end
def days_Number.f (k : Nat) (a0 : Int) (a1 : Int) (a2 : Int) : Option (Int × Int) := if a2 < 1 then (days_Number.j0 k a0 a1 a2 true) else ((days_Last.f k a0 a1).bind fun t296 => (days_Number.j0 k a0 a1 a2 (decide (a2 > t296))))
theorem days_Number.mono_l : ∀ k, (∀ y0 y1 y2 y3, LeO (days_Number.j0 k y0 y1 y2 y3) (days_Number.j0 (k + 1) y0 y1 y2 y3)) ∧ (∀ y0 y1 y2 y3, LeO (days_Number.j1 k y0 y1 y2 y3) (days_Number.j1 (k + 1) y0 y1 y2 y3)) ∧ (∀ y0 y1 y2 y3, LeO (days_Number.l0 k y0 y1 y2 y3) (days_Number.l0 (k + 1) y0 y1 y2 y3))
  | 0 => ⟨fun _ _ _ _ r h => by simp [days_Number.j0] at h, fun _ _ _ _ r h => by simp [days_Number.j1] at h, fun _ _ _ _ r h => by simp [days_Number.l0] at h⟩
  | k + 1 => by
    obtain ⟨ih0, ih1, ih2⟩ := days_Number.mono_l k
    refine ⟨?_, ?_, ?_⟩
    · intro y0 y1 y2 y3
      unfold days_Number.j0
      repeat' first
      | (with_reducible exact ih0 _ _ _ _)
      | (with_reducible exact ih1 _ _ _ _)
      | (with_reducible exact ih2 _ _ _ _)
      | (with_reducible exact days_Last.mono _ _ _)
      | (with_reducible exact LeO.refl _)
      | (with_reducible exact LeO.none _)
      | (with_reducible refine LeO.ite ?_ ?_)
      | (with_reducible refine LeO.bind ?_ (fun _ => ?_))
      | exact ih0 _ _ _ _
      | exact ih1 _ _ _ _
      | exact ih2 _ _ _ _
      | exact days_Last.mono _ _ _
      | exact LeO.none _
      | refine LeO.ite ?_ ?_
      | refine LeO.bind ?_ (fun _ => ?_)
    · intro y0 y1 y2 y3
      unfold days_Number.j1
      repeat' first
      | (with_reducible exact ih0 _ _ _ _)
      | (with_reducible exact ih1 _ _ _ _)
      | (with_reducible exact ih2 _ _ _ _)
      | (with_reducible exact days_Last.mono _ _ _)
      | (with_reducible exact LeO.refl _)
      | (with_reducible exact LeO.none _)
      | (with_reducible refine LeO.ite ?_ ?_)
      | (with_reducible refine LeO.bind ?_ (fun _ => ?_))
      | exact ih0 _ _ _ _
      | exact ih1 _ _ _ _
      | exact ih2 _ _ _ _
      | exact days_Last.mono _ _ _
      | exact LeO.none _
      | refine LeO.ite ?_ ?_
      | refine LeO.bind ?_ (fun _ => ?_)
    · intro y0 y1 y2 y3
      unfold days_Number.l0
      repeat' first
      | (with_reducible exact ih0 _ _ _ _)
      | (with_reducible exact ih1 _ _ _ _)
      | (with_reducible exact ih2 _ _ _ _)
      | (with_reducible exact days_Last.mono _ _ _)
      | (with_reducible exact LeO.refl _)
      | (with_reducible exact LeO.none _)
      | (with_reducible refine LeO.ite ?_ ?_)
      | (with_reducible refine LeO.bind ?_ (fun _ => ?_))
      | exact ih0 _ _ _ _
      | exact ih1 _ _ _ _
      | exact ih2 _ _ _ _
      | exact days_Last.mono _ _ _
      | exact LeO.none _
      | refine LeO.ite ?_ ?_
      | refine LeO.bind ?_ (fun _ => ?_)
theorem days_Number.mono : ∀ a0 a1 a2 k, LeO (days_Number.f k a0 a1 a2) (days_Number.f (k + 1) a0 a1 a2) := by
  intro a0 a1 a2 k
  obtain ⟨ih0, ih1, ih2⟩ := days_Number.mono_l k
  unfold days_Number.f
  repeat' first
      | (with_reducible exact ih0 _ _ _ _)
      | (with_reducible exact ih1 _ _ _ _)
      | (with_reducible exact ih2 _ _ _ _)
      | (with_reducible exact days_Last.mono _ _ _)
      | (with_reducible exact LeO.refl _)
      | (with_reducible exact LeO.none _)
      | (with_reducible refine LeO.ite ?_ ?_)
      | (with_reducible refine LeO.bind ?_ (fun _ => ?_))
      | exact ih0 _ _ _ _
      | exact ih1 _ _ _ _
      | exact ih2 _ _ _ _
      | exact days_Last.mono _ _ _
      | exact LeO.none _
      | refine LeO.ite ?_ ?_
      | refine LeO.bind ?_ (fun _ => ?_)
set_option maxHeartbeats 8000000 in
set_option maxRecDepth 100000 in
theorem days_Number.calls (k : Nat) (a0 : Int) (a1 : Int) (a2 : Int) (r1 : Int) (r2 : Int) (w : World) (hT : Tabs w) (h : days_Number.f k a0 a1 a2 = some (r1, r2)) :
    Calls Tryd.prog 69 #[.int .i64 a0, .int .i64 a1, .int .i64 a2] w fun e w' => e = .returned (.tuple #[.int .i64 r1, .int .i64 r2]) ∧ Drawn0 w w' := by
  have HT := Aside0.mk hT
  clear hT
  have H : (if a2 < 1 then (days_Number.j0 k a0 a1 a2 true) else ((days_Last.f k a0 a1).bind fun t296 => (days_Number.j0 k a0 a1 a2 (decide (a2 > t296))))) = some (r1, r2) := h
  clear h
  have HC4 := Aside0.mk H
  clear H
  go_enter Tryd.func69, Tryd.ntmps69
  go_upto_region 1 with (fail)
  go_cut [18] (fun v18 wc => ∃ (kq : Nat) (x18_3 : Bool), v18 = .bool x18_3 ∧ Aside0 (days_Number.j0 kq a0 a1 a2 x18_3 = some (r1, r2)) ∧ Aside0 (kq ≤ k) ∧ Drawn0 w wc)
  case first =>
    have H := HC4.out
    clear HC4
    by_cases c5 : a2 < 1
    · rw [if_pos c5] at H
      have c5b0 : decide (a2 < 1) = true := decide_eq_true c5
      clear c5
      (first | rw [c5b0] | (simp only [i64_w, i32_w]; rw [c5b0]) | skip)
      have H' := Aside0.mk H
      clear H
      go_wp2
      go_meet
      case rel => exact ⟨_, (true), (by first | rfl | (simp; done) | (simp [*]; done)), H', ⟨by first | omega | exact Nat.le_refl _⟩, by repeat (first | exact Drawn0.refl _ | apply Drawn0.step)⟩
    · rw [if_neg c5] at H
      have c5b0 : decide (a2 < 1) = false := decide_eq_false c5
      clear c5
      (first | rw [c5b0] | (simp only [i64_w, i32_w]; rw [c5b0]) | skip)
      replace H := Option.bind_eq_some_iff.mp H
      obtain ⟨t296, A60, H⟩ := H
      replace H : (days_Number.j0 k a0 a1 a2 (decide (a2 > t296))) = some (r1, r2) := H
      have A6 := Aside0.mk A60
      clear A60
      have H' := Aside0.mk H
      clear H
      go_wp2_with (first | (go_at_call 68; (with_reducible refine (days_Last.calls k a0 a1 t296 _ ?side1 A6.out).mono ?_); (case side1 => first | (with_reducible exact HT.out) | (with_reducible exact HT.out.drewN _) | (with_reducible exact HT.out.drew) | (with_reducible exact (HT.out.drewN _).drewN _)); rintro e w' ⟨rfl, ⟨nd, rfl⟩⟩))
      go_meet
      case rel => exact ⟨_, (decide (a2 > t296)), (by first | rfl | (simp; done) | (simp [*]; done)), H', ⟨by first | omega | exact Nat.le_refl _⟩, by repeat (first | exact Drawn0.refl _ | apply Drawn0.step)⟩
  case rest =>
    clear HC4
    try clear p2
    try clear c5
    try clear c5b0
    try clear c6
    obtain ⟨kq, x18_3, rfl, HA, HJ3, ⟨mc3, rfl⟩⟩ := hcut
    cases kq with
    | zero => exact absurd HA.out (by simp [days_Number.j0])
    | succ kj3 =>
      have H := HA.out
      clear HA
      simp only [days_Number.j0] at H
      by_cases c7 : x18_3 = true
      · subst c7
        have H1 : (some (0, 20)) = some (r1, r2) := by rw [if_pos rfl] at H; exact H
        clear H
        have H := H1
        clear H1
        simp only [Option.some.injEq, Prod.mk.injEq] at H
        obtain ⟨rfl, rfl⟩ := H
        go_wp2
        go_ret2
        exact ⟨by first | rfl | (simp; done) | (simp [*]; done), by repeat (first | exact Drawn0.refl _ | apply Drawn0.step)⟩
      · replace c7 := Bool.eq_false_iff.mpr c7
        subst c7
        have H1 : (if a0 < 1900 then (days_Number.j1 kj3 a0 a1 a2 true) else (days_Number.j1 kj3 a0 a1 a2 (decide (a0 > 2199)))) = some (r1, r2) := by rw [if_neg (show ¬ (false = true) by decide)] at H; exact H
        clear H
        have H := H1
        clear H1
        have HC8 := Aside0.mk H
        clear H
        go_upto_region 3 with (fail)
        go_cut [24] (fun v24 wc => ∃ (kq : Nat) (x24_7 : Bool), v24 = .bool x24_7 ∧ Aside0 (days_Number.j1 kq a0 a1 a2 x24_7 = some (r1, r2)) ∧ Aside0 (kq ≤ kj3) ∧ Drawn0 w wc)
        case first =>
          have H := HC8.out
          clear HC8
          by_cases c9 : a0 < 1900
          · rw [if_pos c9] at H
            have c9b0 : decide (a0 < 1900) = true := decide_eq_true c9
            clear c9
            (first | rw [c9b0] | (simp only [i64_w, i32_w]; rw [c9b0]) | skip)
            have H' := Aside0.mk H
            clear H
            go_wp2
            go_meet
            case rel => exact ⟨_, (true), (by first | rfl | (simp; done) | (simp [*]; done)), H', ⟨by have := HJ3.out; first | omega | exact Nat.le_refl _⟩, by repeat (first | exact Drawn0.refl _ | apply Drawn0.step)⟩
          · rw [if_neg c9] at H
            have c9b0 : decide (a0 < 1900) = false := decide_eq_false c9
            clear c9
            (first | rw [c9b0] | (simp only [i64_w, i32_w]; rw [c9b0]) | skip)
            have H' := Aside0.mk H
            clear H
            go_wp2
            go_meet
            case rel => exact ⟨_, (decide (a0 > 2199)), (by first | rfl | (simp; done) | (simp [*]; done)), H', ⟨by have := HJ3.out; first | omega | exact Nat.le_refl _⟩, by repeat (first | exact Drawn0.refl _ | apply Drawn0.step)⟩
        case rest =>
          clear HC8
          try clear p2
          try clear c3
          try clear c5
          try clear c5b0
          try clear c6
          try clear c7
          try clear c9
          try clear c9b0
          try clear p2
          obtain ⟨kq, x24_7, rfl, HA, HJ7, ⟨mc7, rfl⟩⟩ := hcut
          cases kq with
          | zero => exact absurd HA.out (by simp [days_Number.j1])
          | succ kj7 =>
            have H := HA.out
            clear HA
            simp only [days_Number.j1] at H
            by_cases c10 : x24_7 = true
            · subst c10
              have H1 : (some (0, 21)) = some (r1, r2) := by rw [if_pos rfl] at H; exact H
              clear H
              have H := H1
              clear H1
              simp only [Option.some.injEq, Prod.mk.injEq] at H
              obtain ⟨rfl, rfl⟩ := H
              go_wp2
              go_ret2
              exact ⟨by first | rfl | (simp; done) | (simp [*]; done), by repeat (first | exact Drawn0.refl _ | apply Drawn0.step)⟩
            · replace c10 := Bool.eq_false_iff.mpr c10
              subst c10
              have H1 : ((days_daysAhead.f a0).bind fun t297 => (days_Number.l0 kj7 a0 a1 (wrap64 ((wrap64 (t297 + a2)) - 1)) 1)) = some (r1, r2) := by rw [if_neg (show ¬ (false = true) by decide)] at H; exact H
              clear H
              have H := H1
              clear H1
              replace H := Option.bind_eq_some_iff.mp H
              obtain ⟨t297, A110, H⟩ := H
              replace H : (days_Number.l0 kj7 a0 a1 (wrap64 ((wrap64 (t297 + a2)) - 1)) 1) = some (r1, r2) := H
              have A11 := Aside0.mk A110
              clear A110
              have H' := Aside0.mk H
              clear H
              go_wp2_with (first | ((with_reducible refine gate_callee (f := 67) rfl ?_); refine goesL_ (some 26) rfl rfl Tryd.func67 (by kernel_rfl) rfl #[.int .i64 a0] rfl (by (try simp only [List.map_toArray, List.map_cons, List.map_nil]); first | done | rfl | (simp only [List.length_drop, List.length_take]; rfl)) ?_; (with_reducible refine (days_daysAhead.calls a0 t297 _ A11.out).mono ?_); rintro e w' ⟨rfl, ⟨nd, rfl⟩⟩; refine ⟨_, rfl, ?_⟩))
              go_loopg [8, 9] kj7 (fun kq v8 v9 w' => ∃ (x8_3 : Int) (x9_3 : Int), v8 = .int .i64 x8_3 ∧ v9 = .int .i64 x9_3 ∧ Aside0 (days_Number.l0 kq a0 a1 x8_3 x9_3 = some (r1, r2)) ∧ Aside0 (kq ≤ kj7) ∧ Drawn0 w w')
              case atStart => exact ⟨(wrap64 ((wrap64 (t297 + a2)) - 1)), (1), (by first | rfl | (simp; done) | (simp [*]; done)), (by first | rfl | (simp; done) | (simp [*]; done)), H', ⟨Nat.le_refl _⟩, by repeat (first | exact Drawn0.refl _ | apply Drawn0.step)⟩
              case round =>
                clear H'
                try clear c1
                try clear p2
                try clear c3
                try clear c5
                try clear c5b0
                try clear c6
                try clear p6
                try clear c7
                try clear c9
                try clear c9b0
                try clear c10
                try clear p2
                obtain ⟨x8_3, x9_3, rfl, rfl, HA, HK3, ⟨m3, rfl⟩⟩ := hrel
                cases gk with
                | zero => exact absurd HA.out (by simp [days_Number.l0])
                | succ k3 =>
                  have H := HA.out
                  clear HA
                  simp only [days_Number.l0] at H
                  by_cases c12 : x9_3 < a1
                  · rw [if_pos c12] at H
                    have c12b0 : decide (x9_3 < a1) = true := decide_eq_true c12
                    clear c12
                    replace H := Option.bind_eq_some_iff.mp H
                    obtain ⟨t298, A130, H⟩ := H
                    replace H : (days_Number.l0 k3 a0 a1 (wrap64 (x8_3 + t298)) (wrap64 (x9_3 + 1))) = some (r1, r2) := H
                    have A13 := Aside0.mk A130
                    clear A130
                    have H' := Aside0.mk H
                    clear H
                    go_wp2_with (first | ((with_reducible refine gate_callee (f := 68) rfl ?_); refine goesL_ (some 38) rfl rfl Tryd.func68 (by kernel_rfl) rfl #[.int .i64 a0, .int .i64 x9_3] rfl (by (try simp only [List.map_toArray, List.map_cons, List.map_nil]); first | done | rfl | (simp only [List.length_drop, List.length_take]; rfl)) ?_; (with_reducible refine (days_Last.calls k3 a0 x9_3 t298 _ ?side1 A13.out).mono ?_); (case side1 => first | (with_reducible exact HT.out) | (with_reducible exact HT.out.drewN _) | (with_reducible exact HT.out.drew) | (with_reducible exact (HT.out.drewN _).drewN _)); rintro e w' ⟨rfl, ⟨nd, rfl⟩⟩; refine ⟨_, rfl, ?_⟩))
                    go_roundg k3
                    case measure => have := HJ3.out; have := HJ7.out; have := HK3.out; omega
                    case rel => exact ⟨(wrap64 (x8_3 + t298)), (wrap64 (x9_3 + 1)), (by first | rfl | (simp; done) | (simp [*]; done)), (by first | rfl | (simp; done) | (simp [*]; done)), H', ⟨by have := HJ3.out; have := HJ7.out; have := HK3.out; omega⟩, by repeat (first | exact Drawn0.refl _ | apply Drawn0.step)⟩
                  · rw [if_neg c12] at H
                    have c12b0 : decide (x9_3 < a1) = false := decide_eq_false c12
                    clear c12
                    simp only [Option.some.injEq, Prod.mk.injEq] at H
                    obtain ⟨rfl, rfl⟩ := H
                    go_wp2
                    go_ret2
                    exact ⟨by first | rfl | (simp; done) | (simp [*]; done), by repeat (first | exact Drawn0.refl _ | apply Drawn0.step)⟩

end Go.Proofs.YtgcgpeeokdnplaaDoor.PA
end
section
/- The Go functions of this seat that the laws of part A come to, each as a plain Lean function ('f', its loops 'l0' ..) with a proof that the call comes to its answer. Conditions: where a function comes to a package-level table, the world holds that table ('Tabs'). Written by a program of this session (a changed copy of the print). -/
namespace Go.Proofs.YtgcgpeeokdnplaaDoor.PA
open Go.RowKit Go.Proofs.YtgcgpeeokdnplaaDoorW.PrintWords Go.Proofs.YtgcgpeeokdnplaaDoorW.PrintLast Go.Proofs.YtgcgpeeokdnplaaDoorW.PrintMore
attribute [local go_sem] max2_int min2_int max_two min_two max_three min_three max_four min_four   -- for this text's walks alone
set_option linter.unusedVariables false
set_option linter.unusedSimpArgs false

/-! ### words_scanner_dated: function 54 -/
def words_scanner_dated.l0 : Nat → Int → Int → ByteArray → Int → Bool → Int → Int → Option (Bool × ByteArray × Int × Bool × Int × Int)
  | 0, _, _, _, _, _, _, _ => none
  | k + 1, x1, x6, x1000, x1001, x1002, x1003, x1004 => if x6 < 10 then (if 0 ≤ x6 then (if (bt (⟨#[48, 48, 48, 48, 45, 48, 48, 45, 48, 48]⟩ : ByteArray) x6) = 48 then ((words_scanner_is.f x1000 x1001 x1002 x1003 x1004 (wrap64 (x1 + x6)) 2).bind fun bt290 => (if bt290.1 = true then (if (bt (⟨#[48, 48, 48, 48, 45, 48, 48, 45, 48, 48]⟩ : ByteArray) x6) = 45 then (if (wrap64 (x1 + x6)) ≥ (bt290.2.1.size : Int) then (some (false, bt290.2.1, bt290.2.2.1, bt290.2.2.2.1, bt290.2.2.2.2.1, bt290.2.2.2.2.2)) else (if 0 ≤ (wrap64 (x1 + x6)) then (if (wrap64 (x1 + x6)) < (bt290.2.1.size : Int) then (if (bt bt290.2.1 (wrap64 (x1 + x6))) = 45 then (words_scanner_dated.l0 k x1 (wrap64 (x6 + 1)) bt290.2.1 bt290.2.2.1 bt290.2.2.2.1 bt290.2.2.2.2.1 bt290.2.2.2.2.2) else (some (false, bt290.2.1, bt290.2.2.1, bt290.2.2.2.1, bt290.2.2.2.2.1, bt290.2.2.2.2.2))) else (none)) else (none))) else (words_scanner_dated.l0 k x1 (wrap64 (x6 + 1)) bt290.2.1 bt290.2.2.1 bt290.2.2.2.1 bt290.2.2.2.2.1 bt290.2.2.2.2.2)) else (some (false, bt290.2.1, bt290.2.2.1, bt290.2.2.2.1, bt290.2.2.2.2.1, bt290.2.2.2.2.2)))) else (if (bt (⟨#[48, 48, 48, 48, 45, 48, 48, 45, 48, 48]⟩ : ByteArray) x6) = 45 then (if (wrap64 (x1 + x6)) ≥ (x1000.size : Int) then (some (false, x1000, x1001, x1002, x1003, x1004)) else (if 0 ≤ (wrap64 (x1 + x6)) then (if (wrap64 (x1 + x6)) < (x1000.size : Int) then (if (bt x1000 (wrap64 (x1 + x6))) = 45 then (words_scanner_dated.l0 k x1 (wrap64 (x6 + 1)) x1000 x1001 x1002 x1003 x1004) else (some (false, x1000, x1001, x1002, x1003, x1004))) else (none)) else (none))) else (words_scanner_dated.l0 k x1 (wrap64 (x6 + 1)) x1000 x1001 x1002 x1003 x1004))) else (none)) else (some (true, x1000, x1001, x1002, x1003, x1004))
def words_scanner_dated.f (k : Nat) (s0_0 : ByteArray) (s0_1 : Int) (s0_2 : Bool) (s0_3 : Int) (s0_4 : Int) (a1 : Int) : Option (Bool × ByteArray × Int × Bool × Int × Int) := words_scanner_dated.l0 k a1 0 s0_0 s0_1 s0_2 s0_3 s0_4
theorem words_scanner_dated.mono_l : ∀ k, (∀ y0 y1 y2 y3 y4 y5 y6, LeO (words_scanner_dated.l0 k y0 y1 y2 y3 y4 y5 y6) (words_scanner_dated.l0 (k + 1) y0 y1 y2 y3 y4 y5 y6))
  | 0 => fun _ _ _ _ _ _ _ r h => by simp [words_scanner_dated.l0] at h
  | k + 1 => by
    have ih0 := words_scanner_dated.mono_l k
    · intro y0 y1 y2 y3 y4 y5 y6
      unfold words_scanner_dated.l0
      repeat' first
      | (with_reducible exact ih0 _ _ _ _ _ _ _)
      | (with_reducible exact LeO.refl _)
      | (with_reducible exact LeO.none _)
      | (with_reducible refine LeO.ite ?_ ?_)
      | (with_reducible refine LeO.bind ?_ (fun _ => ?_))
      | exact ih0 _ _ _ _ _ _ _
      | exact LeO.none _
      | refine LeO.ite ?_ ?_
      | refine LeO.bind ?_ (fun _ => ?_)
theorem words_scanner_dated.mono : ∀ a0 a1 a2 a3 a4 a5 k, LeO (words_scanner_dated.f k a0 a1 a2 a3 a4 a5) (words_scanner_dated.f (k + 1) a0 a1 a2 a3 a4 a5) := by
  intro a0 a1 a2 a3 a4 a5 k
  have ih0 := words_scanner_dated.mono_l k
  unfold words_scanner_dated.f
  repeat' first
      | (with_reducible exact ih0 _ _ _ _ _ _ _)
      | (with_reducible exact LeO.refl _)
      | (with_reducible exact LeO.none _)
      | (with_reducible refine LeO.ite ?_ ?_)
      | (with_reducible refine LeO.bind ?_ (fun _ => ?_))
      | exact ih0 _ _ _ _ _ _ _
      | exact LeO.none _
      | refine LeO.ite ?_ ?_
      | refine LeO.bind ?_ (fun _ => ?_)
set_option maxHeartbeats 8000000 in
set_option maxRecDepth 100000 in
theorem words_scanner_dated.calls (k : Nat) (g : Nat) (s0_0 : ByteArray) (s0_1 : Int) (s0_2 : Bool) (s0_3 : Int) (s0_4 : Int) (a1 : Int) (r1 : Bool) (r2 : ByteArray) (r3 : Int) (r4 : Bool) (r5 : Int) (r6 : Int) (w0 w : World) (hT : Tabs w0) (hI : IsS42 w0 w g s0_0 s0_1 s0_2 s0_3 s0_4) (hB : Below w0.heap.size w0 w) (h : words_scanner_dated.f k s0_0 s0_1 s0_2 s0_3 s0_4 a1 = some (r1, r2, r3, r4, r5, r6)) :
    Calls Tryd.prog 54 #[.pointer (some ⟨g, 0, none⟩), .int .i64 a1] w fun e w' => e = .returned (.bool r1) ∧ IsS42 w0 w' g r2 r3 r4 r5 r6 ∧ Below w0.heap.size w0 w' ∧ KeepBut w w' g none := by
  have HI0 := Aside0.mk hI
  have HK := Aside0.mk (KeepBut.refl w g none)
  have HL := Aside0.mk hB.size
  clear hI
  have HW0 := Aside0.mk hB.size
  have HB := Aside0.mk hB
  clear hB
  have HT := Aside0.mk hT
  clear hT
  have H : (words_scanner_dated.l0 k a1 0 s0_0 s0_1 s0_2 s0_3 s0_4) = some (r1, r2, r3, r4, r5, r6) := h
  clear h
  have H' := Aside0.mk H
  clear H
  go_enter Tryd.func54, Tryd.ntmps54
  go_wp2
  go_loopg [6] k (fun kq v6 w' => ∃ (x6_1 : Int) (x1000_1 : ByteArray) (x1001_1 : Int) (x1002_1 : Bool) (x1003_1 : Int) (x1004_1 : Int), v6 = .int .i64 x6_1 ∧ Aside0 (words_scanner_dated.l0 kq a1 x6_1 x1000_1 x1001_1 x1002_1 x1003_1 x1004_1 = some (r1, r2, r3, r4, r5, r6)) ∧ Aside0 (kq ≤ k) ∧ Aside0 (IsS42 w0 w' g x1000_1 x1001_1 x1002_1 x1003_1 x1004_1) ∧ Aside0 (KeepBut w w' g none) ∧ Aside0 (Below w0.heap.size w0 w'))
  case atStart => exact ⟨(0), (s0_0), (s0_1), (s0_2), (s0_3), (s0_4), (by first | rfl | (simp; done) | (simp [*]; done)), H', ⟨Nat.le_refl _⟩, ⟨by repeat (first | (with_reducible first | exact HI0.out | apply IsS42.alloc | apply IsS42.drewN | apply IsS42.drew | apply IsS42.set_0 | apply IsS42.set_1 | apply IsS42.set_2 | apply IsS42.set_3 | apply IsS42.set_4) | exact HI0.out)⟩, ⟨by repeat (first | (with_reducible first | exact HK.out | apply KeepBut.set_ | apply keep_drewN | apply keep_drew | apply keep_alloc) | exact HK.out)⟩, ⟨by repeat (first | (with_reducible first | exact HB.out | apply below_alloc | apply pw_below_drewN | apply below_drew1 | refine below_set ?_ (IsS42.ge HI0.out)) | exact HB.out)⟩⟩
  case round =>
    clear H'
    try clear p2
    obtain ⟨x6_1, x1000_1, x1001_1, x1002_1, x1003_1, x1004_1, rfl, HA, HK1, HI0, HK, HB⟩ := hrel
    cases gk with
    | zero => exact absurd HA.out (by simp [words_scanner_dated.l0])
    | succ k1 =>
      have H := HA.out
      clear HA
      simp only [words_scanner_dated.l0] at H
      by_cases c3 : x6_1 < 10
      · rw [if_pos c3] at H
        have c3b0 : decide (x6_1 < 10) = true := decide_eq_true c3
        clear c3
        by_cases c4 : 0 ≤ x6_1
        · rw [if_pos c4] at H
          have c4b0 : decide (0 ≤ x6_1) = true := decide_eq_true c4
          clear c4
          by_cases c6 : (bt (⟨#[48, 48, 48, 48, 45, 48, 48, 45, 48, 48]⟩ : ByteArray) x6_1) = 48
          · rw [if_pos c6] at H
            have c6b0 : ((bt (⟨#[48, 48, 48, 48, 45, 48, 48, 45, 48, 48]⟩ : ByteArray) x6_1) == 48) = true := beq_iff_eq.mpr c6
            have c6b1 : ((bt (⟨#[48, 48, 48, 48, 45, 48, 48, 45, 48, 48]⟩ : ByteArray) x6_1) != 48) = false := bne_eq_false_iff_eq.mpr c6
            clear c6
            replace H := Option.bind_eq_some_iff.mp H
            obtain ⟨⟨t290, t291, t292, t293, t294, t295⟩, A70, H⟩ := H
            replace H : (if t290 = true then (if (bt (⟨#[48, 48, 48, 48, 45, 48, 48, 45, 48, 48]⟩ : ByteArray) x6_1) = 45 then (if (wrap64 (a1 + x6_1)) ≥ (t291.size : Int) then (some (false, t291, t292, t293, t294, t295)) else (if 0 ≤ (wrap64 (a1 + x6_1)) then (if (wrap64 (a1 + x6_1)) < (t291.size : Int) then (if (bt t291 (wrap64 (a1 + x6_1))) = 45 then (words_scanner_dated.l0 k1 a1 (wrap64 (x6_1 + 1)) t291 t292 t293 t294 t295) else (some (false, t291, t292, t293, t294, t295))) else (none)) else (none))) else (words_scanner_dated.l0 k1 a1 (wrap64 (x6_1 + 1)) t291 t292 t293 t294 t295)) else (some (false, t291, t292, t293, t294, t295))) = some (r1, r2, r3, r4, r5, r6) := H
            have A7 := Aside0.mk A70
            clear A70
            by_cases c8 : t290 = true
            · subst c8
              have H1 : (if (bt (⟨#[48, 48, 48, 48, 45, 48, 48, 45, 48, 48]⟩ : ByteArray) x6_1) = 45 then (if (wrap64 (a1 + x6_1)) ≥ (t291.size : Int) then (some (false, t291, t292, t293, t294, t295)) else (if 0 ≤ (wrap64 (a1 + x6_1)) then (if (wrap64 (a1 + x6_1)) < (t291.size : Int) then (if (bt t291 (wrap64 (a1 + x6_1))) = 45 then (words_scanner_dated.l0 k1 a1 (wrap64 (x6_1 + 1)) t291 t292 t293 t294 t295) else (some (false, t291, t292, t293, t294, t295))) else (none)) else (none))) else (words_scanner_dated.l0 k1 a1 (wrap64 (x6_1 + 1)) t291 t292 t293 t294 t295)) = some (r1, r2, r3, r4, r5, r6) := by rw [if_pos rfl] at H; exact H
              clear H
              have H := H1
              clear H1
              by_cases c10 : (bt (⟨#[48, 48, 48, 48, 45, 48, 48, 45, 48, 48]⟩ : ByteArray) x6_1) = 45
              · rw [if_pos c10] at H
                have c10b0 : ((bt (⟨#[48, 48, 48, 48, 45, 48, 48, 45, 48, 48]⟩ : ByteArray) x6_1) == 45) = true := beq_iff_eq.mpr c10
                have c10b1 : ((bt (⟨#[48, 48, 48, 48, 45, 48, 48, 45, 48, 48]⟩ : ByteArray) x6_1) != 45) = false := bne_eq_false_iff_eq.mpr c10
                clear c10
                by_cases c11 : (wrap64 (a1 + x6_1)) ≥ (t291.size : Int)
                · rw [if_pos c11] at H
                  have c11b0 : decide ((t291.size : Int) ≤ (wrap64 (a1 + x6_1))) = true := decide_eq_true c11
                  clear c11
                  simp only [Option.some.injEq, Prod.mk.injEq] at H
                  obtain ⟨rfl, rfl, rfl, rfl, rfl, rfl⟩ := H
                  have p5 : 0 ≤ (x6_1 : Int) := of_decide_eq_true (by first | (with_reducible assumption) | assumption)
                  have q5 : x6_1 < (10 : Int) := of_decide_eq_true (by first | (with_reducible assumption) | assumption)
                  have hx5 := bt_at (⟨#[48, 48, 48, 48, 45, 48, 48, 45, 48, 48]⟩ : ByteArray) x6_1
                  replace p5 := eq_true p5
                  replace q5 := eq_true q5
                  go_wp2_with (first | (go_at_call 53; (with_reducible refine (words_scanner_is.calls g x1000_1 x1001_1 x1002_1 x1003_1 x1004_1 (wrap64 (a1 + x6_1)) 2 true t291 t292 t293 t294 t295 w0 _ ?side1 ?side2 ?side3 A7.out).mono ?_); (case side1 => exact HT.out); (case side2 => repeat (first | (with_reducible first | exact HI0.out | apply IsS42.alloc | apply IsS42.drewN | apply IsS42.drew | apply IsS42.set_0 | apply IsS42.set_1 | apply IsS42.set_2 | apply IsS42.set_3 | apply IsS42.set_4) | exact HI0.out)); (case side3 => repeat (first | (with_reducible first | exact HB.out | apply below_alloc | apply pw_below_drewN | apply below_drew1 | refine below_set ?_ (IsS42.ge HI0.out)) | exact HB.out)); rintro e w12 ⟨rfl, hi, hb, hk⟩; have n0_ := Aside0.mk (KeepBut.trans (by repeat (first | (with_reducible first | exact HK.out | apply KeepBut.set_ | apply keep_drewN | apply keep_drew | apply keep_alloc) | exact HK.out)) hk (.inl rfl)); have n1_ := Aside0.mk (hb); have n2_ := Aside0.mk (hi); clear HK; clear HB; clear HI0; have HK := n0_; have HB := n1_; have HI0 := n2_; clear n0_ n1_ n2_; (try clear hb); (try clear hb2); (try clear hk); (try clear hi); have p9 : 0 ≤ (x6_1 : Int) := of_decide_eq_true (by first | (with_reducible assumption) | assumption); have q9 : x6_1 < (10 : Int) := of_decide_eq_true (by first | (with_reducible assumption) | assumption); have hx9 := bt_at (⟨#[48, 48, 48, 48, 45, 48, 48, 45, 48, 48]⟩ : ByteArray) x6_1; replace p9 := eq_true p9; replace q9 := eq_true q9; obtain ⟨HGz13, hgz13⟩ := HI0.out; have hcz13_0 := cellS42_0 HGz13; have hcz13_1 := cellS42_1 HGz13; have hcz13_2 := cellS42_2 HGz13; have hcz13_3 := cellS42_3 HGz13; have hcz13_4 := cellS42_4 HGz13; have hfz13_0 := blk_frozen HGz13 0; have hfz13_1 := blk_frozen HGz13 1; have hfz13_2 := blk_frozen HGz13 2; have hfz13_3 := blk_frozen HGz13 3; have hfz13_4 := blk_frozen HGz13 4; clear HGz13 hgz13))
                  go_ret
                  exact ⟨by first | rfl | (simp [errW_none, errW_some] <;> rfl) | (simp [*, errW_none, errW_some] <;> rfl), by repeat (first | (with_reducible first | exact HI0.out | apply IsS42.alloc | apply IsS42.drewN | apply IsS42.drew | apply IsS42.set_0 | apply IsS42.set_1 | apply IsS42.set_2 | apply IsS42.set_3 | apply IsS42.set_4) | exact HI0.out), by repeat (first | (with_reducible first | exact HB.out | apply below_alloc | apply pw_below_drewN | apply below_drew1 | refine below_set ?_ (IsS42.ge HI0.out)) | exact HB.out), by repeat (first | (with_reducible first | exact HK.out | apply KeepBut.set_ | apply keep_drewN | apply keep_drew | apply keep_alloc) | exact HK.out)⟩
                · rw [if_neg c11] at H
                  have c11b0 : decide ((t291.size : Int) ≤ (wrap64 (a1 + x6_1))) = false := decide_eq_false c11
                  clear c11
                  obtain ⟨ji14, hji14⟩ : ∃ j_ : Int, (wrap64 (a1 + x6_1)) = j_ := ⟨_, rfl⟩
                  replace H : (if 0 ≤ (ji14) then (if (ji14) < (t291.size : Int) then (if (bt t291 (ji14)) = 45 then (words_scanner_dated.l0 k1 a1 (wrap64 (x6_1 + 1)) t291 t292 t293 t294 t295) else (some (false, t291, t292, t293, t294, t295))) else (none)) else (none)) = some (r1, r2, r3, r4, r5, r6) := by first | (rw [hji14] at H; exact H) | (simp only [hji14] at H ⊢; exact H)
                  (try rw [hji14] at c11b0)
                  (try rw [hji14] at A7)
                  have hji14w : (IntKind.i64.wrap (a1 + x6_1)) = ji14 := (i64_w _).trans hji14
                  by_cases c15 : 0 ≤ (ji14)
                  · rw [if_pos c15] at H
                    have c15b0 : decide (0 ≤ (ji14)) = true := decide_eq_true c15
                    clear c15
                    by_cases c16 : (ji14) < (t291.size : Int)
                    · rw [if_pos c16] at H
                      have c16b0 : decide ((ji14) < (t291.size : Int)) = true := decide_eq_true c16
                      clear c16
                      by_cases c18 : (bt t291 (ji14)) = 45
                      · rw [if_pos c18] at H
                        have c18b0 : ((bt t291 (ji14)) == 45) = true := beq_iff_eq.mpr c18
                        have c18b1 : ((bt t291 (ji14)) != 45) = false := bne_eq_false_iff_eq.mpr c18
                        clear c18
                        have H' := Aside0.mk H
                        clear H
                        have p5 : 0 ≤ (x6_1 : Int) := of_decide_eq_true (by first | (with_reducible assumption) | assumption)
                        have q5 : x6_1 < (10 : Int) := of_decide_eq_true (by first | (with_reducible assumption) | assumption)
                        have hx5 := bt_at (⟨#[48, 48, 48, 48, 45, 48, 48, 45, 48, 48]⟩ : ByteArray) x6_1
                        replace p5 := eq_true p5
                        replace q5 := eq_true q5
                        go_wp2_with (first | (go_at_call 53; (with_reducible refine (words_scanner_is.calls g x1000_1 x1001_1 x1002_1 x1003_1 x1004_1 ji14 2 true t291 t292 t293 t294 t295 w0 _ ?side1 ?side2 ?side3 A7.out).mono ?_); (case side1 => exact HT.out); (case side2 => repeat (first | (with_reducible first | exact HI0.out | apply IsS42.alloc | apply IsS42.drewN | apply IsS42.drew | apply IsS42.set_0 | apply IsS42.set_1 | apply IsS42.set_2 | apply IsS42.set_3 | apply IsS42.set_4) | exact HI0.out)); (case side3 => repeat (first | (with_reducible first | exact HB.out | apply below_alloc | apply pw_below_drewN | apply below_drew1 | refine below_set ?_ (IsS42.ge HI0.out)) | exact HB.out)); rintro e w19 ⟨rfl, hi, hb, hk⟩; have n0_ := Aside0.mk (KeepBut.trans (by repeat (first | (with_reducible first | exact HK.out | apply KeepBut.set_ | apply keep_drewN | apply keep_drew | apply keep_alloc) | exact HK.out)) hk (.inl rfl)); have n1_ := Aside0.mk (hb); have n2_ := Aside0.mk (hi); clear HK; clear HB; clear HI0; have HK := n0_; have HB := n1_; have HI0 := n2_; clear n0_ n1_ n2_; (try clear hb); (try clear hb2); (try clear hk); (try clear hi); have p9 : 0 ≤ (x6_1 : Int) := of_decide_eq_true (by first | (with_reducible assumption) | assumption); have q9 : x6_1 < (10 : Int) := of_decide_eq_true (by first | (with_reducible assumption) | assumption); have hx9 := bt_at (⟨#[48, 48, 48, 48, 45, 48, 48, 45, 48, 48]⟩ : ByteArray) x6_1; replace p9 := eq_true p9; replace q9 := eq_true q9; obtain ⟨HGz20, hgz20⟩ := HI0.out; have hcz20_0 := cellS42_0 HGz20; have hcz20_1 := cellS42_1 HGz20; have hcz20_2 := cellS42_2 HGz20; have hcz20_3 := cellS42_3 HGz20; have hcz20_4 := cellS42_4 HGz20; have hfz20_0 := blk_frozen HGz20 0; have hfz20_1 := blk_frozen HGz20 1; have hfz20_2 := blk_frozen HGz20 2; have hfz20_3 := blk_frozen HGz20 3; have hfz20_4 := blk_frozen HGz20 4; clear HGz20 hgz20; have p17 : 0 ≤ ((ji14) : Int) := of_decide_eq_true (by first | (with_reducible assumption) | assumption); have q17 : (ji14) < (t291.size : Int) := of_decide_eq_true (by first | (with_reducible assumption) | assumption); have hx17 := bt_at t291 (ji14); replace p17 := eq_true p17; replace q17 := eq_true q17))
                        go_roundg k1
                        case measure => have := HK1.out; omega
                        case rel => exact ⟨(wrap64 (x6_1 + 1)), (t291), (t292), (t293), (t294), (t295), (by first | rfl | (simp; done) | (simp [*]; done)), H', ⟨by have := HK1.out; omega⟩, ⟨by repeat (first | (with_reducible first | exact HI0.out | apply IsS42.alloc | apply IsS42.drewN | apply IsS42.drew | apply IsS42.set_0 | apply IsS42.set_1 | apply IsS42.set_2 | apply IsS42.set_3 | apply IsS42.set_4) | exact HI0.out)⟩, ⟨by repeat (first | (with_reducible first | exact HK.out | apply KeepBut.set_ | apply keep_drewN | apply keep_drew | apply keep_alloc) | exact HK.out)⟩, ⟨by repeat (first | (with_reducible first | exact HB.out | apply below_alloc | apply pw_below_drewN | apply below_drew1 | refine below_set ?_ (IsS42.ge HI0.out)) | exact HB.out)⟩⟩
                      · rw [if_neg c18] at H
                        have c18b0 : ((bt t291 (ji14)) == 45) = false := beq_eq_false_iff_ne.mpr c18
                        have c18b1 : ((bt t291 (ji14)) != 45) = true := bne_iff_ne.mpr c18
                        simp only [Option.some.injEq, Prod.mk.injEq] at H
                        obtain ⟨rfl, rfl, rfl, rfl, rfl, rfl⟩ := H
                        have p5 : 0 ≤ (x6_1 : Int) := of_decide_eq_true (by first | (with_reducible assumption) | assumption)
                        have q5 : x6_1 < (10 : Int) := of_decide_eq_true (by first | (with_reducible assumption) | assumption)
                        have hx5 := bt_at (⟨#[48, 48, 48, 48, 45, 48, 48, 45, 48, 48]⟩ : ByteArray) x6_1
                        replace p5 := eq_true p5
                        replace q5 := eq_true q5
                        go_wp2_with (first | (go_at_call 53; (with_reducible refine (words_scanner_is.calls g x1000_1 x1001_1 x1002_1 x1003_1 x1004_1 ji14 2 true t291 t292 t293 t294 t295 w0 _ ?side1 ?side2 ?side3 A7.out).mono ?_); (case side1 => exact HT.out); (case side2 => repeat (first | (with_reducible first | exact HI0.out | apply IsS42.alloc | apply IsS42.drewN | apply IsS42.drew | apply IsS42.set_0 | apply IsS42.set_1 | apply IsS42.set_2 | apply IsS42.set_3 | apply IsS42.set_4) | exact HI0.out)); (case side3 => repeat (first | (with_reducible first | exact HB.out | apply below_alloc | apply pw_below_drewN | apply below_drew1 | refine below_set ?_ (IsS42.ge HI0.out)) | exact HB.out)); rintro e w21 ⟨rfl, hi, hb, hk⟩; have n0_ := Aside0.mk (KeepBut.trans (by repeat (first | (with_reducible first | exact HK.out | apply KeepBut.set_ | apply keep_drewN | apply keep_drew | apply keep_alloc) | exact HK.out)) hk (.inl rfl)); have n1_ := Aside0.mk (hb); have n2_ := Aside0.mk (hi); clear HK; clear HB; clear HI0; have HK := n0_; have HB := n1_; have HI0 := n2_; clear n0_ n1_ n2_; (try clear hb); (try clear hb2); (try clear hk); (try clear hi); have p9 : 0 ≤ (x6_1 : Int) := of_decide_eq_true (by first | (with_reducible assumption) | assumption); have q9 : x6_1 < (10 : Int) := of_decide_eq_true (by first | (with_reducible assumption) | assumption); have hx9 := bt_at (⟨#[48, 48, 48, 48, 45, 48, 48, 45, 48, 48]⟩ : ByteArray) x6_1; replace p9 := eq_true p9; replace q9 := eq_true q9; obtain ⟨HGz22, hgz22⟩ := HI0.out; have hcz22_0 := cellS42_0 HGz22; have hcz22_1 := cellS42_1 HGz22; have hcz22_2 := cellS42_2 HGz22; have hcz22_3 := cellS42_3 HGz22; have hcz22_4 := cellS42_4 HGz22; have hfz22_0 := blk_frozen HGz22 0; have hfz22_1 := blk_frozen HGz22 1; have hfz22_2 := blk_frozen HGz22 2; have hfz22_3 := blk_frozen HGz22 3; have hfz22_4 := blk_frozen HGz22 4; clear HGz22 hgz22; have p17 : 0 ≤ ((ji14) : Int) := of_decide_eq_true (by first | (with_reducible assumption) | assumption); have q17 : (ji14) < (t291.size : Int) := of_decide_eq_true (by first | (with_reducible assumption) | assumption); have hx17 := bt_at t291 (ji14); replace p17 := eq_true p17; replace q17 := eq_true q17))
                        go_ret
                        exact ⟨by first | rfl | (simp [errW_none, errW_some] <;> rfl) | (simp only [← hji14]; first | rfl | (simp [errW_none, errW_some] <;> rfl)) | (simp [*, errW_none, errW_some] <;> rfl), by repeat (first | (with_reducible first | exact HI0.out | apply IsS42.alloc | apply IsS42.drewN | apply IsS42.drew | apply IsS42.set_0 | apply IsS42.set_1 | apply IsS42.set_2 | apply IsS42.set_3 | apply IsS42.set_4) | exact HI0.out), by repeat (first | (with_reducible first | exact HB.out | apply below_alloc | apply pw_below_drewN | apply below_drew1 | refine below_set ?_ (IsS42.ge HI0.out)) | exact HB.out), by repeat (first | (with_reducible first | exact HK.out | apply KeepBut.set_ | apply keep_drewN | apply keep_drew | apply keep_alloc) | exact HK.out)⟩
                    · rw [if_neg c16] at H
                      exact absurd H (by simp)
                  · rw [if_neg c15] at H
                    exact absurd H (by simp)
              · rw [if_neg c10] at H
                have c10b0 : ((bt (⟨#[48, 48, 48, 48, 45, 48, 48, 45, 48, 48]⟩ : ByteArray) x6_1) == 45) = false := beq_eq_false_iff_ne.mpr c10
                have c10b1 : ((bt (⟨#[48, 48, 48, 48, 45, 48, 48, 45, 48, 48]⟩ : ByteArray) x6_1) != 45) = true := bne_iff_ne.mpr c10
                have H' := Aside0.mk H
                clear H
                have p5 : 0 ≤ (x6_1 : Int) := of_decide_eq_true (by first | (with_reducible assumption) | assumption)
                have q5 : x6_1 < (10 : Int) := of_decide_eq_true (by first | (with_reducible assumption) | assumption)
                have hx5 := bt_at (⟨#[48, 48, 48, 48, 45, 48, 48, 45, 48, 48]⟩ : ByteArray) x6_1
                replace p5 := eq_true p5
                replace q5 := eq_true q5
                go_wp2_with (first | (go_at_call 53; (with_reducible refine (words_scanner_is.calls g x1000_1 x1001_1 x1002_1 x1003_1 x1004_1 (wrap64 (a1 + x6_1)) 2 true t291 t292 t293 t294 t295 w0 _ ?side1 ?side2 ?side3 A7.out).mono ?_); (case side1 => exact HT.out); (case side2 => repeat (first | (with_reducible first | exact HI0.out | apply IsS42.alloc | apply IsS42.drewN | apply IsS42.drew | apply IsS42.set_0 | apply IsS42.set_1 | apply IsS42.set_2 | apply IsS42.set_3 | apply IsS42.set_4) | exact HI0.out)); (case side3 => repeat (first | (with_reducible first | exact HB.out | apply below_alloc | apply pw_below_drewN | apply below_drew1 | refine below_set ?_ (IsS42.ge HI0.out)) | exact HB.out)); rintro e w23 ⟨rfl, hi, hb, hk⟩; have n0_ := Aside0.mk (KeepBut.trans (by repeat (first | (with_reducible first | exact HK.out | apply KeepBut.set_ | apply keep_drewN | apply keep_drew | apply keep_alloc) | exact HK.out)) hk (.inl rfl)); have n1_ := Aside0.mk (hb); have n2_ := Aside0.mk (hi); clear HK; clear HB; clear HI0; have HK := n0_; have HB := n1_; have HI0 := n2_; clear n0_ n1_ n2_; (try clear hb); (try clear hb2); (try clear hk); (try clear hi); have p9 : 0 ≤ (x6_1 : Int) := of_decide_eq_true (by first | (with_reducible assumption) | assumption); have q9 : x6_1 < (10 : Int) := of_decide_eq_true (by first | (with_reducible assumption) | assumption); have hx9 := bt_at (⟨#[48, 48, 48, 48, 45, 48, 48, 45, 48, 48]⟩ : ByteArray) x6_1; replace p9 := eq_true p9; replace q9 := eq_true q9))
                go_roundg k1
                case measure => have := HK1.out; omega
                case rel => exact ⟨(wrap64 (x6_1 + 1)), (t291), (t292), (t293), (t294), (t295), (by first | rfl | (simp; done) | (simp [*]; done)), H', ⟨by have := HK1.out; omega⟩, ⟨by repeat (first | (with_reducible first | exact HI0.out | apply IsS42.alloc | apply IsS42.drewN | apply IsS42.drew | apply IsS42.set_0 | apply IsS42.set_1 | apply IsS42.set_2 | apply IsS42.set_3 | apply IsS42.set_4) | exact HI0.out)⟩, ⟨by repeat (first | (with_reducible first | exact HK.out | apply KeepBut.set_ | apply keep_drewN | apply keep_drew | apply keep_alloc) | exact HK.out)⟩, ⟨by repeat (first | (with_reducible first | exact HB.out | apply below_alloc | apply pw_below_drewN | apply below_drew1 | refine below_set ?_ (IsS42.ge HI0.out)) | exact HB.out)⟩⟩
            · replace c8 := Bool.eq_false_iff.mpr c8
              subst c8
              have H1 : (some (false, t291, t292, t293, t294, t295)) = some (r1, r2, r3, r4, r5, r6) := by rw [if_neg (show ¬ (false = true) by decide)] at H; exact H
              clear H
              have H := H1
              clear H1
              simp only [Option.some.injEq, Prod.mk.injEq] at H
              obtain ⟨rfl, rfl, rfl, rfl, rfl, rfl⟩ := H
              have p5 : 0 ≤ (x6_1 : Int) := of_decide_eq_true (by first | (with_reducible assumption) | assumption)
              have q5 : x6_1 < (10 : Int) := of_decide_eq_true (by first | (with_reducible assumption) | assumption)
              have hx5 := bt_at (⟨#[48, 48, 48, 48, 45, 48, 48, 45, 48, 48]⟩ : ByteArray) x6_1
              replace p5 := eq_true p5
              replace q5 := eq_true q5
              go_wp2_with (first | (go_at_call 53; (with_reducible refine (words_scanner_is.calls g x1000_1 x1001_1 x1002_1 x1003_1 x1004_1 (wrap64 (a1 + x6_1)) 2 false t291 t292 t293 t294 t295 w0 _ ?side1 ?side2 ?side3 A7.out).mono ?_); (case side1 => exact HT.out); (case side2 => repeat (first | (with_reducible first | exact HI0.out | apply IsS42.alloc | apply IsS42.drewN | apply IsS42.drew | apply IsS42.set_0 | apply IsS42.set_1 | apply IsS42.set_2 | apply IsS42.set_3 | apply IsS42.set_4) | exact HI0.out)); (case side3 => repeat (first | (with_reducible first | exact HB.out | apply below_alloc | apply pw_below_drewN | apply below_drew1 | refine below_set ?_ (IsS42.ge HI0.out)) | exact HB.out)); rintro e w24 ⟨rfl, hi, hb, hk⟩; have n0_ := Aside0.mk (KeepBut.trans (by repeat (first | (with_reducible first | exact HK.out | apply KeepBut.set_ | apply keep_drewN | apply keep_drew | apply keep_alloc) | exact HK.out)) hk (.inl rfl)); have n1_ := Aside0.mk (hb); have n2_ := Aside0.mk (hi); clear HK; clear HB; clear HI0; have HK := n0_; have HB := n1_; have HI0 := n2_; clear n0_ n1_ n2_; (try clear hb); (try clear hb2); (try clear hk); (try clear hi)))
              go_ret
              exact ⟨by first | rfl | (simp [errW_none, errW_some] <;> rfl) | (simp [*, errW_none, errW_some] <;> rfl), by repeat (first | (with_reducible first | exact HI0.out | apply IsS42.alloc | apply IsS42.drewN | apply IsS42.drew | apply IsS42.set_0 | apply IsS42.set_1 | apply IsS42.set_2 | apply IsS42.set_3 | apply IsS42.set_4) | exact HI0.out), by repeat (first | (with_reducible first | exact HB.out | apply below_alloc | apply pw_below_drewN | apply below_drew1 | refine below_set ?_ (IsS42.ge HI0.out)) | exact HB.out), by repeat (first | (with_reducible first | exact HK.out | apply KeepBut.set_ | apply keep_drewN | apply keep_drew | apply keep_alloc) | exact HK.out)⟩
          · rw [if_neg c6] at H
            have c6b0 : ((bt (⟨#[48, 48, 48, 48, 45, 48, 48, 45, 48, 48]⟩ : ByteArray) x6_1) == 48) = false := beq_eq_false_iff_ne.mpr c6
            have c6b1 : ((bt (⟨#[48, 48, 48, 48, 45, 48, 48, 45, 48, 48]⟩ : ByteArray) x6_1) != 48) = true := bne_iff_ne.mpr c6
            by_cases c26 : (bt (⟨#[48, 48, 48, 48, 45, 48, 48, 45, 48, 48]⟩ : ByteArray) x6_1) = 45
            · rw [if_pos c26] at H
              have c26b0 : ((bt (⟨#[48, 48, 48, 48, 45, 48, 48, 45, 48, 48]⟩ : ByteArray) x6_1) == 45) = true := beq_iff_eq.mpr c26
              have c26b1 : ((bt (⟨#[48, 48, 48, 48, 45, 48, 48, 45, 48, 48]⟩ : ByteArray) x6_1) != 45) = false := bne_eq_false_iff_eq.mpr c26
              clear c26
              by_cases c27 : (wrap64 (a1 + x6_1)) ≥ (x1000_1.size : Int)
              · rw [if_pos c27] at H
                have c27b0 : decide ((x1000_1.size : Int) ≤ (wrap64 (a1 + x6_1))) = true := decide_eq_true c27
                clear c27
                simp only [Option.some.injEq, Prod.mk.injEq] at H
                obtain ⟨rfl, rfl, rfl, rfl, rfl, rfl⟩ := H
                have p5 : 0 ≤ (x6_1 : Int) := of_decide_eq_true (by first | (with_reducible assumption) | assumption)
                have q5 : x6_1 < (10 : Int) := of_decide_eq_true (by first | (with_reducible assumption) | assumption)
                have hx5 := bt_at (⟨#[48, 48, 48, 48, 45, 48, 48, 45, 48, 48]⟩ : ByteArray) x6_1
                replace p5 := eq_true p5
                replace q5 := eq_true q5
                have p25 : 0 ≤ (x6_1 : Int) := of_decide_eq_true (by first | (with_reducible assumption) | assumption)
                have q25 : x6_1 < (10 : Int) := of_decide_eq_true (by first | (with_reducible assumption) | assumption)
                have hx25 := bt_at (⟨#[48, 48, 48, 48, 45, 48, 48, 45, 48, 48]⟩ : ByteArray) x6_1
                replace p25 := eq_true p25
                replace q25 := eq_true q25
                obtain ⟨HGz28, hgz28⟩ := HI0.out
                have hcz28_0 := cellS42_0 HGz28
                have hcz28_1 := cellS42_1 HGz28
                have hcz28_2 := cellS42_2 HGz28
                have hcz28_3 := cellS42_3 HGz28
                have hcz28_4 := cellS42_4 HGz28
                have hfz28_0 := blk_frozen HGz28 0
                have hfz28_1 := blk_frozen HGz28 1
                have hfz28_2 := blk_frozen HGz28 2
                have hfz28_3 := blk_frozen HGz28 3
                have hfz28_4 := blk_frozen HGz28 4
                clear HGz28 hgz28
                go_wp2
                go_ret
                exact ⟨by first | rfl | (simp [errW_none, errW_some] <;> rfl) | (simp [*, errW_none, errW_some] <;> rfl), by repeat (first | (with_reducible first | exact HI0.out | apply IsS42.alloc | apply IsS42.drewN | apply IsS42.drew | apply IsS42.set_0 | apply IsS42.set_1 | apply IsS42.set_2 | apply IsS42.set_3 | apply IsS42.set_4) | exact HI0.out), by repeat (first | (with_reducible first | exact HB.out | apply below_alloc | apply pw_below_drewN | apply below_drew1 | refine below_set ?_ (IsS42.ge HI0.out)) | exact HB.out), by repeat (first | (with_reducible first | exact HK.out | apply KeepBut.set_ | apply keep_drewN | apply keep_drew | apply keep_alloc) | exact HK.out)⟩
              · rw [if_neg c27] at H
                have c27b0 : decide ((x1000_1.size : Int) ≤ (wrap64 (a1 + x6_1))) = false := decide_eq_false c27
                clear c27
                obtain ⟨ji29, hji29⟩ : ∃ j_ : Int, (wrap64 (a1 + x6_1)) = j_ := ⟨_, rfl⟩
                replace H : (if 0 ≤ (ji29) then (if (ji29) < (x1000_1.size : Int) then (if (bt x1000_1 (ji29)) = 45 then (words_scanner_dated.l0 k1 a1 (wrap64 (x6_1 + 1)) x1000_1 x1001_1 x1002_1 x1003_1 x1004_1) else (some (false, x1000_1, x1001_1, x1002_1, x1003_1, x1004_1))) else (none)) else (none)) = some (r1, r2, r3, r4, r5, r6) := by first | (rw [hji29] at H; exact H) | (simp only [hji29] at H ⊢; exact H)
                (try rw [hji29] at c27b0)
                have hji29w : (IntKind.i64.wrap (a1 + x6_1)) = ji29 := (i64_w _).trans hji29
                by_cases c30 : 0 ≤ (ji29)
                · rw [if_pos c30] at H
                  have c30b0 : decide (0 ≤ (ji29)) = true := decide_eq_true c30
                  clear c30
                  by_cases c31 : (ji29) < (x1000_1.size : Int)
                  · rw [if_pos c31] at H
                    have c31b0 : decide ((ji29) < (x1000_1.size : Int)) = true := decide_eq_true c31
                    clear c31
                    by_cases c33 : (bt x1000_1 (ji29)) = 45
                    · rw [if_pos c33] at H
                      have c33b0 : ((bt x1000_1 (ji29)) == 45) = true := beq_iff_eq.mpr c33
                      have c33b1 : ((bt x1000_1 (ji29)) != 45) = false := bne_eq_false_iff_eq.mpr c33
                      clear c33
                      have H' := Aside0.mk H
                      clear H
                      have p5 : 0 ≤ (x6_1 : Int) := of_decide_eq_true (by first | (with_reducible assumption) | assumption)
                      have q5 : x6_1 < (10 : Int) := of_decide_eq_true (by first | (with_reducible assumption) | assumption)
                      have hx5 := bt_at (⟨#[48, 48, 48, 48, 45, 48, 48, 45, 48, 48]⟩ : ByteArray) x6_1
                      replace p5 := eq_true p5
                      replace q5 := eq_true q5
                      have p25 : 0 ≤ (x6_1 : Int) := of_decide_eq_true (by first | (with_reducible assumption) | assumption)
                      have q25 : x6_1 < (10 : Int) := of_decide_eq_true (by first | (with_reducible assumption) | assumption)
                      have hx25 := bt_at (⟨#[48, 48, 48, 48, 45, 48, 48, 45, 48, 48]⟩ : ByteArray) x6_1
                      replace p25 := eq_true p25
                      replace q25 := eq_true q25
                      obtain ⟨HGz34, hgz34⟩ := HI0.out
                      have hcz34_0 := cellS42_0 HGz34
                      have hcz34_1 := cellS42_1 HGz34
                      have hcz34_2 := cellS42_2 HGz34
                      have hcz34_3 := cellS42_3 HGz34
                      have hcz34_4 := cellS42_4 HGz34
                      have hfz34_0 := blk_frozen HGz34 0
                      have hfz34_1 := blk_frozen HGz34 1
                      have hfz34_2 := blk_frozen HGz34 2
                      have hfz34_3 := blk_frozen HGz34 3
                      have hfz34_4 := blk_frozen HGz34 4
                      clear HGz34 hgz34
                      have p32 : 0 ≤ ((ji29) : Int) := of_decide_eq_true (by first | (with_reducible assumption) | assumption)
                      have q32 : (ji29) < (x1000_1.size : Int) := of_decide_eq_true (by first | (with_reducible assumption) | assumption)
                      have hx32 := bt_at x1000_1 (ji29)
                      replace p32 := eq_true p32
                      replace q32 := eq_true q32
                      go_wp2
                      go_roundg k1
                      case measure => have := HK1.out; omega
                      case rel => exact ⟨(wrap64 (x6_1 + 1)), (x1000_1), (x1001_1), (x1002_1), (x1003_1), (x1004_1), (by first | rfl | (simp; done) | (simp [*]; done)), H', ⟨by have := HK1.out; omega⟩, ⟨by repeat (first | (with_reducible first | exact HI0.out | apply IsS42.alloc | apply IsS42.drewN | apply IsS42.drew | apply IsS42.set_0 | apply IsS42.set_1 | apply IsS42.set_2 | apply IsS42.set_3 | apply IsS42.set_4) | exact HI0.out)⟩, ⟨by repeat (first | (with_reducible first | exact HK.out | apply KeepBut.set_ | apply keep_drewN | apply keep_drew | apply keep_alloc) | exact HK.out)⟩, ⟨by repeat (first | (with_reducible first | exact HB.out | apply below_alloc | apply pw_below_drewN | apply below_drew1 | refine below_set ?_ (IsS42.ge HI0.out)) | exact HB.out)⟩⟩
                    · rw [if_neg c33] at H
                      have c33b0 : ((bt x1000_1 (ji29)) == 45) = false := beq_eq_false_iff_ne.mpr c33
                      have c33b1 : ((bt x1000_1 (ji29)) != 45) = true := bne_iff_ne.mpr c33
                      simp only [Option.some.injEq, Prod.mk.injEq] at H
                      obtain ⟨rfl, rfl, rfl, rfl, rfl, rfl⟩ := H
                      have p5 : 0 ≤ (x6_1 : Int) := of_decide_eq_true (by first | (with_reducible assumption) | assumption)
                      have q5 : x6_1 < (10 : Int) := of_decide_eq_true (by first | (with_reducible assumption) | assumption)
                      have hx5 := bt_at (⟨#[48, 48, 48, 48, 45, 48, 48, 45, 48, 48]⟩ : ByteArray) x6_1
                      replace p5 := eq_true p5
                      replace q5 := eq_true q5
                      have p25 : 0 ≤ (x6_1 : Int) := of_decide_eq_true (by first | (with_reducible assumption) | assumption)
                      have q25 : x6_1 < (10 : Int) := of_decide_eq_true (by first | (with_reducible assumption) | assumption)
                      have hx25 := bt_at (⟨#[48, 48, 48, 48, 45, 48, 48, 45, 48, 48]⟩ : ByteArray) x6_1
                      replace p25 := eq_true p25
                      replace q25 := eq_true q25
                      obtain ⟨HGz35, hgz35⟩ := HI0.out
                      have hcz35_0 := cellS42_0 HGz35
                      have hcz35_1 := cellS42_1 HGz35
                      have hcz35_2 := cellS42_2 HGz35
                      have hcz35_3 := cellS42_3 HGz35
                      have hcz35_4 := cellS42_4 HGz35
                      have hfz35_0 := blk_frozen HGz35 0
                      have hfz35_1 := blk_frozen HGz35 1
                      have hfz35_2 := blk_frozen HGz35 2
                      have hfz35_3 := blk_frozen HGz35 3
                      have hfz35_4 := blk_frozen HGz35 4
                      clear HGz35 hgz35
                      have p32 : 0 ≤ ((ji29) : Int) := of_decide_eq_true (by first | (with_reducible assumption) | assumption)
                      have q32 : (ji29) < (x1000_1.size : Int) := of_decide_eq_true (by first | (with_reducible assumption) | assumption)
                      have hx32 := bt_at x1000_1 (ji29)
                      replace p32 := eq_true p32
                      replace q32 := eq_true q32
                      go_wp2
                      go_ret
                      exact ⟨by first | rfl | (simp [errW_none, errW_some] <;> rfl) | (simp only [← hji29]; first | rfl | (simp [errW_none, errW_some] <;> rfl)) | (simp [*, errW_none, errW_some] <;> rfl), by repeat (first | (with_reducible first | exact HI0.out | apply IsS42.alloc | apply IsS42.drewN | apply IsS42.drew | apply IsS42.set_0 | apply IsS42.set_1 | apply IsS42.set_2 | apply IsS42.set_3 | apply IsS42.set_4) | exact HI0.out), by repeat (first | (with_reducible first | exact HB.out | apply below_alloc | apply pw_below_drewN | apply below_drew1 | refine below_set ?_ (IsS42.ge HI0.out)) | exact HB.out), by repeat (first | (with_reducible first | exact HK.out | apply KeepBut.set_ | apply keep_drewN | apply keep_drew | apply keep_alloc) | exact HK.out)⟩
                  · rw [if_neg c31] at H
                    exact absurd H (by simp)
                · rw [if_neg c30] at H
                  exact absurd H (by simp)
            · rw [if_neg c26] at H
              have c26b0 : ((bt (⟨#[48, 48, 48, 48, 45, 48, 48, 45, 48, 48]⟩ : ByteArray) x6_1) == 45) = false := beq_eq_false_iff_ne.mpr c26
              have c26b1 : ((bt (⟨#[48, 48, 48, 48, 45, 48, 48, 45, 48, 48]⟩ : ByteArray) x6_1) != 45) = true := bne_iff_ne.mpr c26
              have H' := Aside0.mk H
              clear H
              have p5 : 0 ≤ (x6_1 : Int) := of_decide_eq_true (by first | (with_reducible assumption) | assumption)
              have q5 : x6_1 < (10 : Int) := of_decide_eq_true (by first | (with_reducible assumption) | assumption)
              have hx5 := bt_at (⟨#[48, 48, 48, 48, 45, 48, 48, 45, 48, 48]⟩ : ByteArray) x6_1
              replace p5 := eq_true p5
              replace q5 := eq_true q5
              have p25 : 0 ≤ (x6_1 : Int) := of_decide_eq_true (by first | (with_reducible assumption) | assumption)
              have q25 : x6_1 < (10 : Int) := of_decide_eq_true (by first | (with_reducible assumption) | assumption)
              have hx25 := bt_at (⟨#[48, 48, 48, 48, 45, 48, 48, 45, 48, 48]⟩ : ByteArray) x6_1
              replace p25 := eq_true p25
              replace q25 := eq_true q25
              go_wp2
              go_roundg k1
              case measure => have := HK1.out; omega
              case rel => exact ⟨(wrap64 (x6_1 + 1)), (x1000_1), (x1001_1), (x1002_1), (x1003_1), (x1004_1), (by first | rfl | (simp; done) | (simp [*]; done)), H', ⟨by have := HK1.out; omega⟩, ⟨by repeat (first | (with_reducible first | exact HI0.out | apply IsS42.alloc | apply IsS42.drewN | apply IsS42.drew | apply IsS42.set_0 | apply IsS42.set_1 | apply IsS42.set_2 | apply IsS42.set_3 | apply IsS42.set_4) | exact HI0.out)⟩, ⟨by repeat (first | (with_reducible first | exact HK.out | apply KeepBut.set_ | apply keep_drewN | apply keep_drew | apply keep_alloc) | exact HK.out)⟩, ⟨by repeat (first | (with_reducible first | exact HB.out | apply below_alloc | apply pw_below_drewN | apply below_drew1 | refine below_set ?_ (IsS42.ge HI0.out)) | exact HB.out)⟩⟩
        · rw [if_neg c4] at H
          exact absurd H (by simp)
      · rw [if_neg c3] at H
        have c3b0 : decide (x6_1 < 10) = false := decide_eq_false c3
        clear c3
        simp only [Option.some.injEq, Prod.mk.injEq] at H
        obtain ⟨rfl, rfl, rfl, rfl, rfl, rfl⟩ := H
        go_wp2
        go_ret
        exact ⟨by first | rfl | (simp [errW_none, errW_some] <;> rfl) | (simp [*, errW_none, errW_some] <;> rfl), by repeat (first | (with_reducible first | exact HI0.out | apply IsS42.alloc | apply IsS42.drewN | apply IsS42.drew | apply IsS42.set_0 | apply IsS42.set_1 | apply IsS42.set_2 | apply IsS42.set_3 | apply IsS42.set_4) | exact HI0.out), by repeat (first | (with_reducible first | exact HB.out | apply below_alloc | apply pw_below_drewN | apply below_drew1 | refine below_set ?_ (IsS42.ge HI0.out)) | exact HB.out), by repeat (first | (with_reducible first | exact HK.out | apply KeepBut.set_ | apply keep_drewN | apply keep_drew | apply keep_alloc) | exact HK.out)⟩

end Go.Proofs.YtgcgpeeokdnplaaDoor.PA
end
section
/- The Go functions of this seat that the laws of part A come to, each as a plain Lean function ('f', its loops 'l0' ..) with a proof that the call comes to its answer. Conditions: where a function comes to a package-level table, the world holds that table ('Tabs'). Written by a program of this session (a changed copy of the print). -/
namespace Go.Proofs.YtgcgpeeokdnplaaDoor.PA
open Go.RowKit Go.Proofs.YtgcgpeeokdnplaaDoorW.PrintWords Go.Proofs.YtgcgpeeokdnplaaDoorW.PrintLast Go.Proofs.YtgcgpeeokdnplaaDoorW.PrintMore
attribute [local go_sem] max2_int min2_int max_two min_two max_three min_three max_four min_four   -- for this text's walks alone
set_option linter.unusedVariables false
set_option linter.unusedSimpArgs false

theorem eqA30 (d : Nat) (w : World) (x0 y0 : Int) (x1 y1 : Int) (x2 y2 : ByteArray) (x3 y3 : Int) (x4 y4 : Int) :
    (Op.equalIn (d + 2) 30 (.agg #[.int .i64 x0, .int .i64 x1, .string x2, .int .i64 x3, .int .i64 x4]) (.agg #[.int .i64 y0, .int .i64 y1, .string y2, .int .i64 y3, .int .i64 y4])).run Tryd.prog w = .ok (x0 == y0 && (x1 == y1 && (x2.toList == y2.toList && (x3 == y3 && (x4 == y4))))) w := by
  refine eqA_of Tryd.underlying30 (by kernel_rfl) ?_
  refine eqf_cons (by rfl) (by go_simp; rfl) (by go_simp; rfl) (by go_simp) ?_
  refine eqf_cons (by rfl) (by go_simp; rfl) (by go_simp; rfl) (by go_simp) ?_
  refine eqf_cons (by rfl) (by go_simp; rfl) (by go_simp; rfl) (by go_simp) ?_
  refine eqf_cons (by rfl) (by go_simp; rfl) (by go_simp; rfl) (by go_simp) ?_
  exact eqf_last (by rfl) (by go_simp; rfl) (by go_simp; rfl) (by go_simp)
end Go.Proofs.YtgcgpeeokdnplaaDoor.PA
end
section
/- The Go functions of this seat that the laws of part A come to, each as a plain Lean function ('f', its loops 'l0' ..) with a proof that the call comes to its answer. Conditions: where a function comes to a package-level table, the world holds that table ('Tabs'). Written by a program of this session (a changed copy of the print). -/
namespace Go.Proofs.YtgcgpeeokdnplaaDoor.PA
open Go.RowKit Go.Proofs.YtgcgpeeokdnplaaDoorW.PrintWords Go.Proofs.YtgcgpeeokdnplaaDoorW.PrintLast Go.Proofs.YtgcgpeeokdnplaaDoorW.PrintMore
attribute [local go_sem] max2_int min2_int max_two min_two max_three min_three max_four min_four   -- for this text's walks alone
set_option linter.unusedVariables false
set_option linter.unusedSimpArgs false

attribute [local go_sem high] eqA30
/-! ### levylaw4_same: function 12 -/
def levylaw4_same.l0 : Nat → List (S30) → List (S30) → Int → Option (Bool)
  | 0, _, _, _ => none
  | k + 1, x0, x1, x5 => if x5 < (x0.length : Int) then (if 0 ≤ x5 then (if x5 < (x1.length : Int) then (if (!(((rd_T30 x0 x5).f0) == ((rd_T30 x1 x5).f0)) || (!(((rd_T30 x0 x5).f1) == ((rd_T30 x1 x5).f1)) || (!((((rd_T30 x0 x5).f2).toList) == (((rd_T30 x1 x5).f2).toList)) || (!(((rd_T30 x0 x5).f3) == ((rd_T30 x1 x5).f3)) || (!(((rd_T30 x0 x5).f4) == ((rd_T30 x1 x5).f4))))))) = true then (some false) else (levylaw4_same.l0 k x0 x1 (wrap64 (x5 + 1)))) else (none)) else (none)) else (some true)
def levylaw4_same.f (k : Nat) (l0 : List (S30)) (l1 : List (S30)) : Option (Bool) := if (l0.length : Int) = (l1.length : Int) then (levylaw4_same.l0 k l0 l1 0) else (some false)
theorem levylaw4_same.mono_l : ∀ k, (∀ y0 y1 y2, LeO (levylaw4_same.l0 k y0 y1 y2) (levylaw4_same.l0 (k + 1) y0 y1 y2))
  | 0 => fun _ _ _ r h => by simp [levylaw4_same.l0] at h
  | k + 1 => by
    have ih0 := levylaw4_same.mono_l k
    · intro y0 y1 y2
      unfold levylaw4_same.l0
      repeat' first
      | (with_reducible exact ih0 _ _ _)
      | (with_reducible exact LeO.refl _)
      | (with_reducible exact LeO.none _)
      | (with_reducible refine LeO.ite ?_ ?_)
      | (with_reducible refine LeO.bind ?_ (fun _ => ?_))
      | exact ih0 _ _ _
      | exact LeO.none _
      | refine LeO.ite ?_ ?_
      | refine LeO.bind ?_ (fun _ => ?_)
theorem levylaw4_same.mono : ∀ a0 a1 k, LeO (levylaw4_same.f k a0 a1) (levylaw4_same.f (k + 1) a0 a1) := by
  intro a0 a1 k
  have ih0 := levylaw4_same.mono_l k
  unfold levylaw4_same.f
  repeat' first
      | (with_reducible exact ih0 _ _ _)
      | (with_reducible exact LeO.refl _)
      | (with_reducible exact LeO.none _)
      | (with_reducible refine LeO.ite ?_ ?_)
      | (with_reducible refine LeO.bind ?_ (fun _ => ?_))
      | exact ih0 _ _ _
      | exact LeO.none _
      | refine LeO.ite ?_ ?_
      | refine LeO.bind ?_ (fun _ => ?_)
set_option maxHeartbeats 8000000 in
set_option maxRecDepth 100000 in
theorem levylaw4_same.calls (k : Nat) (A0 : Option Addr) (c0 : Nat) (l0 : List (S30)) (A1 : Option Addr) (c1 : Nat) (l1 : List (S30)) (r : Bool) (w : World) (hr0 : Kd.C k30 w A0 l0.length l0) (hc0 : l0.length ≤ c0) (hr1 : Kd.C k30 w A1 l1.length l1) (hc1 : l1.length ≤ c1) (h : levylaw4_same.f k l0 l1 = some r) :
    Calls Tryd.prog 12 #[.slice A0 l0.length c0, .slice A1 l1.length c1] w fun e w' => e = .returned (.bool r) ∧ Drawn0 w w' := by
  have hu30 := Tryd.underlying30
  have HR0 := Aside0.mk hr0
  have HC0 := Aside0.mk hc0
  clear hr0 hc0
  have HR1 := Aside0.mk hr1
  have HC1 := Aside0.mk hc1
  clear hr1 hc1
  have H : (if (l0.length : Int) = (l1.length : Int) then (levylaw4_same.l0 k l0 l1 0) else (some false)) = some r := h
  clear h
  by_cases c3 : (l0.length : Int) = (l1.length : Int)
  · rw [if_pos c3] at H
    have c3b0 : ((l0.length : Int) == (l1.length : Int)) = true := beq_iff_eq.mpr c3
    have c3b1 : ((l0.length : Int) != (l1.length : Int)) = false := bne_eq_false_iff_eq.mpr c3
    have c3b2 : (l0.length == l1.length) = true := by first | simpa using c3 | (simp at c3 ⊢; omega)
    clear c3
    have H' := Aside0.mk H
    clear H
    go_enter Tryd.func12, Tryd.ntmps12
    go_wp2
    repeat (go_quiet (fail); try go_wp2)
    go_loopg [5] k (fun kq v5 w' => ∃ (x5_1 : Int), v5 = .int .i64 x5_1 ∧ Aside0 (levylaw4_same.l0 kq l0 l1 x5_1 = some r) ∧ Aside0 (kq ≤ k) ∧ Drawn0 w w')
    case atStart => exact ⟨(0), (by first | rfl | (simp; done) | (simp [*]; done)), H', ⟨Nat.le_refl _⟩, by repeat (first | exact Drawn0.refl _ | apply Drawn0.step)⟩
    case round =>
      clear H'
      try clear c1
      try clear p2
      try clear c3
      try clear c3b0
      try clear c3b1
      try clear c3b2
      obtain ⟨x5_1, rfl, HA, HK1, ⟨m1, rfl⟩⟩ := hrel
      cases gk with
      | zero => exact absurd HA.out (by simp [levylaw4_same.l0])
      | succ k1 =>
        have H := HA.out
        clear HA
        simp only [levylaw4_same.l0] at H
        by_cases c4 : x5_1 < (l0.length : Int)
        · rw [if_pos c4] at H
          have c4b0 : decide (x5_1 < (l0.length : Int)) = true := decide_eq_true c4
          clear c4
          by_cases c5 : 0 ≤ x5_1
          · rw [if_pos c5] at H
            have c5b0 : decide (0 ≤ x5_1) = true := decide_eq_true c5
            clear c5
            by_cases c6 : x5_1 < (l1.length : Int)
            · rw [if_pos c6] at H
              have c6b0 : decide (x5_1 < (l1.length : Int)) = true := decide_eq_true c6
              clear c6
              by_cases c7 : (!(((rd_T30 l0 x5_1).f0) == ((rd_T30 l1 x5_1).f0)) || (!(((rd_T30 l0 x5_1).f1) == ((rd_T30 l1 x5_1).f1)) || (!((((rd_T30 l0 x5_1).f2).toList) == (((rd_T30 l1 x5_1).f2).toList)) || (!(((rd_T30 l0 x5_1).f3) == ((rd_T30 l1 x5_1).f3)) || (!(((rd_T30 l0 x5_1).f4) == ((rd_T30 l1 x5_1).f4))))))) = true
              · rw [if_pos c7] at H
                have c7b0 : (!(((rd_T30 l0 x5_1).f0) == ((rd_T30 l1 x5_1).f0)) || (!(((rd_T30 l0 x5_1).f1) == ((rd_T30 l1 x5_1).f1)) || (!((((rd_T30 l0 x5_1).f2).toList) == (((rd_T30 l1 x5_1).f2).toList)) || (!(((rd_T30 l0 x5_1).f3) == ((rd_T30 l1 x5_1).f3)) || (!(((rd_T30 l0 x5_1).f4) == ((rd_T30 l1 x5_1).f4))))))) = true := c7
                clear c7
                obtain rfl := Option.some.inj H
                have p101 : 0 ≤ (x5_1 : Int) := of_decide_eq_true (by first | (with_reducible assumption) | assumption)
                have q101 : x5_1 < (l0.length : Int) := of_decide_eq_true (by first | (with_reducible assumption) | assumption)
                obtain ⟨ad101, e101, hx101_0, hx101_1, hx101_2, hx101_3, hx101_4⟩ := at_T30 HR0.out x5_1 p101 q101
                cases e101
                replace p101 := eq_true p101
                replace q101 := eq_true q101
                have p102 : 0 ≤ (x5_1 : Int) := of_decide_eq_true (by first | (with_reducible assumption) | assumption)
                have q102 : x5_1 < (l1.length : Int) := of_decide_eq_true (by first | (with_reducible assumption) | assumption)
                obtain ⟨ad102, e102, hx102_0, hx102_1, hx102_2, hx102_3, hx102_4⟩ := at_T30 HR1.out x5_1 p102 q102
                cases e102
                replace p102 := eq_true p102
                replace q102 := eq_true q102
                go_wp2
                repeat (go_quiet (fail); try go_wp2)
                go_ret
                exact ⟨by first | rfl | (simp; done) | (simp [*]; done), by repeat (first | exact Drawn0.refl _ | apply Drawn0.step)⟩
              · rw [if_neg c7] at H
                have c7b0 : (!(((rd_T30 l0 x5_1).f0) == ((rd_T30 l1 x5_1).f0)) || (!(((rd_T30 l0 x5_1).f1) == ((rd_T30 l1 x5_1).f1)) || (!((((rd_T30 l0 x5_1).f2).toList) == (((rd_T30 l1 x5_1).f2).toList)) || (!(((rd_T30 l0 x5_1).f3) == ((rd_T30 l1 x5_1).f3)) || (!(((rd_T30 l0 x5_1).f4) == ((rd_T30 l1 x5_1).f4))))))) = false := by simpa using c7
                clear c7
                have H' := Aside0.mk H
                clear H
                have p101 : 0 ≤ (x5_1 : Int) := of_decide_eq_true (by first | (with_reducible assumption) | assumption)
                have q101 : x5_1 < (l0.length : Int) := of_decide_eq_true (by first | (with_reducible assumption) | assumption)
                obtain ⟨ad101, e101, hx101_0, hx101_1, hx101_2, hx101_3, hx101_4⟩ := at_T30 HR0.out x5_1 p101 q101
                cases e101
                replace p101 := eq_true p101
                replace q101 := eq_true q101
                have p102 : 0 ≤ (x5_1 : Int) := of_decide_eq_true (by first | (with_reducible assumption) | assumption)
                have q102 : x5_1 < (l1.length : Int) := of_decide_eq_true (by first | (with_reducible assumption) | assumption)
                obtain ⟨ad102, e102, hx102_0, hx102_1, hx102_2, hx102_3, hx102_4⟩ := at_T30 HR1.out x5_1 p102 q102
                cases e102
                replace p102 := eq_true p102
                replace q102 := eq_true q102
                go_wp2
                repeat (go_quiet (fail); try go_wp2)
                go_roundg k1
                case measure => have := HK1.out; omega
                case rel => exact ⟨(wrap64 (x5_1 + 1)), (by first | rfl | (simp; done) | (simp [*]; done)), H', ⟨by have := HK1.out; omega⟩, by repeat (first | exact Drawn0.refl _ | apply Drawn0.step)⟩
            · rw [if_neg c6] at H
              exact absurd H (by simp)
          · rw [if_neg c5] at H
            exact absurd H (by simp)
        · rw [if_neg c4] at H
          have c4b0 : decide (x5_1 < (l0.length : Int)) = false := decide_eq_false c4
          clear c4
          obtain rfl := Option.some.inj H
          go_wp2
          repeat (go_quiet (fail); try go_wp2)
          go_ret
          exact ⟨by first | rfl | (simp; done) | (simp [*]; done), by repeat (first | exact Drawn0.refl _ | apply Drawn0.step)⟩
  · rw [if_neg c3] at H
    have c3b0 : ((l0.length : Int) == (l1.length : Int)) = false := beq_eq_false_iff_ne.mpr c3
    have c3b1 : ((l0.length : Int) != (l1.length : Int)) = true := bne_iff_ne.mpr c3
    have c3b2 : (l0.length == l1.length) = false := by first | simpa using c3 | (simp at c3 ⊢; omega)
    obtain rfl := Option.some.inj H
    go_enter Tryd.func12, Tryd.ntmps12
    go_wp2
    repeat (go_quiet (fail); try go_wp2)
    go_ret
    exact ⟨by first | rfl | (simp; done) | (simp [*]; done), by repeat (first | exact Drawn0.refl _ | apply Drawn0.step)⟩

end Go.Proofs.YtgcgpeeokdnplaaDoor.PA
end
section
/- The Go functions of this seat that the laws of part A come to, each as a plain Lean function ('f', its loops 'l0' ..) with a proof that the call comes to its answer. Conditions: where a function comes to a package-level table, the world holds that table ('Tabs'). Written by a program of this session (a changed copy of the print). -/
namespace Go.Proofs.YtgcgpeeokdnplaaDoor.PA
open Go.RowKit Go.Proofs.YtgcgpeeokdnplaaDoorW.PrintWords Go.Proofs.YtgcgpeeokdnplaaDoorW.PrintLast Go.Proofs.YtgcgpeeokdnplaaDoorW.PrintMore
attribute [local go_sem] max2_int min2_int max_two min_two max_three min_three max_four min_four   -- for this text's walks alone
set_option linter.unusedVariables false
set_option linter.unusedSimpArgs false

-- by hand: function 7 (words_Scan)

/-! ### levylaw4_num: function 9 -/
def levylaw4_num.f (a0 : Int) : Option (Int) := some a0
set_option maxHeartbeats 8000000 in
set_option maxRecDepth 100000 in
theorem levylaw4_num.calls (a0 : Int) (r : Int) (w : World) (h : levylaw4_num.f a0 = some r) :
    Calls Tryd.prog 9 #[.int .i64 a0] w fun e w' => e = .returned (.int .i64 r) ∧ Drawn0 w w' := by
  have H : (some a0) = some r := h
  clear h
  obtain rfl := Option.some.inj H
  go_enter Tryd.func9, Tryd.ntmps9
  go_wp2
  go_ret
  exact ⟨by first | rfl | (simp; done) | (simp [*]; done), by repeat (first | exact Drawn0.refl _ | apply Drawn0.step)⟩

end Go.Proofs.YtgcgpeeokdnplaaDoor.PA
end
section
/- The Go functions of this seat that the laws of part A come to, each as a plain Lean function ('f', its loops 'l0' ..) with a proof that the call comes to its answer. Conditions: where a function comes to a package-level table, the world holds that table ('Tabs'). Written by a program of this session (a changed copy of the print). -/
namespace Go.Proofs.YtgcgpeeokdnplaaDoor.PA
open Go.RowKit Go.Proofs.YtgcgpeeokdnplaaDoorW.PrintWords Go.Proofs.YtgcgpeeokdnplaaDoorW.PrintLast Go.Proofs.YtgcgpeeokdnplaaDoorW.PrintMore
attribute [local go_sem] max2_int min2_int max_two min_two max_three min_three max_four min_four   -- for this text's walks alone
set_option linter.unusedVariables false
set_option linter.unusedSimpArgs false

/-! ### words_Quote: function 33 -/
mutual
def words_Quote.l0 : Nat → ByteArray → List Int → Int → Int → Option (ByteArray × Bool)
  | 0, _, _, _, _ => none
  | k + 1, x0, x4, x12, x13 => if x13 < x12 then (if 0 ≤ x13 then (if x13 < (x0.size : Int) then (if (bt x0 x13) < 32 then (words_Quote.j1 k x0 x4 x13 (bt x0 x13) x12 x13 true) else (words_Quote.j1 k x0 x4 x13 (bt x0 x13) x12 x13 (decide ((bt x0 x13) > 126)))) else (none)) else (none)) else (if x4.length < 140737488355328 then (some (strOfNums (x4 ++ [34]), true)) else (none))
def words_Quote.j1 : Nat → ByteArray → List Int → Int → Int → Int → Int → Bool → Option (ByteArray × Bool)
  | 0, _, _, _, _, _, _, _ => none
  | k + 1, x0, x4, x5, x6, x12, x13, x19 => if x19 = true then (some ((⟨#[]⟩ : ByteArray), false)) else (if x6 = 34 then (if x4.length < 140737488355328 then ((some (x4 ++ [92] : List Int)).bind fun y192 => (if 0 ≤ x5 then (if x5 < (x0.size : Int) then (if y192.length < 140737488355328 then (words_Quote.l0 k x0 (y192 ++ [bt x0 x5]) x12 (wrap64 (x13 + 1))) else (none)) else (none)) else (none))) else (none)) else (if x6 = 92 then (if x4.length < 140737488355328 then ((some (x4 ++ [92] : List Int)).bind fun y198 => (if 0 ≤ x5 then (if x5 < (x0.size : Int) then (if y198.length < 140737488355328 then (words_Quote.l0 k x0 (y198 ++ [bt x0 x5]) x12 (wrap64 (x13 + 1))) else (none)) else (none)) else (none))) else (none)) else (if 0 ≤ x5 then (if x5 < (x0.size : Int) then (if x4.length < 140737488355328 then (words_Quote.l0 k x0 (x4 ++ [bt x0 x5]) x12 (wrap64 (x13 + 1))) else (none)) else (none)) else (none))))
end
def words_Quote.f (k : Nat) (a0 : ByteArray) : Option (ByteArray × Bool) := if (a0.size : Int) > 40 then (some ((⟨#[]⟩ : ByteArray), false)) else (words_Quote.l0 k a0 (([34] : List Int)) (a0.size : Int) 0)
theorem words_Quote.mono_l : ∀ k, (∀ y0 y1 y2 y3, LeO (words_Quote.l0 k y0 y1 y2 y3) (words_Quote.l0 (k + 1) y0 y1 y2 y3)) ∧ (∀ y0 y1 y2 y3 y4 y5 y6, LeO (words_Quote.j1 k y0 y1 y2 y3 y4 y5 y6) (words_Quote.j1 (k + 1) y0 y1 y2 y3 y4 y5 y6))
  | 0 => ⟨fun _ _ _ _ r h => by simp [words_Quote.l0] at h, fun _ _ _ _ _ _ _ r h => by simp [words_Quote.j1] at h⟩
  | k + 1 => by
    obtain ⟨ih0, ih1⟩ := words_Quote.mono_l k
    refine ⟨?_, ?_⟩
    · intro y0 y1 y2 y3
      unfold words_Quote.l0
      repeat' first
      | (with_reducible exact ih0 _ _ _ _)
      | (with_reducible exact ih1 _ _ _ _ _ _ _)
      | (with_reducible exact LeO.refl _)
      | (with_reducible exact LeO.none _)
      | (with_reducible refine LeO.ite ?_ ?_)
      | (with_reducible refine LeO.bind ?_ (fun _ => ?_))
      | exact ih0 _ _ _ _
      | exact ih1 _ _ _ _ _ _ _
      | exact LeO.none _
      | refine LeO.ite ?_ ?_
      | refine LeO.bind ?_ (fun _ => ?_)
    · intro y0 y1 y2 y3 y4 y5 y6
      unfold words_Quote.j1
      repeat' first
      | (with_reducible exact ih0 _ _ _ _)
      | (with_reducible exact ih1 _ _ _ _ _ _ _)
      | (with_reducible exact LeO.refl _)
      | (with_reducible exact LeO.none _)
      | (with_reducible refine LeO.ite ?_ ?_)
      | (with_reducible refine LeO.bind ?_ (fun _ => ?_))
      | exact ih0 _ _ _ _
      | exact ih1 _ _ _ _ _ _ _
      | exact LeO.none _
      | refine LeO.ite ?_ ?_
      | refine LeO.bind ?_ (fun _ => ?_)
theorem words_Quote.mono : ∀ a0 k, LeO (words_Quote.f k a0) (words_Quote.f (k + 1) a0) := by
  intro a0 k
  obtain ⟨ih0, ih1⟩ := words_Quote.mono_l k
  unfold words_Quote.f
  repeat' first
      | (with_reducible exact ih0 _ _ _ _)
      | (with_reducible exact ih1 _ _ _ _ _ _ _)
      | (with_reducible exact LeO.refl _)
      | (with_reducible exact LeO.none _)
      | (with_reducible refine LeO.ite ?_ ?_)
      | (with_reducible refine LeO.bind ?_ (fun _ => ?_))
      | exact ih0 _ _ _ _
      | exact ih1 _ _ _ _ _ _ _
      | exact LeO.none _
      | refine LeO.ite ?_ ?_
      | refine LeO.bind ?_ (fun _ => ?_)
set_option maxHeartbeats 8000000 in
set_option maxRecDepth 100000 in
theorem words_Quote.calls (k : Nat) (a0 : ByteArray) (r1 : ByteArray) (r2 : Bool) (w : World) (h : words_Quote.f k a0 = some (r1, r2)) :
    Calls Tryd.prog 33 #[.string a0] w fun e w' => e = .returned (.tuple #[.string r1, .bool r2]) ∧ Below w.heap.size w w' := by
  have HB := Aside0.mk (Below.refl w.heap.size w)
  have H : (if (a0.size : Int) > 40 then (some ((⟨#[]⟩ : ByteArray), false)) else (words_Quote.l0 k a0 (([34] : List Int)) (a0.size : Int) 0)) = some (r1, r2) := h
  clear h
  by_cases c2 : (a0.size : Int) > 40
  · rw [if_pos c2] at H
    have c2b0 : decide (40 < (a0.size : Int)) = true := decide_eq_true c2
    have c2b1 : decide (40 < a0.size) = true := decide_eq_true (by omega)
    clear c2
    simp only [Option.some.injEq, Prod.mk.injEq] at H
    obtain ⟨rfl, rfl⟩ := H
    go_enter Tryd.func33, Tryd.ntmps33
    go_wp2
    go_ret2
    exact ⟨by first | rfl | (simp [errW_none, errW_some] <;> rfl) | (simp [*, errW_none, errW_some] <;> rfl), by repeat (first | (with_reducible first | exact HB.out | apply below_alloc | apply pw_below_drewN | apply below_drew1) | exact HB.out)⟩
  · rw [if_neg c2] at H
    have c2b0 : decide (40 < (a0.size : Int)) = false := decide_eq_false c2
    have c2b1 : decide (40 < a0.size) = false := decide_eq_false (by omega)
    clear c2
    obtain ⟨y186, hy186⟩ : ∃ y_ : List Int, y_ = (([34] : List Int)) := ⟨_, rfl⟩
    replace H : (words_Quote.l0 k a0 y186 (a0.size : Int) 0) = some (r1, r2) := by first | (rw [hy186]; with_reducible exact H) | (have H2_ := (Option.bind_some _ _).symm.trans H; rw [hy186]; with_reducible exact H2_) | (have H2_ := (Option.bind_some _ _).symm.trans H; with_reducible exact H2_) | with_reducible exact H | (rw [hy186]; exact H) | exact H
    have Ny186 := Aside0.mk hy186
    clear hy186
    have H' := Aside0.mk H
    clear H
    go_enter Tryd.func33, Tryd.ntmps33
    go_wp2_with (first | ((with_reducible refine gate_dst (N := 10) rfl ?_); refine Kd.R_lit (Kd.int .u8) _ 5 ?hg (N := 10) ?hd (xs := ([34] : List Int)) (inner := [.int .u8 34]) (ok := fun _ => True) (okp := fun _ => True) ?hr ?hp (fun _ hk => hk) trivial (Below.refl _ _) (Nat.le_refl _) (by simp) ?_; (case hd => rfl); (case hg => rfl); (case hr => first | (go_simp; done) | (go_simp; rfl)); (case hp => exact (Reps.one (show Kd.M (Kd.int .u8) _ _ _ 34 [.int .u8 34] from rfl) (Reps.none _ _))); intro v187 w3 ho4 hb hg_ hnew_; clear hg_ hnew_; (first | rw [← Ny186.out] at ho4 | (simp only [Int.reduceToNat] at ho4; rw [← Ny186.out] at ho4)); have n0_ := Aside0.mk (Kd.R_lower ho4 (below_size (by repeat (first | (with_reducible first | exact HB.out | apply below_alloc | apply pw_below_drewN | apply below_drew1) | exact HB.out)))); have n1_ := Aside0.mk (below_step (by repeat (first | (with_reducible first | exact HB.out | apply below_alloc | apply pw_below_drewN | apply below_drew1) | exact HB.out)) hb); clear HB; have HO188 := n0_; have HB := n1_; clear n0_ n1_; clear hb ho4))
    go_loopg [4, 13] k (fun kq v4 v13 w' => ∃ (x4_1 : List Int) (x13_1 : Int), v13 = .int .i64 x13_1 ∧ Aside0 (words_Quote.l0 kq a0 x4_1 (a0.size : Int) x13_1 = some (r1, r2)) ∧ Aside0 (kq ≤ k) ∧ Aside0 (Kd.R (Kd.int .u8) 5 w' w.heap.size (fun _ => True) v4 x4_1) ∧ Aside0 (Below w.heap.size w w'))
    case atStart => exact ⟨(y186), (0), (by first | rfl | (simp; done) | (simp [*]; done)), H', ⟨Nat.le_refl _⟩, ⟨by (with_reducible repeat (first | apply Kd.R_alloc | apply Kd.R_drewN | apply Kd.R_drew)); exact HO188.out⟩, ⟨by repeat (first | (with_reducible first | exact HB.out | apply below_alloc | apply pw_below_drewN | apply below_drew1) | exact HB.out)⟩⟩
    case round =>
      clear H'
      try clear c2
      try clear c2b0
      try clear c2b1
      try clear p2
      try clear c3
      obtain ⟨x4_1, x13_1, rfl, HA, HK1, HO_4, HB⟩ := hrel
      cases gk with
      | zero => exact absurd HA.out (by simp [words_Quote.l0])
      | succ k1 =>
        have H := HA.out
        clear HA
        simp only [words_Quote.l0] at H
        by_cases c5 : x13_1 < (a0.size : Int)
        · rw [if_pos c5] at H
          have c5b0 : decide (x13_1 < (a0.size : Int)) = true := decide_eq_true c5
          clear c5
          by_cases c6 : 0 ≤ x13_1
          · rw [if_pos c6] at H
            have c6b0 : decide (0 ≤ x13_1) = true := decide_eq_true c6
            clear c6
            by_cases c7 : x13_1 < (a0.size : Int)
            · rw [if_pos c7] at H
              have c7b0 : decide (x13_1 < (a0.size : Int)) = true := decide_eq_true c7
              clear c7
              have HC9 := Aside0.mk H
              clear H
              have p8 : 0 ≤ (x13_1 : Int) := of_decide_eq_true (by first | (with_reducible assumption) | assumption)
              have q8 : x13_1 < (a0.size : Int) := of_decide_eq_true (by first | (with_reducible assumption) | assumption)
              have hx8 := bt_at a0 x13_1
              replace p8 := eq_true p8
              replace q8 := eq_true q8
              go_upto_region 8 with (fail)
              go_cut [19] (fun v19 wc => ∃ (kq : Nat) (x19_8 : Bool), v19 = .bool x19_8 ∧ Aside0 (words_Quote.j1 kq a0 x4_1 x13_1 (bt a0 x13_1) (a0.size : Int) x13_1 x19_8 = some (r1, r2)) ∧ Aside0 (kq ≤ k1) ∧ Aside0 (Kd.R (Kd.int .u8) 5 wc w.heap.size (fun _ => True) u4 x4_1) ∧ Aside0 (Below w.heap.size w wc))
              case first =>
                have H := HC9.out
                clear HC9
                by_cases c10 : (bt a0 x13_1) < 32
                · rw [if_pos c10] at H
                  have c10b0 : decide ((bt a0 x13_1) < 32) = true := decide_eq_true c10
                  clear c10
                  (first | rw [c10b0] | (simp only [i64_w, i32_w]; rw [c10b0]) | skip)
                  have H' := Aside0.mk H
                  clear H
                  go_wp2
                  go_meet
                  case rel => exact ⟨_, (true), (by first | rfl | (simp; done) | (simp [*]; done)), H', ⟨by have := HK1.out; first | omega | exact Nat.le_refl _⟩, ⟨by (with_reducible repeat (first | apply Kd.R_alloc | apply Kd.R_drewN | apply Kd.R_drew)); exact HO_4.out⟩, ⟨by repeat (first | (with_reducible first | exact HB.out | apply below_alloc | apply pw_below_drewN | apply below_drew1) | exact HB.out)⟩⟩
                · rw [if_neg c10] at H
                  have c10b0 : decide ((bt a0 x13_1) < 32) = false := decide_eq_false c10
                  clear c10
                  (first | rw [c10b0] | (simp only [i64_w, i32_w]; rw [c10b0]) | skip)
                  have H' := Aside0.mk H
                  clear H
                  go_wp2
                  go_meet
                  case rel => exact ⟨_, (decide ((bt a0 x13_1) > 126)), (by first | rfl | (simp; done) | (simp [*]; done)), H', ⟨by have := HK1.out; first | omega | exact Nat.le_refl _⟩, ⟨by (with_reducible repeat (first | apply Kd.R_alloc | apply Kd.R_drewN | apply Kd.R_drew)); exact HO_4.out⟩, ⟨by repeat (first | (with_reducible first | exact HB.out | apply below_alloc | apply pw_below_drewN | apply below_drew1) | exact HB.out)⟩⟩
              case rest =>
                clear HC9
                try clear c1
                try clear c2
                try clear c2b0
                try clear c2b1
                try clear p2
                try clear c3
                try clear c5
                try clear c5b0
                try clear c6
                try clear c6b0
                try clear c7
                try clear c7b0
                try clear p8
                try clear q8
                try clear hx8
                try clear c10
                try clear c10b0
                try clear p2
                try clear p8
                try clear q8
                obtain ⟨kq, x19_8, rfl, HA, HJ8, HO_4, HB⟩ := hcut
                cases kq with
                | zero => exact absurd HA.out (by simp [words_Quote.j1])
                | succ kj8 =>
                  have H := HA.out
                  clear HA
                  simp only [words_Quote.j1] at H
                  by_cases c11 : x19_8 = true
                  · subst c11
                    have H1 : (some ((⟨#[]⟩ : ByteArray), false)) = some (r1, r2) := by rw [if_pos rfl] at H; exact H
                    clear H
                    have H := H1
                    clear H1
                    simp only [Option.some.injEq, Prod.mk.injEq] at H
                    obtain ⟨rfl, rfl⟩ := H
                    go_wp2
                    go_ret2
                    exact ⟨by first | rfl | (simp [errW_none, errW_some] <;> rfl) | (simp [*, errW_none, errW_some] <;> rfl), by repeat (first | (with_reducible first | exact HB.out | apply below_alloc | apply pw_below_drewN | apply below_drew1) | exact HB.out)⟩
                  · replace c11 := Bool.eq_false_iff.mpr c11
                    subst c11
                    have H1 : (if (bt a0 x13_1) = 34 then (if x4_1.length < 140737488355328 then ((some (x4_1 ++ [92] : List Int)).bind fun y192 => (if 0 ≤ x13_1 then (if x13_1 < (a0.size : Int) then (if y192.length < 140737488355328 then (words_Quote.l0 kj8 a0 (y192 ++ [bt a0 x13_1]) (a0.size : Int) (wrap64 (x13_1 + 1))) else (none)) else (none)) else (none))) else (none)) else (if (bt a0 x13_1) = 92 then (if x4_1.length < 140737488355328 then ((some (x4_1 ++ [92] : List Int)).bind fun y198 => (if 0 ≤ x13_1 then (if x13_1 < (a0.size : Int) then (if y198.length < 140737488355328 then (words_Quote.l0 kj8 a0 (y198 ++ [bt a0 x13_1]) (a0.size : Int) (wrap64 (x13_1 + 1))) else (none)) else (none)) else (none))) else (none)) else (if 0 ≤ x13_1 then (if x13_1 < (a0.size : Int) then (if x4_1.length < 140737488355328 then (words_Quote.l0 kj8 a0 (x4_1 ++ [bt a0 x13_1]) (a0.size : Int) (wrap64 (x13_1 + 1))) else (none)) else (none)) else (none)))) = some (r1, r2) := by rw [if_neg (show ¬ (false = true) by decide)] at H; exact H
                    clear H
                    have H := H1
                    clear H1
                    by_cases c12 : (bt a0 x13_1) = 34
                    · rw [if_pos c12] at H
                      have c12b0 : ((bt a0 x13_1) == 34) = true := beq_iff_eq.mpr c12
                      have c12b1 : ((bt a0 x13_1) != 34) = false := bne_eq_false_iff_eq.mpr c12
                      clear c12
                      by_cases c13 : x4_1.length < 140737488355328
                      · rw [if_pos c13] at H
                        have LMc13 := Aside0.mk c13
                        clear c13
                        obtain ⟨y192, hy192⟩ : ∃ y_ : List Int, y_ = (x4_1 ++ [92]) := ⟨_, rfl⟩
                        replace H : (if 0 ≤ x13_1 then (if x13_1 < (a0.size : Int) then (if y192.length < 140737488355328 then (words_Quote.l0 kj8 a0 (y192 ++ [bt a0 x13_1]) (a0.size : Int) (wrap64 (x13_1 + 1))) else (none)) else (none)) else (none)) = some (r1, r2) := by first | (rw [hy192]; with_reducible exact H) | (have H2_ := (Option.bind_some _ _).symm.trans H; rw [hy192]; with_reducible exact H2_) | (have H2_ := (Option.bind_some _ _).symm.trans H; with_reducible exact H2_) | with_reducible exact H | (rw [hy192]; exact H) | exact H
                        have Ny192 := Aside0.mk hy192
                        clear hy192
                        by_cases c14 : 0 ≤ x13_1
                        · rw [if_pos c14] at H
                          have c14b0 : decide (0 ≤ x13_1) = true := decide_eq_true c14
                          clear c14
                          by_cases c15 : x13_1 < (a0.size : Int)
                          · rw [if_pos c15] at H
                            have c15b0 : decide (x13_1 < (a0.size : Int)) = true := decide_eq_true c15
                            clear c15
                            by_cases c17 : y192.length < 140737488355328
                            · rw [if_pos c17] at H
                              have LMc17 := Aside0.mk c17
                              clear c17
                              obtain ⟨y195, hy195⟩ : ∃ y_ : List Int, y_ = (y192 ++ [bt a0 x13_1]) := ⟨_, rfl⟩
                              replace H : (words_Quote.l0 kj8 a0 y195 (a0.size : Int) (wrap64 (x13_1 + 1))) = some (r1, r2) := by first | (rw [hy195]; with_reducible exact H) | (have H2_ := (Option.bind_some _ _).symm.trans H; rw [hy195]; with_reducible exact H2_) | (have H2_ := (Option.bind_some _ _).symm.trans H; with_reducible exact H2_) | with_reducible exact H | (rw [hy195]; exact H) | exact H
                              have Ny195 := Aside0.mk hy195
                              clear hy195
                              have H' := Aside0.mk H
                              clear H
                              go_wp2_with (first | ((with_reducible refine gate_builtin (b := .append) (xs := #[.tmp 33, .tmp 34]) rfl ?_); at_builtin; refine Kd.R_append (Kd.int .u8) (w0 := w) w.heap.size rfl (.tmp 33) (.tmp 34) 49 5 (.int .u8 0) 1 rfl Tryd.underlying49 info5 rfl (by decide) (by omega) u4 x4_1 92 [.int .u8 92] (fun _ => True) (fun _ => False) rfl rfl ?aP (fun _ hk => hk.elim) ?aF ?aO ?aB ?aS ?aL ?_; (case aP => exact rfl); (case aB => exact (by repeat (first | (with_reducible first | exact HB.out | apply below_alloc | apply pw_below_drewN | apply below_drew1) | exact HB.out))); (case aF => exact (fun _ _ => trivial)); (case aO => exact (by (with_reducible repeat (first | apply Kd.R_alloc | apply Kd.R_drewN | apply Kd.R_drew)); exact HO_4.out)); (case aS => exact (below_size (by repeat (first | (with_reducible first | exact HB.out | apply below_alloc | apply pw_below_drewN | apply below_drew1) | exact HB.out)))); (case aL => have := LMc13.out; omega); intro v193 w18 ho hb hg hat; rw [← Ny192.out] at ho; have n0_ := Aside0.mk (hb); have n1_ := Aside0.mk (ho); clear HB; clear HO_4; have HB := n0_; have HO194 := n1_; clear n0_ n1_; clear ho hb hg hat; have p16 : 0 ≤ (x13_1 : Int) := of_decide_eq_true (by first | (with_reducible assumption) | assumption); have q16 : x13_1 < (a0.size : Int) := of_decide_eq_true (by first | (with_reducible assumption) | assumption); have hx16 := bt_at a0 x13_1; replace p16 := eq_true p16; replace q16 := eq_true q16) | ((with_reducible refine gate_builtin (b := .append) (xs := #[.tmp 36, .tmp 40]) rfl ?_); at_builtin; refine Kd.R_append (Kd.int .u8) (w0 := w) w.heap.size rfl (.tmp 36) (.tmp 40) 49 5 (.int .u8 0) 1 rfl Tryd.underlying49 info5 rfl (by decide) (by omega) v193 y192 (bt a0 x13_1) [.int .u8 (bt a0 x13_1)] (fun _ => True) (fun _ => False) rfl rfl ?aP (fun _ hk => hk.elim) ?aF ?aO ?aB ?aS ?aL ?_; (case aP => exact rfl); (case aB => exact (by repeat (first | (with_reducible first | exact HB.out | apply below_alloc | apply pw_below_drewN | apply below_drew1) | exact HB.out))); (case aF => exact (fun _ _ => trivial)); (case aO => exact (by (with_reducible repeat (first | apply Kd.R_alloc | apply Kd.R_drewN | apply Kd.R_drew)); exact HO194.out)); (case aS => exact (below_size (by repeat (first | (with_reducible first | exact HB.out | apply below_alloc | apply pw_below_drewN | apply below_drew1) | exact HB.out)))); (case aL => have := LMc17.out; omega); intro v196 w19 ho hb hg hat; rw [← Ny195.out] at ho; have n0_ := Aside0.mk (hb); have n1_ := Aside0.mk (ho); clear HB; clear HO194; have HB := n0_; have HO197 := n1_; clear n0_ n1_; clear ho hb hg hat))
                              go_roundg kj8
                              case measure => have := HK1.out; have := HJ8.out; omega
                              case rel => exact ⟨(y195), (wrap64 (x13_1 + 1)), (by first | rfl | (simp; done) | (simp [*]; done)), H', ⟨by have := HK1.out; have := HJ8.out; omega⟩, ⟨by (with_reducible repeat (first | apply Kd.R_alloc | apply Kd.R_drewN | apply Kd.R_drew)); exact HO197.out⟩, ⟨by repeat (first | (with_reducible first | exact HB.out | apply below_alloc | apply pw_below_drewN | apply below_drew1) | exact HB.out)⟩⟩
                            · rw [if_neg c17] at H
                              exact absurd H (by simp)
                          · rw [if_neg c15] at H
                            exact absurd H (by simp)
                        · rw [if_neg c14] at H
                          exact absurd H (by simp)
                      · rw [if_neg c13] at H
                        exact absurd H (by simp)
                    · rw [if_neg c12] at H
                      have c12b0 : ((bt a0 x13_1) == 34) = false := beq_eq_false_iff_ne.mpr c12
                      have c12b1 : ((bt a0 x13_1) != 34) = true := bne_iff_ne.mpr c12
                      by_cases c20 : (bt a0 x13_1) = 92
                      · rw [if_pos c20] at H
                        have c20b0 : ((bt a0 x13_1) == 92) = true := beq_iff_eq.mpr c20
                        have c20b1 : ((bt a0 x13_1) != 92) = false := bne_eq_false_iff_eq.mpr c20
                        clear c20
                        by_cases c21 : x4_1.length < 140737488355328
                        · rw [if_pos c21] at H
                          have LMc21 := Aside0.mk c21
                          clear c21
                          obtain ⟨y198, hy198⟩ : ∃ y_ : List Int, y_ = (x4_1 ++ [92]) := ⟨_, rfl⟩
                          replace H : (if 0 ≤ x13_1 then (if x13_1 < (a0.size : Int) then (if y198.length < 140737488355328 then (words_Quote.l0 kj8 a0 (y198 ++ [bt a0 x13_1]) (a0.size : Int) (wrap64 (x13_1 + 1))) else (none)) else (none)) else (none)) = some (r1, r2) := by first | (rw [hy198]; with_reducible exact H) | (have H2_ := (Option.bind_some _ _).symm.trans H; rw [hy198]; with_reducible exact H2_) | (have H2_ := (Option.bind_some _ _).symm.trans H; with_reducible exact H2_) | with_reducible exact H | (rw [hy198]; exact H) | exact H
                          have Ny198 := Aside0.mk hy198
                          clear hy198
                          by_cases c22 : 0 ≤ x13_1
                          · rw [if_pos c22] at H
                            have c22b0 : decide (0 ≤ x13_1) = true := decide_eq_true c22
                            clear c22
                            by_cases c23 : x13_1 < (a0.size : Int)
                            · rw [if_pos c23] at H
                              have c23b0 : decide (x13_1 < (a0.size : Int)) = true := decide_eq_true c23
                              clear c23
                              by_cases c25 : y198.length < 140737488355328
                              · rw [if_pos c25] at H
                                have LMc25 := Aside0.mk c25
                                clear c25
                                obtain ⟨y201, hy201⟩ : ∃ y_ : List Int, y_ = (y198 ++ [bt a0 x13_1]) := ⟨_, rfl⟩
                                replace H : (words_Quote.l0 kj8 a0 y201 (a0.size : Int) (wrap64 (x13_1 + 1))) = some (r1, r2) := by first | (rw [hy201]; with_reducible exact H) | (have H2_ := (Option.bind_some _ _).symm.trans H; rw [hy201]; with_reducible exact H2_) | (have H2_ := (Option.bind_some _ _).symm.trans H; with_reducible exact H2_) | with_reducible exact H | (rw [hy201]; exact H) | exact H
                                have Ny201 := Aside0.mk hy201
                                clear hy201
                                have H' := Aside0.mk H
                                clear H
                                go_wp2_with (first | ((with_reducible refine gate_builtin (b := .append) (xs := #[.tmp 33, .tmp 34]) rfl ?_); at_builtin; refine Kd.R_append (Kd.int .u8) (w0 := w) w.heap.size rfl (.tmp 33) (.tmp 34) 49 5 (.int .u8 0) 1 rfl Tryd.underlying49 info5 rfl (by decide) (by omega) u4 x4_1 92 [.int .u8 92] (fun _ => True) (fun _ => False) rfl rfl ?aP (fun _ hk => hk.elim) ?aF ?aO ?aB ?aS ?aL ?_; (case aP => exact rfl); (case aB => exact (by repeat (first | (with_reducible first | exact HB.out | apply below_alloc | apply pw_below_drewN | apply below_drew1) | exact HB.out))); (case aF => exact (fun _ _ => trivial)); (case aO => exact (by (with_reducible repeat (first | apply Kd.R_alloc | apply Kd.R_drewN | apply Kd.R_drew)); exact HO_4.out)); (case aS => exact (below_size (by repeat (first | (with_reducible first | exact HB.out | apply below_alloc | apply pw_below_drewN | apply below_drew1) | exact HB.out)))); (case aL => have := LMc21.out; omega); intro v199 w26 ho hb hg hat; rw [← Ny198.out] at ho; have n0_ := Aside0.mk (hb); have n1_ := Aside0.mk (ho); clear HB; clear HO_4; have HB := n0_; have HO200 := n1_; clear n0_ n1_; clear ho hb hg hat; have p24 : 0 ≤ (x13_1 : Int) := of_decide_eq_true (by first | (with_reducible assumption) | assumption); have q24 : x13_1 < (a0.size : Int) := of_decide_eq_true (by first | (with_reducible assumption) | assumption); have hx24 := bt_at a0 x13_1; replace p24 := eq_true p24; replace q24 := eq_true q24) | ((with_reducible refine gate_builtin (b := .append) (xs := #[.tmp 36, .tmp 40]) rfl ?_); at_builtin; refine Kd.R_append (Kd.int .u8) (w0 := w) w.heap.size rfl (.tmp 36) (.tmp 40) 49 5 (.int .u8 0) 1 rfl Tryd.underlying49 info5 rfl (by decide) (by omega) v199 y198 (bt a0 x13_1) [.int .u8 (bt a0 x13_1)] (fun _ => True) (fun _ => False) rfl rfl ?aP (fun _ hk => hk.elim) ?aF ?aO ?aB ?aS ?aL ?_; (case aP => exact rfl); (case aB => exact (by repeat (first | (with_reducible first | exact HB.out | apply below_alloc | apply pw_below_drewN | apply below_drew1) | exact HB.out))); (case aF => exact (fun _ _ => trivial)); (case aO => exact (by (with_reducible repeat (first | apply Kd.R_alloc | apply Kd.R_drewN | apply Kd.R_drew)); exact HO200.out)); (case aS => exact (below_size (by repeat (first | (with_reducible first | exact HB.out | apply below_alloc | apply pw_below_drewN | apply below_drew1) | exact HB.out)))); (case aL => have := LMc25.out; omega); intro v202 w27 ho hb hg hat; rw [← Ny201.out] at ho; have n0_ := Aside0.mk (hb); have n1_ := Aside0.mk (ho); clear HB; clear HO200; have HB := n0_; have HO203 := n1_; clear n0_ n1_; clear ho hb hg hat))
                                go_roundg kj8
                                case measure => have := HK1.out; have := HJ8.out; omega
                                case rel => exact ⟨(y201), (wrap64 (x13_1 + 1)), (by first | rfl | (simp; done) | (simp [*]; done)), H', ⟨by have := HK1.out; have := HJ8.out; omega⟩, ⟨by (with_reducible repeat (first | apply Kd.R_alloc | apply Kd.R_drewN | apply Kd.R_drew)); exact HO203.out⟩, ⟨by repeat (first | (with_reducible first | exact HB.out | apply below_alloc | apply pw_below_drewN | apply below_drew1) | exact HB.out)⟩⟩
                              · rw [if_neg c25] at H
                                exact absurd H (by simp)
                            · rw [if_neg c23] at H
                              exact absurd H (by simp)
                          · rw [if_neg c22] at H
                            exact absurd H (by simp)
                        · rw [if_neg c21] at H
                          exact absurd H (by simp)
                      · rw [if_neg c20] at H
                        have c20b0 : ((bt a0 x13_1) == 92) = false := beq_eq_false_iff_ne.mpr c20
                        have c20b1 : ((bt a0 x13_1) != 92) = true := bne_iff_ne.mpr c20
                        by_cases c28 : 0 ≤ x13_1
                        · rw [if_pos c28] at H
                          have c28b0 : decide (0 ≤ x13_1) = true := decide_eq_true c28
                          clear c28
                          by_cases c29 : x13_1 < (a0.size : Int)
                          · rw [if_pos c29] at H
                            have c29b0 : decide (x13_1 < (a0.size : Int)) = true := decide_eq_true c29
                            clear c29
                            by_cases c31 : x4_1.length < 140737488355328
                            · rw [if_pos c31] at H
                              have LMc31 := Aside0.mk c31
                              clear c31
                              obtain ⟨y204, hy204⟩ : ∃ y_ : List Int, y_ = (x4_1 ++ [bt a0 x13_1]) := ⟨_, rfl⟩
                              replace H : (words_Quote.l0 kj8 a0 y204 (a0.size : Int) (wrap64 (x13_1 + 1))) = some (r1, r2) := by first | (rw [hy204]; with_reducible exact H) | (have H2_ := (Option.bind_some _ _).symm.trans H; rw [hy204]; with_reducible exact H2_) | (have H2_ := (Option.bind_some _ _).symm.trans H; with_reducible exact H2_) | with_reducible exact H | (rw [hy204]; exact H) | exact H
                              have Ny204 := Aside0.mk hy204
                              clear hy204
                              have H' := Aside0.mk H
                              clear H
                              have p30 : 0 ≤ (x13_1 : Int) := of_decide_eq_true (by first | (with_reducible assumption) | assumption)
                              have q30 : x13_1 < (a0.size : Int) := of_decide_eq_true (by first | (with_reducible assumption) | assumption)
                              have hx30 := bt_at a0 x13_1
                              replace p30 := eq_true p30
                              replace q30 := eq_true q30
                              go_wp2_with (first | ((with_reducible refine gate_builtin (b := .append) (xs := #[.tmp 36, .tmp 40]) rfl ?_); at_builtin; refine Kd.R_append (Kd.int .u8) (w0 := w) w.heap.size rfl (.tmp 36) (.tmp 40) 49 5 (.int .u8 0) 1 rfl Tryd.underlying49 info5 rfl (by decide) (by omega) u4 x4_1 (bt a0 x13_1) [.int .u8 (bt a0 x13_1)] (fun _ => True) (fun _ => False) rfl rfl ?aP (fun _ hk => hk.elim) ?aF ?aO ?aB ?aS ?aL ?_; (case aP => exact rfl); (case aB => exact (by repeat (first | (with_reducible first | exact HB.out | apply below_alloc | apply pw_below_drewN | apply below_drew1) | exact HB.out))); (case aF => exact (fun _ _ => trivial)); (case aO => exact (by (with_reducible repeat (first | apply Kd.R_alloc | apply Kd.R_drewN | apply Kd.R_drew)); exact HO_4.out)); (case aS => exact (below_size (by repeat (first | (with_reducible first | exact HB.out | apply below_alloc | apply pw_below_drewN | apply below_drew1) | exact HB.out)))); (case aL => have := LMc31.out; omega); intro v205 w32 ho hb hg hat; rw [← Ny204.out] at ho; have n0_ := Aside0.mk (hb); have n1_ := Aside0.mk (ho); clear HB; clear HO_4; have HB := n0_; have HO206 := n1_; clear n0_ n1_; clear ho hb hg hat))
                              go_roundg kj8
                              case measure => have := HK1.out; have := HJ8.out; omega
                              case rel => exact ⟨(y204), (wrap64 (x13_1 + 1)), (by first | rfl | (simp; done) | (simp [*]; done)), H', ⟨by have := HK1.out; have := HJ8.out; omega⟩, ⟨by (with_reducible repeat (first | apply Kd.R_alloc | apply Kd.R_drewN | apply Kd.R_drew)); exact HO206.out⟩, ⟨by repeat (first | (with_reducible first | exact HB.out | apply below_alloc | apply pw_below_drewN | apply below_drew1) | exact HB.out)⟩⟩
                            · rw [if_neg c31] at H
                              exact absurd H (by simp)
                          · rw [if_neg c29] at H
                            exact absurd H (by simp)
                        · rw [if_neg c28] at H
                          exact absurd H (by simp)
            · rw [if_neg c7] at H
              exact absurd H (by simp)
          · rw [if_neg c6] at H
            exact absurd H (by simp)
        · rw [if_neg c5] at H
          have c5b0 : decide (x13_1 < (a0.size : Int)) = false := decide_eq_false c5
          clear c5
          by_cases c33 : x4_1.length < 140737488355328
          · rw [if_pos c33] at H
            have LMc33 := Aside0.mk c33
            clear c33
            obtain ⟨y189, hy189⟩ : ∃ y_ : List Int, y_ = (x4_1 ++ [34]) := ⟨_, rfl⟩
            replace H : (some (strOfNums y189, true)) = some (r1, r2) := by first | (rw [hy189]; with_reducible exact H) | (have H2_ := (Option.bind_some _ _).symm.trans H; rw [hy189]; with_reducible exact H2_) | (have H2_ := (Option.bind_some _ _).symm.trans H; with_reducible exact H2_) | with_reducible exact H | (rw [hy189]; exact H) | exact H
            have Ny189 := Aside0.mk hy189
            clear hy189
            simp only [Option.some.injEq, Prod.mk.injEq] at H
            obtain ⟨rfl, rfl⟩ := H
            go_wp2_with (first | ((with_reducible refine gate_builtin (b := .append) (xs := #[.tmp 43, .tmp 44]) rfl ?_); at_builtin; refine Kd.R_append (Kd.int .u8) (w0 := w) w.heap.size rfl (.tmp 43) (.tmp 44) 49 5 (.int .u8 0) 1 rfl Tryd.underlying49 info5 rfl (by decide) (by omega) u4 x4_1 34 [.int .u8 34] (fun _ => True) (fun _ => False) rfl rfl ?aP (fun _ hk => hk.elim) ?aF ?aO ?aB ?aS ?aL ?_; (case aP => exact rfl); (case aB => exact (by repeat (first | (with_reducible first | exact HB.out | apply below_alloc | apply pw_below_drewN | apply below_drew1) | exact HB.out))); (case aF => exact (fun _ _ => trivial)); (case aO => exact (by (with_reducible repeat (first | apply Kd.R_alloc | apply Kd.R_drewN | apply Kd.R_drew)); exact HO_4.out)); (case aS => exact (below_size (by repeat (first | (with_reducible first | exact HB.out | apply below_alloc | apply pw_below_drewN | apply below_drew1) | exact HB.out)))); (case aL => have := LMc33.out; omega); intro v190 w34 ho hb hg hat; rw [← Ny189.out] at ho; have n0_ := Aside0.mk (hb); have n1_ := Aside0.mk (ho); clear HB; clear HO_4; have HB := n0_; have HO191 := n1_; clear n0_ n1_; clear ho hb hg hat; have hcv35 := own_string (P := Tryd.prog) Tryd.underlying49 Tryd.underlying5 Tryd.underlying9 (Kd.own_of_R HO191.out)))
            go_ret2
            exact ⟨by first | rfl | (simp [errW_none, errW_some] <;> rfl) | (simp [*, errW_none, errW_some] <;> rfl), by repeat (first | (with_reducible first | exact HB.out | apply below_alloc | apply pw_below_drewN | apply below_drew1) | exact HB.out)⟩
          · rw [if_neg c33] at H
            exact absurd H (by simp)

end Go.Proofs.YtgcgpeeokdnplaaDoor.PA
end
section
/- The Go functions of this seat that the laws of part A come to, each as a plain Lean function ('f', its loops 'l0' ..) with a proof that the call comes to its answer. Conditions: where a function comes to a package-level table, the world holds that table ('Tabs'). Written by a program of this session (a changed copy of the print). -/
namespace Go.Proofs.YtgcgpeeokdnplaaDoor.PA
open Go.RowKit Go.Proofs.YtgcgpeeokdnplaaDoorW.PrintWords Go.Proofs.YtgcgpeeokdnplaaDoorW.PrintLast Go.Proofs.YtgcgpeeokdnplaaDoorW.PrintMore
attribute [local go_sem] max2_int min2_int max_two min_two max_three min_three max_four min_four   -- for this text's walks alone
set_option linter.unusedVariables false
set_option linter.unusedSimpArgs false

/-! ### words_named: function 30 -/
def words_named.l0 : Nat → ByteArray → Int → Int → Option (Bool)
  | 0, _, _, _ => none
  | k + 1, x0, x5, x6 => if x6 < x5 then (if 0 ≤ x6 then (if x6 < (x0.size : Int) then ((words_of.f (bt x0 x6)).bind fun t167 => (if (Go.bits .and .u8 t167 7) = 0 then (some false) else (words_named.l0 k x0 x5 (wrap64 (x6 + 1))))) else (none)) else (none)) else (if (x0.size : Int) ≥ 1 then (if (x0.size : Int) ≤ 12 then (if 0 < (x0.size : Int) then ((words_of.f (bt x0 0)).bind fun t168 => (some ((Go.bits .and .u8 t168 1) != 0))) else (none)) else (some false)) else (some false))
def words_named.f (k : Nat) (a0 : ByteArray) : Option (Bool) := words_named.l0 k a0 (a0.size : Int) 0
theorem words_named.mono_l : ∀ k, (∀ y0 y1 y2, LeO (words_named.l0 k y0 y1 y2) (words_named.l0 (k + 1) y0 y1 y2))
  | 0 => fun _ _ _ r h => by simp [words_named.l0] at h
  | k + 1 => by
    have ih0 := words_named.mono_l k
    · intro y0 y1 y2
      unfold words_named.l0
      repeat' first
      | (with_reducible exact ih0 _ _ _)
      | (with_reducible exact LeO.refl _)
      | (with_reducible exact LeO.none _)
      | (with_reducible refine LeO.ite ?_ ?_)
      | (with_reducible refine LeO.bind ?_ (fun _ => ?_))
      | exact ih0 _ _ _
      | exact LeO.none _
      | refine LeO.ite ?_ ?_
      | refine LeO.bind ?_ (fun _ => ?_)
theorem words_named.mono : ∀ a0 k, LeO (words_named.f k a0) (words_named.f (k + 1) a0) := by
  intro a0 k
  have ih0 := words_named.mono_l k
  unfold words_named.f
  repeat' first
      | (with_reducible exact ih0 _ _ _)
      | (with_reducible exact LeO.refl _)
      | (with_reducible exact LeO.none _)
      | (with_reducible refine LeO.ite ?_ ?_)
      | (with_reducible refine LeO.bind ?_ (fun _ => ?_))
      | exact ih0 _ _ _
      | exact LeO.none _
      | refine LeO.ite ?_ ?_
      | refine LeO.bind ?_ (fun _ => ?_)
set_option maxHeartbeats 8000000 in
set_option maxRecDepth 100000 in
theorem words_named.calls (k : Nat) (a0 : ByteArray) (r : Bool) (w : World) (hT : Tabs w) (h : words_named.f k a0 = some r) :
    Calls Tryd.prog 30 #[.string a0] w fun e w' => e = .returned (.bool r) ∧ Drawn0 w w' := by
  have HT := Aside0.mk hT
  clear hT
  have H : (words_named.l0 k a0 (a0.size : Int) 0) = some r := h
  clear h
  have H' := Aside0.mk H
  clear H
  go_enter Tryd.func30, Tryd.ntmps30
  go_wp2
  go_loopg [6] k (fun kq v6 w' => ∃ (x6_1 : Int), v6 = .int .i64 x6_1 ∧ Aside0 (words_named.l0 kq a0 (a0.size : Int) x6_1 = some r) ∧ Aside0 (kq ≤ k) ∧ Drawn0 w w')
  case atStart => exact ⟨(0), (by first | rfl | (simp; done) | (simp [*]; done)), H', ⟨Nat.le_refl _⟩, by repeat (first | exact Drawn0.refl _ | apply Drawn0.step)⟩
  case round =>
    clear H'
    obtain ⟨x6_1, rfl, HA, HK1, ⟨m1, rfl⟩⟩ := hrel
    cases gk with
    | zero => exact absurd HA.out (by simp [words_named.l0])
    | succ k1 =>
      have H := HA.out
      clear HA
      simp only [words_named.l0] at H
      by_cases c2 : x6_1 < (a0.size : Int)
      · rw [if_pos c2] at H
        have c2b0 : decide (x6_1 < (a0.size : Int)) = true := decide_eq_true c2
        clear c2
        by_cases c3 : 0 ≤ x6_1
        · rw [if_pos c3] at H
          have c3b0 : decide (0 ≤ x6_1) = true := decide_eq_true c3
          clear c3
          by_cases c4 : x6_1 < (a0.size : Int)
          · rw [if_pos c4] at H
            have c4b0 : decide (x6_1 < (a0.size : Int)) = true := decide_eq_true c4
            clear c4
            replace H := Option.bind_eq_some_iff.mp H
            obtain ⟨t167, A60, H⟩ := H
            replace H : (if (Go.bits .and .u8 t167 7) = 0 then (some false) else (words_named.l0 k1 a0 (a0.size : Int) (wrap64 (x6_1 + 1)))) = some r := H
            have A6 := Aside0.mk A60
            clear A60
            by_cases c7 : (Go.bits .and .u8 t167 7) = 0
            · rw [if_pos c7] at H
              have c7b0 : ((Go.bits .and .u8 t167 7) == 0) = true := beq_iff_eq.mpr c7
              have c7b1 : ((Go.bits .and .u8 t167 7) != 0) = false := bne_eq_false_iff_eq.mpr c7
              clear c7
              obtain rfl := Option.some.inj H
              have p5 : 0 ≤ (x6_1 : Int) := of_decide_eq_true (by first | (with_reducible assumption) | assumption)
              have q5 : x6_1 < (a0.size : Int) := of_decide_eq_true (by first | (with_reducible assumption) | assumption)
              have hx5 := bt_at a0 x6_1
              replace p5 := eq_true p5
              replace q5 := eq_true q5
              go_wp2_with (first | ((with_reducible refine gate_callee (f := 36) rfl ?_); refine goesL_ (some 12) rfl rfl Tryd.func36 (by kernel_rfl) rfl #[.int .u8 (bt a0 x6_1)] rfl (by (try simp only [List.map_toArray, List.map_cons, List.map_nil]); first | done | rfl | (simp only [List.length_drop, List.length_take]; rfl)) ?_; (with_reducible refine (words_of.calls (bt a0 x6_1) t167 _ ?side1 A6.out).mono ?_); (case side1 => first | (with_reducible exact HT.out) | (with_reducible exact HT.out.drewN _) | (with_reducible exact HT.out.drew) | (with_reducible exact (HT.out.drewN _).drewN _)); rintro e w' ⟨rfl, ⟨nd, rfl⟩⟩; refine ⟨_, rfl, ?_⟩))
              go_ret
              exact ⟨by first | rfl | (simp; done) | (simp [*]; done), by repeat (first | exact Drawn0.refl _ | apply Drawn0.step)⟩
            · rw [if_neg c7] at H
              have c7b0 : ((Go.bits .and .u8 t167 7) == 0) = false := beq_eq_false_iff_ne.mpr c7
              have c7b1 : ((Go.bits .and .u8 t167 7) != 0) = true := bne_iff_ne.mpr c7
              have H' := Aside0.mk H
              clear H
              have p5 : 0 ≤ (x6_1 : Int) := of_decide_eq_true (by first | (with_reducible assumption) | assumption)
              have q5 : x6_1 < (a0.size : Int) := of_decide_eq_true (by first | (with_reducible assumption) | assumption)
              have hx5 := bt_at a0 x6_1
              replace p5 := eq_true p5
              replace q5 := eq_true q5
              go_wp2_with (first | ((with_reducible refine gate_callee (f := 36) rfl ?_); refine goesL_ (some 12) rfl rfl Tryd.func36 (by kernel_rfl) rfl #[.int .u8 (bt a0 x6_1)] rfl (by (try simp only [List.map_toArray, List.map_cons, List.map_nil]); first | done | rfl | (simp only [List.length_drop, List.length_take]; rfl)) ?_; (with_reducible refine (words_of.calls (bt a0 x6_1) t167 _ ?side1 A6.out).mono ?_); (case side1 => first | (with_reducible exact HT.out) | (with_reducible exact HT.out.drewN _) | (with_reducible exact HT.out.drew) | (with_reducible exact (HT.out.drewN _).drewN _)); rintro e w' ⟨rfl, ⟨nd, rfl⟩⟩; refine ⟨_, rfl, ?_⟩))
              go_roundg k1
              case measure => have := HK1.out; omega
              case rel => exact ⟨(wrap64 (x6_1 + 1)), (by first | rfl | (simp; done) | (simp [*]; done)), H', ⟨by have := HK1.out; omega⟩, by repeat (first | exact Drawn0.refl _ | apply Drawn0.step)⟩
          · rw [if_neg c4] at H
            exact absurd H (by simp)
        · rw [if_neg c3] at H
          exact absurd H (by simp)
      · rw [if_neg c2] at H
        have c2b0 : decide (x6_1 < (a0.size : Int)) = false := decide_eq_false c2
        clear c2
        by_cases c8 : (a0.size : Int) ≥ 1
        · rw [if_pos c8] at H
          have c8b0 : decide (1 ≤ (a0.size : Int)) = true := decide_eq_true c8
          have c8b1 : decide (1 ≤ a0.size) = true := decide_eq_true (by omega)
          clear c8
          by_cases c9 : (a0.size : Int) ≤ 12
          · rw [if_pos c9] at H
            have c9b0 : decide ((a0.size : Int) ≤ 12) = true := decide_eq_true c9
            have c9b1 : decide (a0.size ≤ 12) = true := decide_eq_true (by omega)
            clear c9
            by_cases c10 : 0 < (a0.size : Int)
            · rw [if_pos c10] at H
              have c10b0 : decide (0 < (a0.size : Int)) = true := decide_eq_true c10
              have c10b1 : decide (0 < a0.size) = true := decide_eq_true (by omega)
              clear c10
              replace H := Option.bind_eq_some_iff.mp H
              obtain ⟨t168, A120, H⟩ := H
              replace H : (some ((Go.bits .and .u8 t168 1) != 0)) = some r := H
              have A12 := Aside0.mk A120
              clear A120
              obtain rfl := Option.some.inj H
              have p11 : 0 ≤ (0 : Int) := (by omega)
              have q11 : 0 < a0.size := (by have : (0 : Int) < (a0.size : Int) := of_decide_eq_true (by first | (with_reducible assumption) | assumption); omega)
              have hx11 : ∀ h : 0 < a0.size, ((a0[0]'h).toNat : Int) = bt a0 0 := bt_at a0 0
              clear p11
              have qi11 : (0 < (a0.size : Int)) = True := eq_true (of_decide_eq_true (by first | (with_reducible assumption) | assumption))
              replace q11 := eq_true q11
              go_wp2_with (first | (go_at_call 36; (with_reducible refine (words_of.calls (bt a0 0) t168 _ ?side1 A12.out).mono ?_); (case side1 => first | (with_reducible exact HT.out) | (with_reducible exact HT.out.drewN _) | (with_reducible exact HT.out.drew) | (with_reducible exact (HT.out.drewN _).drewN _)); rintro e w' ⟨rfl, ⟨nd, rfl⟩⟩))
              go_ret
              exact ⟨by first | rfl | (simp; done) | (simp [*]; done), by repeat (first | exact Drawn0.refl _ | apply Drawn0.step)⟩
            · rw [if_neg c10] at H
              exact absurd H (by simp)
          · rw [if_neg c9] at H
            have c9b0 : decide ((a0.size : Int) ≤ 12) = false := decide_eq_false c9
            have c9b1 : decide (a0.size ≤ 12) = false := decide_eq_false (by omega)
            clear c9
            obtain rfl := Option.some.inj H
            go_wp2
            go_ret
            exact ⟨by first | rfl | (simp; done) | (simp [*]; done), by repeat (first | exact Drawn0.refl _ | apply Drawn0.step)⟩
        · rw [if_neg c8] at H
          have c8b0 : decide (1 ≤ (a0.size : Int)) = false := decide_eq_false c8
          have c8b1 : decide (1 ≤ a0.size) = false := decide_eq_false (by omega)
          clear c8
          obtain rfl := Option.some.inj H
          go_wp2
          go_ret
          exact ⟨by first | rfl | (simp; done) | (simp [*]; done), by repeat (first | exact Drawn0.refl _ | apply Drawn0.step)⟩

end Go.Proofs.YtgcgpeeokdnplaaDoor.PA
end
section
/- The Go functions of this seat that the laws of part A come to, each as a plain Lean function ('f', its loops 'l0' ..) with a proof that the call comes to its answer. Conditions: where a function comes to a package-level table, the world holds that table ('Tabs'). Written by a program of this session (a changed copy of the print). -/
namespace Go.Proofs.YtgcgpeeokdnplaaDoor.PA
open Go.RowKit Go.Proofs.YtgcgpeeokdnplaaDoorW.PrintWords Go.Proofs.YtgcgpeeokdnplaaDoorW.PrintLast Go.Proofs.YtgcgpeeokdnplaaDoorW.PrintMore
attribute [local go_sem] max2_int min2_int max_two min_two max_three min_three max_four min_four   -- for this text's walks alone
set_option linter.unusedVariables false
set_option linter.unusedSimpArgs false

/-! ### words_signed: function 34 -/
def words_signed.f (a0 : ByteArray) : Option (Bool) := if a0.toList = ([33, 61] : List UInt8) then (some true) else (if a0.toList = ([60, 61] : List UInt8) then (some true) else (if a0.toList = ([62, 61] : List UInt8) then (some true) else (if (a0.size : Int) = 1 then (if a0.toList = ([33] : List UInt8) then (some false) else (if 0 < (a0.size : Int) then ((words_of.f (bt a0 0)).bind fun t207 => (some ((Go.bits .and .u8 t207 8) != 0))) else (none))) else (some false))))
set_option maxHeartbeats 8000000 in
set_option maxRecDepth 100000 in
theorem words_signed.calls (a0 : ByteArray) (r : Bool) (w : World) (hT : Tabs w) (h : words_signed.f a0 = some r) :
    Calls Tryd.prog 34 #[.string a0] w fun e w' => e = .returned (.bool r) ∧ Drawn0 w w' := by
  have HT := Aside0.mk hT
  clear hT
  have H : (if a0.toList = ([33, 61] : List UInt8) then (some true) else (if a0.toList = ([60, 61] : List UInt8) then (some true) else (if a0.toList = ([62, 61] : List UInt8) then (some true) else (if (a0.size : Int) = 1 then (if a0.toList = ([33] : List UInt8) then (some false) else (if 0 < (a0.size : Int) then ((words_of.f (bt a0 0)).bind fun t207 => (some ((Go.bits .and .u8 t207 8) != 0))) else (none))) else (some false))))) = some r := h
  clear h
  by_cases c2 : a0.toList = ([33, 61] : List UInt8)
  · rw [if_pos c2] at H
    have c2b0 : (a0.toList == ([33, 61] : List UInt8)) = true := beq_iff_eq.mpr c2
    have c2b1 : (a0.toList != ([33, 61] : List UInt8)) = false := bne_eq_false_iff_eq.mpr c2
    clear c2
    obtain rfl := Option.some.inj H
    go_enter Tryd.func34, Tryd.ntmps34
    go_wp2
    go_ret
    exact ⟨by first | rfl | (simp; done) | (simp [*]; done), by repeat (first | exact Drawn0.refl _ | apply Drawn0.step)⟩
  · rw [if_neg c2] at H
    have c2b0 : (a0.toList == ([33, 61] : List UInt8)) = false := beq_eq_false_iff_ne.mpr c2
    have c2b1 : (a0.toList != ([33, 61] : List UInt8)) = true := bne_iff_ne.mpr c2
    by_cases c3 : a0.toList = ([60, 61] : List UInt8)
    · rw [if_pos c3] at H
      have c3b0 : (a0.toList == ([60, 61] : List UInt8)) = true := beq_iff_eq.mpr c3
      have c3b1 : (a0.toList != ([60, 61] : List UInt8)) = false := bne_eq_false_iff_eq.mpr c3
      clear c3
      obtain rfl := Option.some.inj H
      go_enter Tryd.func34, Tryd.ntmps34
      go_wp2
      go_ret
      exact ⟨by first | rfl | (simp; done) | (simp [*]; done), by repeat (first | exact Drawn0.refl _ | apply Drawn0.step)⟩
    · rw [if_neg c3] at H
      have c3b0 : (a0.toList == ([60, 61] : List UInt8)) = false := beq_eq_false_iff_ne.mpr c3
      have c3b1 : (a0.toList != ([60, 61] : List UInt8)) = true := bne_iff_ne.mpr c3
      by_cases c4 : a0.toList = ([62, 61] : List UInt8)
      · rw [if_pos c4] at H
        have c4b0 : (a0.toList == ([62, 61] : List UInt8)) = true := beq_iff_eq.mpr c4
        have c4b1 : (a0.toList != ([62, 61] : List UInt8)) = false := bne_eq_false_iff_eq.mpr c4
        clear c4
        obtain rfl := Option.some.inj H
        go_enter Tryd.func34, Tryd.ntmps34
        go_wp2
        go_ret
        exact ⟨by first | rfl | (simp; done) | (simp [*]; done), by repeat (first | exact Drawn0.refl _ | apply Drawn0.step)⟩
      · rw [if_neg c4] at H
        have c4b0 : (a0.toList == ([62, 61] : List UInt8)) = false := beq_eq_false_iff_ne.mpr c4
        have c4b1 : (a0.toList != ([62, 61] : List UInt8)) = true := bne_iff_ne.mpr c4
        by_cases c5 : (a0.size : Int) = 1
        · rw [if_pos c5] at H
          have c5b0 : ((a0.size : Int) == 1) = true := beq_iff_eq.mpr c5
          have c5b1 : ((a0.size : Int) != 1) = false := bne_eq_false_iff_eq.mpr c5
          clear c5
          by_cases c6 : a0.toList = ([33] : List UInt8)
          · rw [if_pos c6] at H
            have c6b0 : (a0.toList == ([33] : List UInt8)) = true := beq_iff_eq.mpr c6
            have c6b1 : (a0.toList != ([33] : List UInt8)) = false := bne_eq_false_iff_eq.mpr c6
            clear c6
            obtain rfl := Option.some.inj H
            go_enter Tryd.func34, Tryd.ntmps34
            go_wp2
            go_ret
            exact ⟨by first | rfl | (simp; done) | (simp [*]; done), by repeat (first | exact Drawn0.refl _ | apply Drawn0.step)⟩
          · rw [if_neg c6] at H
            have c6b0 : (a0.toList == ([33] : List UInt8)) = false := beq_eq_false_iff_ne.mpr c6
            have c6b1 : (a0.toList != ([33] : List UInt8)) = true := bne_iff_ne.mpr c6
            by_cases c7 : 0 < (a0.size : Int)
            · rw [if_pos c7] at H
              have c7b0 : decide (0 < (a0.size : Int)) = true := decide_eq_true c7
              have c7b1 : decide (0 < a0.size) = true := decide_eq_true (by omega)
              clear c7
              replace H := Option.bind_eq_some_iff.mp H
              obtain ⟨t207, A90, H⟩ := H
              replace H : (some ((Go.bits .and .u8 t207 8) != 0)) = some r := H
              have A9 := Aside0.mk A90
              clear A90
              obtain rfl := Option.some.inj H
              have p8 : 0 ≤ (0 : Int) := (by omega)
              have q8 : 0 < a0.size := (by have : (0 : Int) < (a0.size : Int) := of_decide_eq_true (by first | (with_reducible assumption) | assumption); omega)
              have hx8 : ∀ h : 0 < a0.size, ((a0[0]'h).toNat : Int) = bt a0 0 := bt_at a0 0
              clear p8
              have qi8 : (0 < (a0.size : Int)) = True := eq_true (of_decide_eq_true (by first | (with_reducible assumption) | assumption))
              replace q8 := eq_true q8
              go_enter Tryd.func34, Tryd.ntmps34
              go_wp2_with (first | (go_at_call 36; (with_reducible refine (words_of.calls (bt a0 0) t207 _ ?side1 A9.out).mono ?_); (case side1 => first | (with_reducible exact HT.out) | (with_reducible exact HT.out.drewN _) | (with_reducible exact HT.out.drew) | (with_reducible exact (HT.out.drewN _).drewN _)); rintro e w' ⟨rfl, ⟨nd, rfl⟩⟩))
              go_ret
              exact ⟨by first | rfl | (simp; done) | (simp [*]; done), by repeat (first | exact Drawn0.refl _ | apply Drawn0.step)⟩
            · rw [if_neg c7] at H
              exact absurd H (by simp)
        · rw [if_neg c5] at H
          have c5b0 : ((a0.size : Int) == 1) = false := beq_eq_false_iff_ne.mpr c5
          have c5b1 : ((a0.size : Int) != 1) = true := bne_iff_ne.mpr c5
          obtain rfl := Option.some.inj H
          go_enter Tryd.func34, Tryd.ntmps34
          go_wp2
          go_ret
          exact ⟨by first | rfl | (simp; done) | (simp [*]; done), by repeat (first | exact Drawn0.refl _ | apply Drawn0.step)⟩

-- NOT PRINTED: function 18 (words_written)

-- NOT PRINTED: function 52 (abi_NoEscape)

end Go.Proofs.YtgcgpeeokdnplaaDoor.PA
end
section
/- The Go functions of this seat that the laws of part A come to, each as a plain Lean function ('f', its loops 'l0' ..) with a proof that the call comes to its answer. Conditions: where a function comes to a package-level table, the world holds that table ('Tabs'). Written by a program of this session (a changed copy of the print). -/
namespace Go.Proofs.YtgcgpeeokdnplaaDoor.PA
open Go.RowKit Go.Proofs.YtgcgpeeokdnplaaDoorW.PrintWords Go.Proofs.YtgcgpeeokdnplaaDoorW.PrintLast Go.Proofs.YtgcgpeeokdnplaaDoorW.PrintMore
attribute [local go_sem] max2_int min2_int max_two min_two max_three min_three max_four min_four   -- for this text's walks alone
set_option linter.unusedVariables false
set_option linter.unusedSimpArgs false

/-! ### days_date: function 50 -/
mutual
def days_date.j1 : Nat → Int → Int → Option (Int × Int × Int)
  | 0, _, _ => none
  | k + 1, x0, x3 => (days_daysAhead.f x3).bind fun t172 => (days_date.l1 k x3 (wrap64 (x0 - t172)) 1)
def days_date.l1 : Nat → Int → Int → Int → Option (Int × Int × Int)
  | 0, _, _, _ => none
  | k + 1, x3, x4, x5 => (days_Last.f k x3 x5).bind fun t173 => (if x4 < t173 then (some (x3, x5, wrap64 (x4 + 1))) else (days_date.l1 k x3 (wrap64 (x4 - t173)) (wrap64 (x5 + 1))))
def days_date.l0 : Nat → Int → Int → Option (Int × Int × Int)
  | 0, _, _ => none
  | k + 1, x0, x3 => if x3 < 2199 then ((days_daysAhead.f (wrap64 (x3 + 1))).bind fun t171 => (if t171 ≤ x0 then (days_date.l0 k x0 (wrap64 (x3 + 1))) else (days_date.j1 k x0 x3))) else (days_date.j1 k x0 x3)
end
def days_date.f (k : Nat) (a0 : Int) : Option (Int × Int × Int) := days_date.l0 k a0 (wrap64 (1900 + (wrap64 (Int.tdiv a0 366))))
theorem days_date.mono_l : ∀ k, (∀ y0 y1, LeO (days_date.j1 k y0 y1) (days_date.j1 (k + 1) y0 y1)) ∧ (∀ y0 y1 y2, LeO (days_date.l1 k y0 y1 y2) (days_date.l1 (k + 1) y0 y1 y2)) ∧ (∀ y0 y1, LeO (days_date.l0 k y0 y1) (days_date.l0 (k + 1) y0 y1))
  | 0 => ⟨fun _ _ r h => by simp [days_date.j1] at h, fun _ _ _ r h => by simp [days_date.l1] at h, fun _ _ r h => by simp [days_date.l0] at h⟩
  | k + 1 => by
    obtain ⟨ih0, ih1, ih2⟩ := days_date.mono_l k
    refine ⟨?_, ?_, ?_⟩
    · intro y0 y1
      unfold days_date.j1
      repeat' first
      | (with_reducible exact ih0 _ _)
      | (with_reducible exact ih1 _ _ _)
      | (with_reducible exact ih2 _ _)
      | (with_reducible exact days_Last.mono _ _ _)
      | (with_reducible exact LeO.refl _)
      | (with_reducible exact LeO.none _)
      | (with_reducible refine LeO.ite ?_ ?_)
      | (with_reducible refine LeO.bind ?_ (fun _ => ?_))
      | exact ih0 _ _
      | exact ih1 _ _ _
      | exact ih2 _ _
      | exact days_Last.mono _ _ _
      | exact LeO.none _
      | refine LeO.ite ?_ ?_
      | refine LeO.bind ?_ (fun _ => ?_)
    · intro y0 y1 y2
      unfold days_date.l1
      repeat' first
      | (with_reducible exact ih0 _ _)
      | (with_reducible exact ih1 _ _ _)
      | (with_reducible exact ih2 _ _)
      | (with_reducible exact days_Last.mono _ _ _)
      | (with_reducible exact LeO.refl _)
      | (with_reducible exact LeO.none _)
      | (with_reducible refine LeO.ite ?_ ?_)
      | (with_reducible refine LeO.bind ?_ (fun _ => ?_))
      | exact ih0 _ _
      | exact ih1 _ _ _
      | exact ih2 _ _
      | exact days_Last.mono _ _ _
      | exact LeO.none _
      | refine LeO.ite ?_ ?_
      | refine LeO.bind ?_ (fun _ => ?_)
    · intro y0 y1
      unfold days_date.l0
      repeat' first
      | (with_reducible exact ih0 _ _)
      | (with_reducible exact ih1 _ _ _)
      | (with_reducible exact ih2 _ _)
      | (with_reducible exact days_Last.mono _ _ _)
      | (with_reducible exact LeO.refl _)
      | (with_reducible exact LeO.none _)
      | (with_reducible refine LeO.ite ?_ ?_)
      | (with_reducible refine LeO.bind ?_ (fun _ => ?_))
      | exact ih0 _ _
      | exact ih1 _ _ _
      | exact ih2 _ _
      | exact days_Last.mono _ _ _
      | exact LeO.none _
      | refine LeO.ite ?_ ?_
      | refine LeO.bind ?_ (fun _ => ?_)
theorem days_date.mono : ∀ a0 k, LeO (days_date.f k a0) (days_date.f (k + 1) a0) := by
  intro a0 k
  obtain ⟨ih0, ih1, ih2⟩ := days_date.mono_l k
  unfold days_date.f
  repeat' first
      | (with_reducible exact ih0 _ _)
      | (with_reducible exact ih1 _ _ _)
      | (with_reducible exact ih2 _ _)
      | (with_reducible exact days_Last.mono _ _ _)
      | (with_reducible exact LeO.refl _)
      | (with_reducible exact LeO.none _)
      | (with_reducible refine LeO.ite ?_ ?_)
      | (with_reducible refine LeO.bind ?_ (fun _ => ?_))
      | exact ih0 _ _
      | exact ih1 _ _ _
      | exact ih2 _ _
      | exact days_Last.mono _ _ _
      | exact LeO.none _
      | refine LeO.ite ?_ ?_
      | refine LeO.bind ?_ (fun _ => ?_)
set_option maxHeartbeats 8000000 in
set_option maxRecDepth 100000 in
theorem days_date.calls (k : Nat) (a0 : Int) (r1 : Int) (r2 : Int) (r3 : Int) (w : World) (hT : Tabs w) (h : days_date.f k a0 = some (r1, r2, r3)) :
    Calls Tryd.prog 50 #[.int .i64 a0] w fun e w' => e = .returned (.agg #[.int .i64 r1, .int .i64 r2, .int .i64 r3]) ∧ Below w.heap.size w w' := by
  have hu88 := Tryd.underlying88
  have HB := Aside0.mk (Below.refl w.heap.size w)
  have HT := Aside0.mk hT
  clear hT
  have H : (days_date.l0 k a0 (wrap64 (1900 + (wrap64 (Int.tdiv a0 366))))) = some (r1, r2, r3) := h
  clear h
  have HC2 := Aside0.mk H
  clear H
  go_enter Tryd.func50, Tryd.ntmps50
  go_upto_block 0 with (first | ((with_reducible refine gate_dst (N := 2) rfl ?_); refine box_event ?hg (N := 2) ?hd (cs := #[.int .i64 0, .int .i64 0, .int .i64 0]) (t := 88) ?hr ?_; (case hd => rfl); (case hg => rfl); (case hr => first | (go_simp; done) | (go_simp; rfl)); intro gb170 hg w3 hbox hb; have n0_ := Aside0.mk (below_step (by repeat (first | (with_reducible first | exact HB.out | apply below_alloc | apply pw_below_drewN | apply below_drew1) | exact HB.out)) hb); have n1_ := Aside0.mk (hbox); have n2_ := Aside0.mk ((by rw [hg]; exact (below_size (by repeat (first | (with_reducible first | exact HB.out | apply below_alloc | apply pw_below_drewN | apply below_drew1) | exact HB.out))) : w.heap.size ≤ gb170)); have n3_ := Aside0.mk ((by rw [hg]; exact (below_size (by repeat (first | (with_reducible first | exact HB.out | apply below_alloc | apply pw_below_drewN | apply below_drew1) | exact HB.out))) : w.heap.size ≤ gb170)); clear HB; have HB := n0_; have BK170 := n1_; have GW170 := n2_; have GE170 := n3_; clear n0_ n1_ n2_ n3_; clear hb hbox hg))
  (try simp only [Act.put, List.setIfInBounds_toArray, List.set_cons_zero, List.set_cons_succ])
  go_cut [3] (fun v3 wc => ∃ (kq : Nat) (x3_1 : Int), v3 = .int .i64 x3_1 ∧ Aside0 (days_date.j1 kq a0 x3_1 = some (r1, r2, r3)) ∧ Aside0 (kq ≤ k) ∧ Aside0 (wc.heap[gb170]? = some (.cells #[.int .i64 0, .int .i64 0, .int .i64 0] 88 (0, 0))) ∧ Aside0 (Below w.heap.size w wc))
  case first =>
    have H := HC2.out
    clear HC2
    have H' := Aside0.mk H
    clear H
    go_wp2
    go_loopg [3] k (fun kq v3 w' => ∃ (x3_1 : Int), v3 = .int .i64 x3_1 ∧ Aside0 (days_date.l0 kq a0 x3_1 = some (r1, r2, r3)) ∧ Aside0 (kq ≤ k) ∧ Aside0 (w'.heap[gb170]? = some (.cells #[.int .i64 0, .int .i64 0, .int .i64 0] 88 (0, 0))) ∧ Aside0 (Below w.heap.size w w'))
    case atStart => exact ⟨(wrap64 (1900 + (wrap64 (Int.tdiv a0 366)))), (by first | rfl | (simp; done) | (simp [*]; done)), H', ⟨Nat.le_refl _⟩, ⟨by (with_reducible repeat (first | refine blk_drewN ?_ _ | refine blk_drew ?_ | refine blk_alloc ?_ _)); exact BK170.out⟩, ⟨by repeat (first | (with_reducible first | exact HB.out | apply below_alloc | apply pw_below_drewN | apply below_drew1 | refine below_set ?_ GE170.out) | exact HB.out)⟩⟩
    case round =>
      clear H'
      try clear p2
      obtain ⟨x3_1, rfl, HA, HK1, BK170, HB⟩ := hrel
      cases gk with
      | zero => exact absurd HA.out (by simp [days_date.l0])
      | succ k1 =>
        have H := HA.out
        clear HA
        simp only [days_date.l0] at H
        by_cases c4 : x3_1 < 2199
        · rw [if_pos c4] at H
          have c4b0 : decide (x3_1 < 2199) = true := decide_eq_true c4
          clear c4
          (first | rw [c4b0] | (simp only [i64_w, i32_w]; rw [c4b0]) | skip)
          replace H := Option.bind_eq_some_iff.mp H
          obtain ⟨t171, A50, H⟩ := H
          replace H : (if t171 ≤ a0 then (days_date.l0 k1 a0 (wrap64 (x3_1 + 1))) else (days_date.j1 k1 a0 x3_1)) = some (r1, r2, r3) := H
          have A5 := Aside0.mk A50
          clear A50
          by_cases c6 : t171 ≤ a0
          · rw [if_pos c6] at H
            have c6b0 : decide (t171 ≤ a0) = true := decide_eq_true c6
            clear c6
            have H' := Aside0.mk H
            clear H
            go_wp2_with (first | (go_at_call 67; (with_reducible refine (days_daysAhead.calls (wrap64 (x3_1 + 1)) t171 _ A5.out).mono ?_); rintro e w' ⟨rfl, ⟨nd, rfl⟩⟩))
            go_roundg k1
            case measure => have := HK1.out; omega
            case rel => exact ⟨(wrap64 (x3_1 + 1)), (by first | rfl | (simp; done) | (simp [*]; done)), H', ⟨by have := HK1.out; omega⟩, ⟨by (with_reducible repeat (first | refine blk_drewN ?_ _ | refine blk_drew ?_ | refine blk_alloc ?_ _)); exact BK170.out⟩, ⟨by repeat (first | (with_reducible first | exact HB.out | apply below_alloc | apply pw_below_drewN | apply below_drew1 | refine below_set ?_ GE170.out) | exact HB.out)⟩⟩
          · rw [if_neg c6] at H
            have c6b0 : decide (t171 ≤ a0) = false := decide_eq_false c6
            clear c6
            have H' := Aside0.mk H
            clear H
            go_wp2_with (first | (go_at_call 67; (with_reducible refine (days_daysAhead.calls (wrap64 (x3_1 + 1)) t171 _ A5.out).mono ?_); rintro e w' ⟨rfl, ⟨nd, rfl⟩⟩))
            go_meet
            case rel => exact ⟨_, (x3_1), (by first | rfl | (simp; done) | (simp [*]; done)), H', ⟨by have := HK1.out; first | omega | exact Nat.le_refl _⟩, ⟨by (with_reducible repeat (first | refine blk_drewN ?_ _ | refine blk_drew ?_ | refine blk_alloc ?_ _)); exact BK170.out⟩, ⟨by repeat (first | (with_reducible first | exact HB.out | apply below_alloc | apply pw_below_drewN | apply below_drew1 | refine below_set ?_ GE170.out) | exact HB.out)⟩⟩
        · rw [if_neg c4] at H
          have c4b0 : decide (x3_1 < 2199) = false := decide_eq_false c4
          clear c4
          (first | rw [c4b0] | (simp only [i64_w, i32_w]; rw [c4b0]) | skip)
          have H' := Aside0.mk H
          clear H
          go_wp2
          go_meet
          case rel => exact ⟨_, (x3_1), (by first | rfl | (simp; done) | (simp [*]; done)), H', ⟨by have := HK1.out; first | omega | exact Nat.le_refl _⟩, ⟨by (with_reducible repeat (first | refine blk_drewN ?_ _ | refine blk_drew ?_ | refine blk_alloc ?_ _)); exact BK170.out⟩, ⟨by repeat (first | (with_reducible first | exact HB.out | apply below_alloc | apply pw_below_drewN | apply below_drew1 | refine below_set ?_ GE170.out) | exact HB.out)⟩⟩
  case rest =>
    clear HC2
    try clear p2
    try clear c4
    try clear c4b0
    try clear c5
    try clear c6
    try clear c6b0
    try clear p6
    try clear p2
    obtain ⟨kq, x3_1, rfl, HA, HJ1, BK170, HB⟩ := hcut
    cases kq with
    | zero => exact absurd HA.out (by simp [days_date.j1])
    | succ kj1 =>
      have H := HA.out
      clear HA
      simp only [days_date.j1] at H
      replace H := Option.bind_eq_some_iff.mp H
      obtain ⟨t172, A70, H⟩ := H
      replace H : (days_date.l1 kj1 x3_1 (wrap64 (a0 - t172)) 1) = some (r1, r2, r3) := H
      have A7 := Aside0.mk A70
      clear A70
      have H' := Aside0.mk H
      clear H
      go_wp2_with (first | ((with_reducible refine gate_callee (f := 67) rfl ?_); refine goesL_ (some 23) rfl rfl Tryd.func67 (by kernel_rfl) rfl #[.int .i64 x3_1] rfl (by (try simp only [List.map_toArray, List.map_cons, List.map_nil]); first | done | rfl | (simp only [List.length_drop, List.length_take]; rfl)) ?_; (with_reducible refine (days_daysAhead.calls x3_1 t172 _ A7.out).mono ?_); rintro e w' ⟨rfl, ⟨nd, rfl⟩⟩; refine ⟨_, rfl, ?_⟩))
      go_loopg [4, 5] kj1 (fun kq v4 v5 w' => ∃ (x4_2 : Int) (x5_2 : Int) (x171000_2 : Int) (x171001_2 : Int) (x171002_2 : Int), v4 = .int .i64 x4_2 ∧ v5 = .int .i64 x5_2 ∧ Aside0 (days_date.l1 kq x3_1 x4_2 x5_2 = some (r1, r2, r3)) ∧ Aside0 (kq ≤ kj1) ∧ Aside0 (w'.heap[gb170]? = some (.cells #[.int .i64 x171000_2, .int .i64 x171001_2, .int .i64 x171002_2] 88 (0, 0))) ∧ Aside0 (Below w.heap.size w w'))
      case atStart => exact ⟨(wrap64 (a0 - t172)), (1), (0), (0), (0), (by first | rfl | (simp; done) | (simp [*]; done)), (by first | rfl | (simp; done) | (simp [*]; done)), H', ⟨Nat.le_refl _⟩, ⟨by (with_reducible repeat (first | refine blk_drewN ?_ _ | refine blk_drew ?_ | refine blk_alloc ?_ _)); exact BK170.out⟩, ⟨by repeat (first | (with_reducible first | exact HB.out | apply below_alloc | apply pw_below_drewN | apply below_drew1 | refine below_set ?_ GE170.out) | exact HB.out)⟩⟩
      case round =>
        clear H'
        try clear p2
        try clear c4
        try clear c4b0
        try clear c5
        try clear c6
        try clear c6b0
        try clear p6
        try clear p2
        try clear p6
        obtain ⟨x4_2, x5_2, x171000_2, x171001_2, x171002_2, rfl, rfl, HA, HK2, BK170, HB⟩ := hrel
        cases gk with
        | zero => exact absurd HA.out (by simp [days_date.l1])
        | succ k2 =>
          have H := HA.out
          clear HA
          simp only [days_date.l1] at H
          replace H := Option.bind_eq_some_iff.mp H
          obtain ⟨t173, A80, H⟩ := H
          replace H : (if x4_2 < t173 then (some (x3_1, x5_2, wrap64 (x4_2 + 1))) else (days_date.l1 k2 x3_1 (wrap64 (x4_2 - t173)) (wrap64 (x5_2 + 1)))) = some (r1, r2, r3) := H
          have A8 := Aside0.mk A80
          clear A80
          by_cases c9 : x4_2 < t173
          · rw [if_pos c9] at H
            have c9b0 : decide (x4_2 < t173) = true := decide_eq_true c9
            clear c9
            simp only [Option.some.injEq, Prod.mk.injEq] at H
            obtain ⟨rfl, rfl, rfl⟩ := H
            go_wp2_with (first | ((with_reducible refine gate_callee (f := 68) rfl ?_); refine goesL_ (some 29) rfl rfl Tryd.func68 (by kernel_rfl) rfl #[.int .i64 x3_1, .int .i64 x5_2] rfl (by (try simp only [List.map_toArray, List.map_cons, List.map_nil]); first | done | rfl | (simp only [List.length_drop, List.length_take]; rfl)) ?_; (with_reducible refine (days_Last.calls k2 x3_1 x5_2 t173 _ ?side1 A8.out).mono ?_); (case side1 => first | (with_reducible exact HT.out) | (with_reducible exact HT.out.below HB.out) | (with_reducible refine Tabs.below HT.out ?_; repeat (first | (with_reducible first | exact HB.out | apply below_alloc | apply pw_below_drewN | apply below_drew1 | refine below_set ?_ GE170.out) | exact HB.out))); rintro e w' ⟨rfl, ⟨nd, rfl⟩⟩; refine ⟨_, rfl, ?_⟩; (try (rw [drewN_self wr]; generalize hq_ : World.drewN wr _ = wr; have n0_ : Aside0 (wr.heap[gb170]? = some (.cells #[.int .i64 x171000_2, .int .i64 x171001_2, .int .i64 x171002_2] 88 (0, 0))) := ⟨by rw [← hq_]; exact (by (with_reducible repeat (first | refine blk_drewN ?_ _ | refine blk_drew ?_ | refine blk_alloc ?_ _)); exact BK170.out)⟩; have n1_ : Aside0 (Below w.heap.size w wr) := ⟨by rw [← hq_]; exact (by repeat (first | (with_reducible first | exact HB.out | apply below_alloc | apply pw_below_drewN | apply below_drew1 | refine below_set ?_ GE170.out) | exact HB.out))⟩; clear BK170 HB hq_; have BK170 := n0_; have HB := n1_; clear n0_ n1_)); have hcz10_0 : wr.cell? ⟨gb170, 0, none⟩ = some (.int .i64 x171000_2) := (blk_cell BK170.out 0).trans rfl; have hcz10_1 : wr.cell? ⟨gb170, 1, none⟩ = some (.int .i64 x171001_2) := (blk_cell BK170.out 1).trans rfl; have hcz10_2 : wr.cell? ⟨gb170, 2, none⟩ = some (.int .i64 x171002_2) := (blk_cell BK170.out 2).trans rfl; have hfz10_0 := blk_frozen BK170.out 0; have hfz10_1 := blk_frozen BK170.out 1; have hfz10_2 := blk_frozen BK170.out 2))
            refine bodyPost_ret (results_cell_row rfl _ _ gb170 88 #[.int .i64 x3_1, .int .i64 x5_2, .int .i64 (wrap64 (x4_2 + 1))] (0, 0) _ rfl (by (with_reducible repeat (first | refine blk_drewN ?_ _ | refine blk_drew ?_ | refine blk_alloc ?_ _)); refine blk_put (cs := #[.int .i64 x3_1, .int .i64 x5_2, .int .i64 x171002_2]) ?_ 2 _ rfl; (with_reducible repeat (first | refine blk_drewN ?_ _ | refine blk_drew ?_ | refine blk_alloc ?_ _)); refine blk_put (cs := #[.int .i64 x3_1, .int .i64 x171001_2, .int .i64 x171002_2]) ?_ 1 _ rfl; (with_reducible repeat (first | refine blk_drewN ?_ _ | refine blk_drew ?_ | refine blk_alloc ?_ _)); refine blk_put (cs := #[.int .i64 x171000_2, .int .i64 x171001_2, .int .i64 x171002_2]) ?_ 0 _ rfl; (with_reducible repeat (first | refine blk_drewN ?_ _ | refine blk_drew ?_ | refine blk_alloc ?_ _)); exact BK170.out) Tryd.underlying88 rfl (by kernel_rfl)) rfl ?_
            exact ⟨by first | rfl | (simp [errW_none, errW_some] <;> rfl) | (simp [*, errW_none, errW_some] <;> rfl), by repeat (first | (with_reducible first | exact HB.out | apply below_alloc | apply pw_below_drewN | apply below_drew1 | refine below_set ?_ GE170.out) | exact HB.out)⟩
          · rw [if_neg c9] at H
            have c9b0 : decide (x4_2 < t173) = false := decide_eq_false c9
            clear c9
            have H' := Aside0.mk H
            clear H
            go_wp2_with (first | ((with_reducible refine gate_callee (f := 68) rfl ?_); refine goesL_ (some 29) rfl rfl Tryd.func68 (by kernel_rfl) rfl #[.int .i64 x3_1, .int .i64 x5_2] rfl (by (try simp only [List.map_toArray, List.map_cons, List.map_nil]); first | done | rfl | (simp only [List.length_drop, List.length_take]; rfl)) ?_; (with_reducible refine (days_Last.calls k2 x3_1 x5_2 t173 _ ?side1 A8.out).mono ?_); (case side1 => first | (with_reducible exact HT.out) | (with_reducible exact HT.out.below HB.out) | (with_reducible refine Tabs.below HT.out ?_; repeat (first | (with_reducible first | exact HB.out | apply below_alloc | apply pw_below_drewN | apply below_drew1 | refine below_set ?_ GE170.out) | exact HB.out))); rintro e w' ⟨rfl, ⟨nd, rfl⟩⟩; refine ⟨_, rfl, ?_⟩))
            go_roundg k2
            case measure => have := HJ1.out; have := HK2.out; omega
            case rel => exact ⟨(wrap64 (x4_2 - t173)), (wrap64 (x5_2 + 1)), (x171000_2), (x171001_2), (x171002_2), (by first | rfl | (simp; done) | (simp [*]; done)), (by first | rfl | (simp; done) | (simp [*]; done)), H', ⟨by have := HJ1.out; have := HK2.out; omega⟩, ⟨by (with_reducible repeat (first | refine blk_drewN ?_ _ | refine blk_drew ?_ | refine blk_alloc ?_ _)); exact BK170.out⟩, ⟨by repeat (first | (with_reducible first | exact HB.out | apply below_alloc | apply pw_below_drewN | apply below_drew1 | refine below_set ?_ GE170.out) | exact HB.out)⟩⟩

end Go.Proofs.YtgcgpeeokdnplaaDoor.PA
end
section
/- The Go functions of this seat that the laws of part A come to, each as a plain Lean function ('f', its loops 'l0' ..) with a proof that the call comes to its answer. Conditions: where a function comes to a package-level table, the world holds that table ('Tabs'). Written by a program of this session (a changed copy of the print). -/
namespace Go.Proofs.YtgcgpeeokdnplaaDoor.PA
open Go.RowKit Go.Proofs.YtgcgpeeokdnplaaDoorW.PrintWords Go.Proofs.YtgcgpeeokdnplaaDoorW.PrintLast Go.Proofs.YtgcgpeeokdnplaaDoorW.PrintMore
attribute [local go_sem] max2_int min2_int max_two min_two max_three min_three max_four min_four   -- for this text's walks alone
set_option linter.unusedVariables false
set_option linter.unusedSimpArgs false

/-! ### days_digits: function 51 -/
def days_digits.l0 : Nat → Int → List Int → Int → Option (ByteArray)
  | 0, _, _, _ => none
  | k + 1, x0, x5, x6 => if x6 ≥ 0 then (if 0 ≤ x6 then (if x6 < (x5.length : Int) then (days_digits.l0 k (wrap64 (Int.tdiv x0 10)) (x5.set (x6 : Int).toNat ((wrap64 (48 + (Int.tmod x0 10))) % 256)) (wrap64 (x6 - 1))) else (none)) else (none)) else (some (strOfNums x5))
def days_digits.f (k : Nat) (a0 : Int) (a1 : Int) : Option (ByteArray) := if 0 ≤ a1 then (if (a1 : Int).toNat ≤ 281474976710656 then (days_digits.l0 k a0 (List.replicate (a1 : Int).toNat 0) (wrap64 (a1 - 1))) else (none)) else (none)
theorem days_digits.mono_l : ∀ k, (∀ y0 y1 y2, LeO (days_digits.l0 k y0 y1 y2) (days_digits.l0 (k + 1) y0 y1 y2))
  | 0 => fun _ _ _ r h => by simp [days_digits.l0] at h
  | k + 1 => by
    have ih0 := days_digits.mono_l k
    · intro y0 y1 y2
      unfold days_digits.l0
      repeat' first
      | (with_reducible exact ih0 _ _ _)
      | (with_reducible exact LeO.refl _)
      | (with_reducible exact LeO.none _)
      | (with_reducible refine LeO.ite ?_ ?_)
      | (with_reducible refine LeO.bind ?_ (fun _ => ?_))
      | exact ih0 _ _ _
      | exact LeO.none _
      | refine LeO.ite ?_ ?_
      | refine LeO.bind ?_ (fun _ => ?_)
theorem days_digits.mono : ∀ a0 a1 k, LeO (days_digits.f k a0 a1) (days_digits.f (k + 1) a0 a1) := by
  intro a0 a1 k
  have ih0 := days_digits.mono_l k
  unfold days_digits.f
  repeat' first
      | (with_reducible exact ih0 _ _ _)
      | (with_reducible exact LeO.refl _)
      | (with_reducible exact LeO.none _)
      | (with_reducible refine LeO.ite ?_ ?_)
      | (with_reducible refine LeO.bind ?_ (fun _ => ?_))
      | exact ih0 _ _ _
      | exact LeO.none _
      | refine LeO.ite ?_ ?_
      | refine LeO.bind ?_ (fun _ => ?_)
set_option maxHeartbeats 8000000 in
set_option maxRecDepth 100000 in
theorem days_digits.calls (k : Nat) (a0 : Int) (a1 : Int) (r : ByteArray) (w : World) (h : days_digits.f k a0 a1 = some r) :
    Calls Tryd.prog 51 #[.int .i64 a0, .int .i64 a1] w fun e w' => e = .returned (.string r) ∧ Below w.heap.size w w' := by
  have HB := Aside0.mk (Below.refl w.heap.size w)
  have H : (if 0 ≤ a1 then (if (a1 : Int).toNat ≤ 281474976710656 then (days_digits.l0 k a0 (List.replicate (a1 : Int).toNat 0) (wrap64 (a1 - 1))) else (none)) else (none)) = some r := h
  clear h
  by_cases c3 : 0 ≤ a1
  · rw [if_pos c3] at H
    have c3b0 := eq_true c3
    have c3b1 : decide (0 ≤ a1) = true := decide_eq_true c3
    clear c3
    by_cases c4 : (a1 : Int).toNat ≤ 281474976710656
    · rw [if_pos c4] at H
      have c4b0 := eq_true c4
      have c4b1 : decide ((a1 : Int).toNat ≤ 281474976710656) = true := decide_eq_true c4
      clear c4
      obtain ⟨y174, hy174⟩ : ∃ y_ : List Int, y_ = (List.replicate (a1 : Int).toNat 0) := ⟨_, rfl⟩
      replace H : (days_digits.l0 k a0 y174 (wrap64 (a1 - 1))) = some r := by first | (rw [hy174]; with_reducible exact H) | (have H2_ := (Option.bind_some _ _).symm.trans H; rw [hy174]; with_reducible exact H2_) | (have H2_ := (Option.bind_some _ _).symm.trans H; with_reducible exact H2_) | with_reducible exact H | (rw [hy174]; exact H) | exact H
      have Ny174 := Aside0.mk hy174
      clear hy174
      have H' := Aside0.mk H
      clear H
      go_enter Tryd.func51, Tryd.ntmps51
      go_wp2_with (first | ((with_reducible refine gate_dst (N := 8) rfl ?_); refine Kd.R_make (Kd.int .u8) _ 5 rfl (N := 8) rfl 49 _ _ rfl a1 rfl rfl Tryd.underlying49 (.int .u8 0) 1 info5 rfl (by decide) (by omega) 0 (ok := fun _ => True) (okp := fun _ => True) rfl (fun _ hk => hk) trivial (of_decide_eq_true (by first | (with_reducible assumption) | assumption)) (Nat.le_trans (Nat.mul_le_mul_right _ (of_decide_eq_true (by first | (with_reducible assumption) | assumption) : a1.toNat ≤ 281474976710656)) (by omega)) (Below.refl _ _) (Nat.le_refl _) ?_; intro v175 w5 ho6 hb hg_ hnew_; clear hg_ hnew_; (first | rw [← Ny174.out] at ho6 | (simp only [Int.reduceToNat] at ho6; rw [← Ny174.out] at ho6)); have n0_ := Aside0.mk (Kd.R_lower ho6 (below_size (by repeat (first | (with_reducible first | exact HB.out | apply below_alloc | apply pw_below_drewN | apply below_drew1) | exact HB.out)))); have n1_ := Aside0.mk (below_step (by repeat (first | (with_reducible first | exact HB.out | apply below_alloc | apply pw_below_drewN | apply below_drew1) | exact HB.out)) hb); clear HB; have HO176 := n0_; have HB := n1_; clear n0_ n1_; clear hb ho6))
      go_loopg [0, 6] k (fun kq v0 v6 w' => ∃ (x0_1 : Int) (x5_1 : List Int) (x6_1 : Int), v0 = .int .i64 x0_1 ∧ v6 = .int .i64 x6_1 ∧ Aside0 (days_digits.l0 kq x0_1 x5_1 x6_1 = some r) ∧ Aside0 (kq ≤ k) ∧ Aside0 (Kd.R (Kd.int .u8) 5 w' w.heap.size (fun _ => True) v175 x5_1) ∧ Aside0 (Below w.heap.size w w'))
      case atStart => exact ⟨(a0), (y174), (wrap64 (a1 - 1)), (by first | rfl | (simp; done) | (simp [*]; done)), (by first | rfl | (simp; done) | (simp [*]; done)), H', ⟨Nat.le_refl _⟩, ⟨by (with_reducible repeat (first | apply Kd.R_alloc | apply Kd.R_drewN | apply Kd.R_drew)); exact HO176.out⟩, ⟨by repeat (first | (with_reducible first | exact HB.out | apply below_alloc | apply pw_below_drewN | apply below_drew1) | exact HB.out)⟩⟩
      case round =>
        clear H'
        try clear p2
        try clear c3
        try clear c3b0
        try clear c3b1
        try clear c4
        try clear c4b0
        try clear c4b1
        try clear c5
        try clear p6
        obtain ⟨x0_1, x5_1, x6_1, rfl, rfl, HA, HK1, HO_5, HB⟩ := hrel
        cases gk with
        | zero => exact absurd HA.out (by simp [days_digits.l0])
        | succ k1 =>
          have H := HA.out
          clear HA
          simp only [days_digits.l0] at H
          by_cases c7 : x6_1 ≥ 0
          · rw [if_pos c7] at H
            have c7b0 : decide (0 ≤ x6_1) = true := decide_eq_true c7
            clear c7
            by_cases c8 : 0 ≤ x6_1
            · rw [if_pos c8] at H
              have c8b0 : decide (0 ≤ x6_1) = true := decide_eq_true c8
              clear c8
              by_cases c9 : x6_1 < (x5_1.length : Int)
              · rw [if_pos c9] at H
                have c9b0 : decide (x6_1 < (x5_1.length : Int)) = true := decide_eq_true c9
                clear c9
                obtain ⟨y177, hy177⟩ : ∃ y_ : List Int, y_ = (x5_1.set (x6_1 : Int).toNat ((wrap64 (48 + (Int.tmod x0_1 10))) % 256)) := ⟨_, rfl⟩
                replace H : (days_digits.l0 k1 (wrap64 (Int.tdiv x0_1 10)) y177 (wrap64 (x6_1 - 1))) = some r := by first | (rw [hy177]; with_reducible exact H) | (have H2_ := (Option.bind_some _ _).symm.trans H; rw [hy177]; with_reducible exact H2_) | (have H2_ := (Option.bind_some _ _).symm.trans H; with_reducible exact H2_) | with_reducible exact H | (rw [hy177]; exact H) | exact H
                have Ny177 := Aside0.mk hy177
                clear hy177
                have H' := Aside0.mk H
                clear H
                have p10 : 0 ≤ (x6_1 : Int) := of_decide_eq_true (by first | (with_reducible assumption) | assumption)
                have q10 : (x6_1 : Int) < ((x5_1.length : Int) : Int) := of_decide_eq_true (by first | (with_reducible assumption) | assumption)
                obtain ⟨go10, co10, eo10, gb10, gl10, cl10, HG10⟩ := Kd.R_form HO_5.out (by omega)
                (first | cases eo10 | (injection eo10 with ea_ en_ ec_; (first | subst ea_ | (injection ea_ with ea_; subst ea_)); subst ec_; clear en_))
                have GB10 := Aside0.mk gb10
                have GG10 := Aside0.mk HG10
                clear gb10 gl10 HG10
                obtain ⟨hx10_0, hf10_0⟩ := Kd.R_celln 0 HO_5.out (x6_1 : Int) p10 q10
                replace p10 := eq_true p10
                replace q10 := eq_true q10
                have HP11 := Kd.R_putg HO_5.out (x6_1 : Int) ((wrap64 (48 + (Int.tmod x0_1 10))) % 256)
                go_wp2_with (first | ((with_reducible refine gate_store (t := 5) (p := 21) rfl ?_); refine store_event (t := 5) (p := 21) (v := ?vo_w12) (w1 := (wr.setCell ⟨go10, (x6_1 : Int).toNat, none⟩ (.int .u8 ((wrap64 (48 + (Int.tmod x0_1 10))) % 256)))) ?hg ?ho ?hn ?hr ?_; (case ho => rfl); (case hg => rfl); (case hn => rfl); (case hr => first | (go_simp; done) | (go_simp; rfl)); intro w12 hw; have hg : wr.grownBy w12 (some go10) := (by rw [hw]; exact HP11.2); have hp_ : Kd.R (Kd.int .u8) 5 w12 w.heap.size (fun _ => True) (.slice (some ⟨go10, 0, none⟩) x5_1.length co10) y177 := (by rw [hw, Ny177.out]; exact HP11.1); clear HP11; have n0_ := Aside0.mk (hp_); have n1_ := Aside0.mk ((by rw [hw]; exact below_set (HB.out) GB10.out : Below w.heap.size w w12)); clear HO_5; clear HB; have HO_5 := n0_; have HB := n1_; clear n0_ n1_; clear hg hw hp_))
                go_roundg k1
                case measure => have := HK1.out; omega
                case rel => exact ⟨(wrap64 (Int.tdiv x0_1 10)), (y177), (wrap64 (x6_1 - 1)), (by first | rfl | (simp; done) | (simp [*]; done)), (by first | rfl | (simp; done) | (simp [*]; done)), H', ⟨by have := HK1.out; omega⟩, ⟨by (with_reducible repeat (first | apply Kd.R_alloc | apply Kd.R_drewN | apply Kd.R_drew)); exact HO_5.out⟩, ⟨by repeat (first | (with_reducible first | exact HB.out | apply below_alloc | apply pw_below_drewN | apply below_drew1) | exact HB.out)⟩⟩
              · rw [if_neg c9] at H
                exact absurd H (by simp)
            · rw [if_neg c8] at H
              exact absurd H (by simp)
          · rw [if_neg c7] at H
            have c7b0 : decide (0 ≤ x6_1) = false := decide_eq_false c7
            clear c7
            obtain rfl := Option.some.inj H
            have hcv13 := own_string (P := Tryd.prog) Tryd.underlying49 Tryd.underlying5 Tryd.underlying9 (Kd.own_of_R HO_5.out)
            go_wp2
            go_ret
            exact ⟨by first | rfl | (simp [errW_none, errW_some] <;> rfl) | (simp [*, errW_none, errW_some] <;> rfl), by repeat (first | (with_reducible first | exact HB.out | apply below_alloc | apply pw_below_drewN | apply below_drew1) | exact HB.out)⟩
    · rw [if_neg c4] at H
      exact absurd H (by simp)
  · rw [if_neg c3] at H
    exact absurd H (by simp)

end Go.Proofs.YtgcgpeeokdnplaaDoor.PA
end
section
/- The Go functions of this seat that the laws of part A come to, each as a plain Lean function ('f', its loops 'l0' ..) with a proof that the call comes to its answer. Conditions: where a function comes to a package-level table, the world holds that table ('Tabs'). Written by a program of this session (a changed copy of the print). -/
namespace Go.Proofs.YtgcgpeeokdnplaaDoor.PA
open Go.RowKit Go.Proofs.YtgcgpeeokdnplaaDoorW.PrintWords Go.Proofs.YtgcgpeeokdnplaaDoorW.PrintLast Go.Proofs.YtgcgpeeokdnplaaDoorW.PrintMore
attribute [local go_sem] max2_int min2_int max_two min_two max_three min_three max_four min_four   -- for this text's walks alone
set_option linter.unusedVariables false
set_option linter.unusedSimpArgs false

/-! ### days_Print: function 32 -/
def days_Print.f (k : Nat) (a0 : Int) : Option (ByteArray × Int) := (days_isDay.f a0).bind fun t178 => (if t178 = true then ((days_date.f k a0).bind fun bt179 => ((days_digits.f k bt179.1 4).bind fun t183 => (if t183.size + 1 ≤ 9223372036854775807 then ((days_digits.f k bt179.2.1 2).bind fun t184 => (if (t183 ++ (⟨#[45]⟩ : ByteArray)).size + t184.size ≤ 9223372036854775807 then (if ((t183 ++ (⟨#[45]⟩ : ByteArray)) ++ t184).size + 1 ≤ 9223372036854775807 then ((days_digits.f k bt179.2.2 2).bind fun t185 => (if (((t183 ++ (⟨#[45]⟩ : ByteArray)) ++ t184) ++ (⟨#[45]⟩ : ByteArray)).size + t185.size ≤ 9223372036854775807 then (some ((((t183 ++ (⟨#[45]⟩ : ByteArray)) ++ t184) ++ (⟨#[45]⟩ : ByteArray)) ++ t185, 0)) else (none))) else (none)) else (none))) else (none)))) else (some ((⟨#[]⟩ : ByteArray), 21)))
theorem days_Print.mono : ∀ a0 k, LeO (days_Print.f k a0) (days_Print.f (k + 1) a0) := by
  intro a0 k
  unfold days_Print.f
  repeat' first
      | (with_reducible exact days_date.mono _ _)
      | (with_reducible exact days_digits.mono _ _ _)
      | (with_reducible exact LeO.refl _)
      | (with_reducible exact LeO.none _)
      | (with_reducible refine LeO.ite ?_ ?_)
      | (with_reducible refine LeO.bind ?_ (fun _ => ?_))
      | exact days_date.mono _ _
      | exact days_digits.mono _ _ _
      | exact LeO.none _
      | refine LeO.ite ?_ ?_
      | refine LeO.bind ?_ (fun _ => ?_)
def days_Print.T4 : Bool × List (List Nat × List Nat) := (true, [([], []), ([0], [0]), ([1], [1]), ([2], [2]), ([], []), ([4], [4]), ([5, 2], [5]), ([3, 6], [3, 6]), ([7], [7]), ([], []), ([9], [9]), ([10, 6], [10]), ([8, 11], [8, 11]), ([12, 11, 0, 1, 2, 3, 4, 5, 6, 7, 8, 9, 10, 11, 12], [12]), ([13, 0, 1, 2, 3, 4, 5, 6, 7, 8, 9, 10, 11, 12, 13], [])])
def days_Print.B4 : List Nat := [0, 1, 3, 7, 0, 16, 55, 127, 255, 0, 512, 1655, 4095, 8191, 16383]
theorem days_Print.tab4 : rtab .any (opsOf Tryd.f32 4) = days_Print.T4 := by kernel_rfl
theorem days_Print.bits4 : waitsOk days_Print.T4.2 days_Print.B4 = true := by kernel_rfl
set_option maxHeartbeats 8000000 in
set_option maxRecDepth 100000 in
theorem days_Print.calls (k : Nat) (a0 : Int) (r1 : ByteArray) (r2 : Int) (w : World) (hT : Tabs w) (h : days_Print.f k a0 = some (r1, r2)) :
    Calls Tryd.prog 32 #[.int .i64 a0] w fun e w' => e = .returned (.tuple #[.string r1, .int .i64 r2]) ∧ Below w.heap.size w w' := by
  have hu88 := Tryd.underlying88
  have HB := Aside0.mk (Below.refl w.heap.size w)
  have HT := Aside0.mk hT
  clear hT
  have H : ((days_isDay.f a0).bind fun t178 => (if t178 = true then ((days_date.f k a0).bind fun bt179 => ((days_digits.f k bt179.1 4).bind fun t183 => (if t183.size + 1 ≤ 9223372036854775807 then ((days_digits.f k bt179.2.1 2).bind fun t184 => (if (t183 ++ (⟨#[45]⟩ : ByteArray)).size + t184.size ≤ 9223372036854775807 then (if ((t183 ++ (⟨#[45]⟩ : ByteArray)) ++ t184).size + 1 ≤ 9223372036854775807 then ((days_digits.f k bt179.2.2 2).bind fun t185 => (if (((t183 ++ (⟨#[45]⟩ : ByteArray)) ++ t184) ++ (⟨#[45]⟩ : ByteArray)).size + t185.size ≤ 9223372036854775807 then (some ((((t183 ++ (⟨#[45]⟩ : ByteArray)) ++ t184) ++ (⟨#[45]⟩ : ByteArray)) ++ t185, 0)) else (none))) else (none)) else (none))) else (none)))) else (some ((⟨#[]⟩ : ByteArray), 21)))) = some (r1, r2) := h
  clear h
  replace H := Option.bind_eq_some_iff.mp H
  obtain ⟨t178, A20, H⟩ := H
  replace H : (if t178 = true then ((days_date.f k a0).bind fun bt179 => ((days_digits.f k bt179.1 4).bind fun t183 => (if t183.size + 1 ≤ 9223372036854775807 then ((days_digits.f k bt179.2.1 2).bind fun t184 => (if (t183 ++ (⟨#[45]⟩ : ByteArray)).size + t184.size ≤ 9223372036854775807 then (if ((t183 ++ (⟨#[45]⟩ : ByteArray)) ++ t184).size + 1 ≤ 9223372036854775807 then ((days_digits.f k bt179.2.2 2).bind fun t185 => (if (((t183 ++ (⟨#[45]⟩ : ByteArray)) ++ t184) ++ (⟨#[45]⟩ : ByteArray)).size + t185.size ≤ 9223372036854775807 then (some ((((t183 ++ (⟨#[45]⟩ : ByteArray)) ++ t184) ++ (⟨#[45]⟩ : ByteArray)) ++ t185, 0)) else (none))) else (none)) else (none))) else (none)))) else (some ((⟨#[]⟩ : ByteArray), 21))) = some (r1, r2) := H
  have A2 := Aside0.mk A20
  clear A20
  by_cases c3 : t178 = true
  · subst c3
    have H1 : ((days_date.f k a0).bind fun bt179 => ((days_digits.f k bt179.1 4).bind fun t183 => (if t183.size + 1 ≤ 9223372036854775807 then ((days_digits.f k bt179.2.1 2).bind fun t184 => (if (t183 ++ (⟨#[45]⟩ : ByteArray)).size + t184.size ≤ 9223372036854775807 then (if ((t183 ++ (⟨#[45]⟩ : ByteArray)) ++ t184).size + 1 ≤ 9223372036854775807 then ((days_digits.f k bt179.2.2 2).bind fun t185 => (if (((t183 ++ (⟨#[45]⟩ : ByteArray)) ++ t184) ++ (⟨#[45]⟩ : ByteArray)).size + t185.size ≤ 9223372036854775807 then (some ((((t183 ++ (⟨#[45]⟩ : ByteArray)) ++ t184) ++ (⟨#[45]⟩ : ByteArray)) ++ t185, 0)) else (none))) else (none)) else (none))) else (none)))) = some (r1, r2) := by rw [if_pos rfl] at H; exact H
    clear H
    have H := H1
    clear H1
    replace H := Option.bind_eq_some_iff.mp H
    obtain ⟨⟨t179, t180, t181⟩, A40, H⟩ := H
    replace H : ((days_digits.f k t179 4).bind fun t183 => (if t183.size + 1 ≤ 9223372036854775807 then ((days_digits.f k t180 2).bind fun t184 => (if (t183 ++ (⟨#[45]⟩ : ByteArray)).size + t184.size ≤ 9223372036854775807 then (if ((t183 ++ (⟨#[45]⟩ : ByteArray)) ++ t184).size + 1 ≤ 9223372036854775807 then ((days_digits.f k t181 2).bind fun t185 => (if (((t183 ++ (⟨#[45]⟩ : ByteArray)) ++ t184) ++ (⟨#[45]⟩ : ByteArray)).size + t185.size ≤ 9223372036854775807 then (some ((((t183 ++ (⟨#[45]⟩ : ByteArray)) ++ t184) ++ (⟨#[45]⟩ : ByteArray)) ++ t185, 0)) else (none))) else (none)) else (none))) else (none))) = some (r1, r2) := H
    have A4 := Aside0.mk A40
    clear A40
    replace H := Option.bind_eq_some_iff.mp H
    obtain ⟨t183, A50, H⟩ := H
    replace H : (if t183.size + 1 ≤ 9223372036854775807 then ((days_digits.f k t180 2).bind fun t184 => (if (t183 ++ (⟨#[45]⟩ : ByteArray)).size + t184.size ≤ 9223372036854775807 then (if ((t183 ++ (⟨#[45]⟩ : ByteArray)) ++ t184).size + 1 ≤ 9223372036854775807 then ((days_digits.f k t181 2).bind fun t185 => (if (((t183 ++ (⟨#[45]⟩ : ByteArray)) ++ t184) ++ (⟨#[45]⟩ : ByteArray)).size + t185.size ≤ 9223372036854775807 then (some ((((t183 ++ (⟨#[45]⟩ : ByteArray)) ++ t184) ++ (⟨#[45]⟩ : ByteArray)) ++ t185, 0)) else (none))) else (none)) else (none))) else (none)) = some (r1, r2) := H
    have A5 := Aside0.mk A50
    clear A50
    by_cases c6 : t183.size + 1 ≤ 9223372036854775807
    · rw [if_pos c6] at H
      have c6b0 := eq_true c6
      have c6b1 : decide (t183.size + 1 ≤ 9223372036854775807) = true := decide_eq_true c6
      try have c6b2 : (9223372036854775807 < t183.size + 1) = False := eq_false (Nat.not_lt.2 c6)
      replace H := Option.bind_eq_some_iff.mp H
      obtain ⟨t184, A70, H⟩ := H
      replace H : (if (t183 ++ (⟨#[45]⟩ : ByteArray)).size + t184.size ≤ 9223372036854775807 then (if ((t183 ++ (⟨#[45]⟩ : ByteArray)) ++ t184).size + 1 ≤ 9223372036854775807 then ((days_digits.f k t181 2).bind fun t185 => (if (((t183 ++ (⟨#[45]⟩ : ByteArray)) ++ t184) ++ (⟨#[45]⟩ : ByteArray)).size + t185.size ≤ 9223372036854775807 then (some ((((t183 ++ (⟨#[45]⟩ : ByteArray)) ++ t184) ++ (⟨#[45]⟩ : ByteArray)) ++ t185, 0)) else (none))) else (none)) else (none)) = some (r1, r2) := H
      have A7 := Aside0.mk A70
      clear A70
      by_cases c8 : (t183 ++ (⟨#[45]⟩ : ByteArray)).size + t184.size ≤ 9223372036854775807
      · rw [if_pos c8] at H
        have c8b0 := eq_true c8
        have c8b1 : decide ((t183 ++ (⟨#[45]⟩ : ByteArray)).size + t184.size ≤ 9223372036854775807) = true := decide_eq_true c8
        try have c8b2 : (9223372036854775807 < (t183 ++ (⟨#[45]⟩ : ByteArray)).size + t184.size) = False := eq_false (Nat.not_lt.2 c8)
        (try have c8b3 : (9223372036854775807 < t183.size + 1 + t184.size) = False := eq_false (Nat.not_lt.2 (Nat.le_trans (Nat.le_of_eq (by simp only [ByteArray.size_append] <;> first | rfl | exact Nat.add_assoc _ _ _ | exact congrArg (· + 1) (Nat.add_assoc _ _ _))) c8)))
        (try have c8b4 : (t183.size + 1 + t184.size ≤ 9223372036854775807) = True := eq_true (Nat.le_trans (Nat.le_of_eq (by simp only [ByteArray.size_append] <;> first | rfl | exact Nat.add_assoc _ _ _ | exact congrArg (· + 1) (Nat.add_assoc _ _ _))) c8))
        by_cases c9 : ((t183 ++ (⟨#[45]⟩ : ByteArray)) ++ t184).size + 1 ≤ 9223372036854775807
        · rw [if_pos c9] at H
          have c9b0 := eq_true c9
          have c9b1 : decide (((t183 ++ (⟨#[45]⟩ : ByteArray)) ++ t184).size + 1 ≤ 9223372036854775807) = true := decide_eq_true c9
          try have c9b2 : (9223372036854775807 < ((t183 ++ (⟨#[45]⟩ : ByteArray)) ++ t184).size + 1) = False := eq_false (Nat.not_lt.2 c9)
          (try have c9b3 : (9223372036854775807 < t183.size + 1 + t184.size + 1) = False := eq_false (Nat.not_lt.2 (Nat.le_trans (Nat.le_of_eq (by simp only [ByteArray.size_append] <;> first | rfl | exact Nat.add_assoc _ _ _ | exact congrArg (· + 1) (Nat.add_assoc _ _ _))) c9)))
          (try have c9b4 : (t183.size + 1 + t184.size + 1 ≤ 9223372036854775807) = True := eq_true (Nat.le_trans (Nat.le_of_eq (by simp only [ByteArray.size_append] <;> first | rfl | exact Nat.add_assoc _ _ _ | exact congrArg (· + 1) (Nat.add_assoc _ _ _))) c9))
          replace H := Option.bind_eq_some_iff.mp H
          obtain ⟨t185, A100, H⟩ := H
          replace H : (if (((t183 ++ (⟨#[45]⟩ : ByteArray)) ++ t184) ++ (⟨#[45]⟩ : ByteArray)).size + t185.size ≤ 9223372036854775807 then (some ((((t183 ++ (⟨#[45]⟩ : ByteArray)) ++ t184) ++ (⟨#[45]⟩ : ByteArray)) ++ t185, 0)) else (none)) = some (r1, r2) := H
          have A10 := Aside0.mk A100
          clear A100
          by_cases c11 : (((t183 ++ (⟨#[45]⟩ : ByteArray)) ++ t184) ++ (⟨#[45]⟩ : ByteArray)).size + t185.size ≤ 9223372036854775807
          · rw [if_pos c11] at H
            have c11b0 := eq_true c11
            have c11b1 : decide ((((t183 ++ (⟨#[45]⟩ : ByteArray)) ++ t184) ++ (⟨#[45]⟩ : ByteArray)).size + t185.size ≤ 9223372036854775807) = true := decide_eq_true c11
            try have c11b2 : (9223372036854775807 < (((t183 ++ (⟨#[45]⟩ : ByteArray)) ++ t184) ++ (⟨#[45]⟩ : ByteArray)).size + t185.size) = False := eq_false (Nat.not_lt.2 c11)
            (try have c11b3 : (9223372036854775807 < t183.size + 1 + t184.size + 1 + t185.size) = False := eq_false (Nat.not_lt.2 (Nat.le_trans (Nat.le_of_eq (by simp only [ByteArray.size_append] <;> first | rfl | exact Nat.add_assoc _ _ _ | exact congrArg (· + 1) (Nat.add_assoc _ _ _))) c11)))
            (try have c11b4 : (t183.size + 1 + t184.size + 1 + t185.size ≤ 9223372036854775807) = True := eq_true (Nat.le_trans (Nat.le_of_eq (by simp only [ByteArray.size_append] <;> first | rfl | exact Nat.add_assoc _ _ _ | exact congrArg (· + 1) (Nat.add_assoc _ _ _))) c11))
            simp only [Option.some.injEq, Prod.mk.injEq] at H
            obtain ⟨rfl, rfl⟩ := H
            go_enter Tryd.func32, Tryd.ntmps32
            try go_wp2_with (first | ((with_reducible refine gate_callee (f := 49) rfl ?_); refine goesL_ (some 6) rfl rfl Tryd.func49 (by kernel_rfl) rfl #[.int .i64 a0] rfl (by (try simp only [List.map_toArray, List.map_cons, List.map_nil]); first | done | rfl | (simp only [List.length_drop, List.length_take]; rfl)) ?_; (with_reducible refine (days_isDay.calls a0 true _ A2.out).mono ?_); rintro e w' ⟨rfl, ⟨nd, rfl⟩⟩; refine ⟨_, rfl, ?_⟩) | ((with_reducible refine gate_callee (f := 50) rfl ?_); refine goesL_ (some 9) rfl rfl Tryd.func50 (by kernel_rfl) rfl #[.int .i64 a0] rfl (by (try simp only [List.map_toArray, List.map_cons, List.map_nil]); first | done | rfl | (simp only [List.length_drop, List.length_take]; rfl)) ?_; (with_reducible refine (days_date.calls k a0 t179 t180 t181 _ ?side1 A4.out).mono ?_); (case side1 => first | (with_reducible exact HT.out) | (with_reducible exact HT.out.below HB.out) | (with_reducible refine Tabs.below HT.out ?_; repeat (first | (with_reducible first | exact HB.out | apply below_alloc | apply pw_below_drewN | apply below_drew1) | exact HB.out))); rintro e w12 ⟨rfl, hb⟩; refine ⟨_, rfl, ?_⟩; have n0_ := Aside0.mk (below_step (by repeat (first | (with_reducible first | exact HB.out | apply below_alloc | apply pw_below_drewN | apply below_drew1) | exact HB.out)) hb); clear HB; have HB := n0_; clear n0_; (try clear hb); (try clear hb2); (try clear hk); (try clear hi)) | ((with_reducible refine gate_dst (N := 4) rfl ?_); refine box_event ?hg (N := 4) ?hd (cs := #[.int .i64 0, .int .i64 0, .int .i64 0]) (t := 88) ?hr ?_; (case hd => rfl); (case hg => rfl); (case hr => first | (go_simp; done) | (go_simp; rfl)); intro gb182 hg w13 hbox hb; have n0_ := Aside0.mk (below_step (by repeat (first | (with_reducible first | exact HB.out | apply below_alloc | apply pw_below_drewN | apply below_drew1) | exact HB.out)) hb); have n1_ := Aside0.mk (hbox); have n2_ := Aside0.mk ((by rw [hg]; exact (below_size (by repeat (first | (with_reducible first | exact HB.out | apply below_alloc | apply pw_below_drewN | apply below_drew1) | exact HB.out))) : w.heap.size ≤ gb182)); have n3_ := Aside0.mk ((by rw [hg]; exact (below_size (by repeat (first | (with_reducible first | exact HB.out | apply below_alloc | apply pw_below_drewN | apply below_drew1) | exact HB.out))) : w.heap.size ≤ gb182)); clear HB; have HB := n0_; have BK182 := n1_; have GW182 := n2_; have GE182 := n3_; clear n0_ n1_ n2_ n3_; clear hb hbox hg; have hcz14_0 : w13.cell? ⟨gb182, 0, none⟩ = some (.int .i64 0) := (blk_cell BK182.out 0).trans rfl; have hcz14_1 : w13.cell? ⟨gb182, 1, none⟩ = some (.int .i64 0) := (blk_cell BK182.out 1).trans rfl; have hcz14_2 : w13.cell? ⟨gb182, 2, none⟩ = some (.int .i64 0) := (blk_cell BK182.out 2).trans rfl; have hfz14_0 := blk_frozen BK182.out 0; have hfz14_1 := blk_frozen BK182.out 1; have hfz14_2 := blk_frozen BK182.out 2))
            have n0_ : Aside0 ((((w13.setCell ⟨gb182, 0, none⟩ (.int .i64 t179)).setCell ⟨gb182, 1, none⟩ (.int .i64 t180)).setCell ⟨gb182, 2, none⟩ (.int .i64 t181)).heap[gb182]? = some (.cells #[.int .i64 t179, .int .i64 t180, .int .i64 t181] 88 (0, 0))) := ⟨by (with_reducible repeat (first | refine blk_drewN ?_ _ | refine blk_drew ?_ | refine blk_alloc ?_ _)); refine blk_put (cs := #[.int .i64 t179, .int .i64 t180, .int .i64 0]) ?_ 2 _ rfl; (with_reducible repeat (first | refine blk_drewN ?_ _ | refine blk_drew ?_ | refine blk_alloc ?_ _)); refine blk_put (cs := #[.int .i64 t179, .int .i64 0, .int .i64 0]) ?_ 1 _ rfl; (with_reducible repeat (first | refine blk_drewN ?_ _ | refine blk_drew ?_ | refine blk_alloc ?_ _)); refine blk_put (cs := #[.int .i64 0, .int .i64 0, .int .i64 0]) ?_ 0 _ rfl; (with_reducible repeat (first | refine blk_drewN ?_ _ | refine blk_drew ?_ | refine blk_alloc ?_ _)); exact BK182.out⟩
            have n1_ : Aside0 (Below w.heap.size w (((w13.setCell ⟨gb182, 0, none⟩ (.int .i64 t179)).setCell ⟨gb182, 1, none⟩ (.int .i64 t180)).setCell ⟨gb182, 2, none⟩ (.int .i64 t181))) := ⟨by repeat (first | (with_reducible first | exact HB.out | apply below_alloc | apply pw_below_drewN | apply below_drew1 | refine below_set ?_ GE182.out) | exact HB.out)⟩
            (try clear BK182)
            (try clear HB)
            generalize (((w13.setCell ⟨gb182, 0, none⟩ (.int .i64 t179)).setCell ⟨gb182, 1, none⟩ (.int .i64 t180)).setCell ⟨gb182, 2, none⟩ (.int .i64 t181)) = w15 at n0_ n1_ ⊢
            have BK182 := n0_
            have HB := n1_
            clear n0_ n1_
            have n0_ := Aside0.mk (blk_drew BK182.out)
            have n1_ := Aside0.mk (below_drew1 HB.out)
            clear BK182
            clear HB
            have BK182 := n0_
            have HB := n1_
            clear n0_ n1_
            refine start_ (n := 15) (S := fun w' => w'.cell? ⟨gb182, 0, none⟩ = some (.int .i64 t179) ∧ w'.cell? ⟨gb182, 1, none⟩ = some (.int .i64 t180) ∧ w'.cell? ⟨gb182, 2, none⟩ = some (.int .i64 t181)) (ds := []) #[false, false, false, false, false, false, false, false, false, false, false, false, false, false, false] (by kernel_rfl) rfl rfl ⟨(blk_cell BK182.out 0).trans rfl, (blk_cell BK182.out 1).trans rfl, (blk_cell BK182.out 2).trans rfl⟩ (fun hHeld => ?_); refine with_tabW days_Print.tab4 days_Print.bits4 (fun HT_ HW_ => ?_)
            generalize w15.drew = w16 at BK182 HB hHeld ⊢
            refine pure_ (i := 0) (N := some 10) (v := ?_) (a' := ?_) #[true, false, false, false, false, false, false, false, false, false, false, false, false, false, false] rfl rfl (any_of HT_.out (by kernel_rfl)) (fun _ _ _ h => h) (Or.inl ⟨by rfl, ?_⟩) ?_ ?_
            rotate_left
            · intro w'
              go_simp
              with_reducible rfl
            rotate_left
            · simp only [Act.put, List.setIfInBounds_toArray, List.set_cons_zero, List.set_cons_succ, i64_w, i32_w]
              rfl
            refine pure_ (i := 4) (N := some 14) (v := ?_) (a' := ?_) #[true, false, false, false, true, false, false, false, false, false, false, false, false, false, false] rfl rfl (any_of HT_.out (by kernel_rfl)) (fun _ _ _ h => h) (Or.inl ⟨by rfl, ?_⟩) ?_ ?_
            rotate_left
            · intro w'
              go_simp
              with_reducible rfl
            rotate_left
            · simp only [Act.put, List.setIfInBounds_toArray, List.set_cons_zero, List.set_cons_succ, i64_w, i32_w]
              rfl
            refine pure_ (i := 9) (N := some 19) (v := ?_) (a' := ?_) #[true, false, false, false, true, false, false, false, false, true, false, false, false, false, false] rfl rfl (any_of HT_.out (by kernel_rfl)) (fun _ _ _ h => h) (Or.inl ⟨by rfl, ?_⟩) ?_ ?_
            rotate_left
            · intro w'
              go_simp
              with_reducible rfl
            rotate_left
            · simp only [Act.put, List.setIfInBounds_toArray, List.set_cons_zero, List.set_cons_succ, i64_w, i32_w]
              rfl
            refine take_ (i := 1) (N := some 11) (v := ?_) (a' := ?_) #[true, true, false, false, true, false, false, false, false, true, false, false, false, false, false] rfl rfl (take_ofW HT_.out HW_.out (by kernel_rfl)) (fun _ _ _ h => h) (Or.inl ⟨by rfl, ?_⟩) hHeld ?_ ?_
            rotate_left
            · rintro w' ⟨s0, s1, s2⟩
              go_simp
              with_reducible rfl
            rotate_left
            · simp only [Act.put, List.setIfInBounds_toArray, List.set_cons_zero, List.set_cons_succ, i64_w, i32_w]
              rfl
            refine take_ (i := 5) (N := some 15) (v := ?_) (a' := ?_) #[true, true, false, false, true, true, false, false, false, true, false, false, false, false, false] rfl rfl (take_ofW HT_.out HW_.out (by kernel_rfl)) (fun _ _ _ h => h) (Or.inl ⟨by rfl, ?_⟩) hHeld ?_ ?_
            rotate_left
            · rintro w' ⟨s0, s1, s2⟩
              go_simp
              with_reducible rfl
            rotate_left
            · simp only [Act.put, List.setIfInBounds_toArray, List.set_cons_zero, List.set_cons_succ, i64_w, i32_w]
              rfl
            refine take_ (i := 10) (N := some 20) (v := ?_) (a' := ?_) #[true, true, false, false, true, true, false, false, false, true, true, false, false, false, false] rfl rfl (take_ofW HT_.out HW_.out (by kernel_rfl)) (fun _ _ _ h => h) (Or.inl ⟨by rfl, ?_⟩) hHeld ?_ ?_
            rotate_left
            · rintro w' ⟨s0, s1, s2⟩
              go_simp
              with_reducible rfl
            rotate_left
            · simp only [Act.put, List.setIfInBounds_toArray, List.set_cons_zero, List.set_cons_succ, i64_w, i32_w]
              rfl
            refine one_ (i := 2) (N := some 12) #[true, true, true, false, true, true, false, false, false, true, true, false, false, false, false] rfl rfl (one_of HT_.out (by kernel_rfl)) (by decide) (fun K hK => ?_)
            refine goes_ Tryd.func51 (by kernel_rfl) rfl #[.int .i64 t179, .int .i64 4] (by rfl) rfl rfl (by (try simp only [List.map_toArray, List.map_cons, List.map_nil]); first | done | rfl | (simp only [List.length_drop, List.length_take]; rfl)) ?_
            with_reducible refine (days_digits.calls k t179 4 t183 _ A5.out).mono ?_
            rintro e w17 ⟨rfl, hb⟩
            refine ⟨_, rfl, ?_⟩
            have n0_ := Aside0.mk (blk_below (g := gb182) (o := .cells #[.int .i64 t179, .int .i64 t180, .int .i64 t181] 88 (0, 0)) (by (with_reducible repeat (first | refine blk_drewN ?_ _ | refine blk_drew ?_ | refine blk_alloc ?_ _)); exact BK182.out) hb)
            have n1_ := Aside0.mk (below_step (by repeat (first | (with_reducible first | exact HB.out | apply below_alloc | apply pw_below_drewN | apply below_drew1 | refine below_set ?_ GE182.out) | exact HB.out)) hb)
            clear BK182
            clear HB
            have BK182 := n0_
            have HB := n1_
            clear n0_ n1_
            (try clear hb)
            (try clear hb2)
            (try clear hk)
            (try clear hi)
            refine hK.out _ _ ⟨(blk_cell BK182.out 0).trans rfl, (blk_cell BK182.out 1).trans rfl, (blk_cell BK182.out 2).trans rfl⟩ (fun hHeld => ?_)
            clear hK K
            refine norm_ (a' := ?_) ?_ ?_
            rotate_left
            · show Act.put _ (some 12) _ = _
              simp only [Act.put, List.setIfInBounds_toArray, List.set_cons_zero, List.set_cons_succ, i64_w, i32_w]
              rfl
            refine pure_ (i := 3) (N := some 13) (v := ?_) (a' := ?_) #[true, true, true, true, true, true, false, false, false, true, true, false, false, false, false] rfl rfl (any_of HT_.out (by kernel_rfl)) (fun _ _ _ h => h) (Or.inl ⟨by rfl, ?_⟩) ?_ ?_
            rotate_left
            · intro w'
              go_simp
              with_reducible rfl
            rotate_left
            · simp only [Act.put, List.setIfInBounds_toArray, List.set_cons_zero, List.set_cons_succ, i64_w, i32_w]
              rfl
            refine one_ (i := 6) (N := some 16) #[true, true, true, true, true, true, true, false, false, true, true, false, false, false, false] rfl rfl (one_of HT_.out (by kernel_rfl)) (by decide) (fun K hK => ?_)
            refine goes_ Tryd.func51 (by kernel_rfl) rfl #[.int .i64 t180, .int .i64 2] (by rfl) rfl rfl (by (try simp only [List.map_toArray, List.map_cons, List.map_nil]); first | done | rfl | (simp only [List.length_drop, List.length_take]; rfl)) ?_
            with_reducible refine (days_digits.calls k t180 2 t184 _ A7.out).mono ?_
            rintro e w18 ⟨rfl, hb⟩
            refine ⟨_, rfl, ?_⟩
            have n0_ := Aside0.mk (blk_below (g := gb182) (o := .cells #[.int .i64 t179, .int .i64 t180, .int .i64 t181] 88 (0, 0)) (by (with_reducible repeat (first | refine blk_drewN ?_ _ | refine blk_drew ?_ | refine blk_alloc ?_ _)); exact BK182.out) hb)
            have n1_ := Aside0.mk (below_step (by repeat (first | (with_reducible first | exact HB.out | apply below_alloc | apply pw_below_drewN | apply below_drew1 | refine below_set ?_ GE182.out) | exact HB.out)) hb)
            clear BK182
            clear HB
            have BK182 := n0_
            have HB := n1_
            clear n0_ n1_
            (try clear hb)
            (try clear hb2)
            (try clear hk)
            (try clear hi)
            refine hK.out _ _ ⟨(blk_cell BK182.out 0).trans rfl, (blk_cell BK182.out 1).trans rfl, (blk_cell BK182.out 2).trans rfl⟩ (fun hHeld => ?_)
            clear hK K
            refine norm_ (a' := ?_) ?_ ?_
            rotate_left
            · show Act.put _ (some 16) _ = _
              simp only [Act.put, List.setIfInBounds_toArray, List.set_cons_zero, List.set_cons_succ, i64_w, i32_w]
              rfl
            refine pure_ (i := 7) (N := some 17) (v := ?_) (a' := ?_) #[true, true, true, true, true, true, true, true, false, true, true, false, false, false, false] rfl rfl (any_of HT_.out (by kernel_rfl)) (fun _ _ _ h => h) (Or.inl ⟨by rfl, ?_⟩) ?_ ?_
            rotate_left
            · intro w'
              go_simp
              with_reducible rfl
            rotate_left
            · simp only [Act.put, List.setIfInBounds_toArray, List.set_cons_zero, List.set_cons_succ, i64_w, i32_w]
              rfl
            refine pure_ (i := 8) (N := some 18) (v := ?_) (a' := ?_) #[true, true, true, true, true, true, true, true, true, true, true, false, false, false, false] rfl rfl (any_of HT_.out (by kernel_rfl)) (fun _ _ _ h => h) (Or.inl ⟨by rfl, ?_⟩) ?_ ?_
            rotate_left
            · intro w'
              go_simp
              with_reducible rfl
            rotate_left
            · simp only [Act.put, List.setIfInBounds_toArray, List.set_cons_zero, List.set_cons_succ, i64_w, i32_w]
              rfl
            refine one_ (i := 11) (N := some 21) #[true, true, true, true, true, true, true, true, true, true, true, true, false, false, false] rfl rfl (one_of HT_.out (by kernel_rfl)) (by decide) (fun K hK => ?_)
            refine goes_ Tryd.func51 (by kernel_rfl) rfl #[.int .i64 t181, .int .i64 2] (by rfl) rfl rfl (by (try simp only [List.map_toArray, List.map_cons, List.map_nil]); first | done | rfl | (simp only [List.length_drop, List.length_take]; rfl)) ?_
            with_reducible refine (days_digits.calls k t181 2 t185 _ A10.out).mono ?_
            rintro e w19 ⟨rfl, hb⟩
            refine ⟨_, rfl, ?_⟩
            have n0_ := Aside0.mk (blk_below (g := gb182) (o := .cells #[.int .i64 t179, .int .i64 t180, .int .i64 t181] 88 (0, 0)) (by (with_reducible repeat (first | refine blk_drewN ?_ _ | refine blk_drew ?_ | refine blk_alloc ?_ _)); exact BK182.out) hb)
            have n1_ := Aside0.mk (below_step (by repeat (first | (with_reducible first | exact HB.out | apply below_alloc | apply pw_below_drewN | apply below_drew1 | refine below_set ?_ GE182.out) | exact HB.out)) hb)
            clear BK182
            clear HB
            have BK182 := n0_
            have HB := n1_
            clear n0_ n1_
            (try clear hb)
            (try clear hb2)
            (try clear hk)
            (try clear hi)
            refine hK.out _ _ ⟨(blk_cell BK182.out 0).trans rfl, (blk_cell BK182.out 1).trans rfl, (blk_cell BK182.out 2).trans rfl⟩ (fun hHeld => ?_)
            clear hK K
            refine norm_ (a' := ?_) ?_ ?_
            rotate_left
            · show Act.put _ (some 21) _ = _
              simp only [Act.put, List.setIfInBounds_toArray, List.set_cons_zero, List.set_cons_succ, i64_w, i32_w]
              rfl
            refine pure_ (i := 12) (N := some 22) (v := ?_) (a' := ?_) #[true, true, true, true, true, true, true, true, true, true, true, true, true, false, false] rfl rfl (any_of HT_.out (by kernel_rfl)) (fun _ _ _ h => h) (Or.inl ⟨by rfl, ?_⟩) ?_ ?_
            rotate_left
            · intro w'
              go_simp
              with_reducible rfl
            rotate_left
            · simp only [Act.put, List.setIfInBounds_toArray, List.set_cons_zero, List.set_cons_succ, i64_w, i32_w]
              rfl
            refine pure_ (i := 13) (N := some 2) (v := ?_) (a' := ?_) #[true, true, true, true, true, true, true, true, true, true, true, true, true, true, false] rfl rfl (any_of HT_.out (by kernel_rfl)) (fun _ _ _ h => h) (Or.inl ⟨by rfl, ?_⟩) ?_ ?_
            rotate_left
            · intro w'
              go_simp
              with_reducible rfl
            rotate_left
            · simp only [Act.put, List.setIfInBounds_toArray, List.set_cons_zero, List.set_cons_succ, i64_w, i32_w]
              rfl
            refine pure_ (i := 14) (N := some 3) (v := ?_) (a' := ?_) #[true, true, true, true, true, true, true, true, true, true, true, true, true, true, true] rfl rfl (any_of HT_.out (by kernel_rfl)) (fun _ _ _ h => h) (Or.inl ⟨by rfl, ?_⟩) ?_ ?_
            rotate_left
            · intro w'
              go_simp
              with_reducible rfl
            rotate_left
            · simp only [Act.put, List.setIfInBounds_toArray, List.set_cons_zero, List.set_cons_succ, i64_w, i32_w]
              rfl
            refine done_ (done_of HT_.out (by kernel_rfl)) ?_
            try go_wp2
            go_ret2
            exact ⟨by first | rfl | (simp [errW_none, errW_some] <;> rfl) | (simp [*, errW_none, errW_some] <;> rfl), by repeat (first | (with_reducible first | exact HB.out | apply below_alloc | apply pw_below_drewN | apply below_drew1 | refine below_set ?_ GE182.out) | exact HB.out)⟩
          · rw [if_neg c11] at H
            exact absurd H (by simp)
        · rw [if_neg c9] at H
          exact absurd H (by simp)
      · rw [if_neg c8] at H
        exact absurd H (by simp)
    · rw [if_neg c6] at H
      exact absurd H (by simp)
  · replace c3 := Bool.eq_false_iff.mpr c3
    subst c3
    have H1 : (some ((⟨#[]⟩ : ByteArray), 21)) = some (r1, r2) := by rw [if_neg (show ¬ (false = true) by decide)] at H; exact H
    clear H
    have H := H1
    clear H1
    simp only [Option.some.injEq, Prod.mk.injEq] at H
    obtain ⟨rfl, rfl⟩ := H
    go_enter Tryd.func32, Tryd.ntmps32
    go_wp2_with (first | ((with_reducible refine gate_callee (f := 49) rfl ?_); refine goesL_ (some 6) rfl rfl Tryd.func49 (by kernel_rfl) rfl #[.int .i64 a0] rfl (by (try simp only [List.map_toArray, List.map_cons, List.map_nil]); first | done | rfl | (simp only [List.length_drop, List.length_take]; rfl)) ?_; (with_reducible refine (days_isDay.calls a0 false _ A2.out).mono ?_); rintro e w' ⟨rfl, ⟨nd, rfl⟩⟩; refine ⟨_, rfl, ?_⟩))
    go_ret2
    exact ⟨by first | rfl | (simp [errW_none, errW_some] <;> rfl) | (simp [*, errW_none, errW_some] <;> rfl), by repeat (first | (with_reducible first | exact HB.out | apply below_alloc | apply pw_below_drewN | apply below_drew1) | exact HB.out)⟩

end Go.Proofs.YtgcgpeeokdnplaaDoor.PA
end
section
/- The Go functions of this seat that the laws of part A come to, each as a plain Lean function ('f', its loops 'l0' ..) with a proof that the call comes to its answer. Conditions: where a function comes to a package-level table, the world holds that table ('Tabs'). Written by a program of this session (a changed copy of the print). -/
namespace Go.Proofs.YtgcgpeeokdnplaaDoor.PA
open Go.RowKit Go.Proofs.YtgcgpeeokdnplaaDoorW.PrintWords Go.Proofs.YtgcgpeeokdnplaaDoorW.PrintLast Go.Proofs.YtgcgpeeokdnplaaDoorW.PrintMore
attribute [local go_sem] max2_int min2_int max_two min_two max_three min_three max_four min_four   -- for this text's walks alone
set_option linter.unusedVariables false
set_option linter.unusedSimpArgs false

/-! ### levylaw4_bare: function 13 -/
def levylaw4_bare.l0 : Nat → List (S30) → List (S30) → Int → Option ((List (S30)))
  | 0, _, _, _ => none
  | k + 1, x0, x3, x4 => if x4 < (x0.length : Int) then (if 0 ≤ x4 then (if x3.length < 2932031007402 then (levylaw4_bare.l0 k x0 (x3 ++ [(⟨(rd_T30 x0 x4).f0, 0, (rd_T30 x0 x4).f2, (rd_T30 x0 x4).f3, (rd_T30 x0 x4).f4⟩ : S30)]) (wrap64 (x4 + 1))) else (none)) else (none)) else (some x3)
def levylaw4_bare.f (k : Nat) (l0 : List (S30)) : Option ((List (S30))) := levylaw4_bare.l0 k l0 ([] : List (S30)) 0
theorem levylaw4_bare.mono_l : ∀ k, (∀ y0 y1 y2, LeO (levylaw4_bare.l0 k y0 y1 y2) (levylaw4_bare.l0 (k + 1) y0 y1 y2))
  | 0 => fun _ _ _ r h => by simp [levylaw4_bare.l0] at h
  | k + 1 => by
    have ih0 := levylaw4_bare.mono_l k
    · intro y0 y1 y2
      unfold levylaw4_bare.l0
      repeat' first
      | (with_reducible exact ih0 _ _ _)
      | (with_reducible exact LeO.refl _)
      | (with_reducible exact LeO.none _)
      | (with_reducible refine LeO.ite ?_ ?_)
      | (with_reducible refine LeO.bind ?_ (fun _ => ?_))
      | exact ih0 _ _ _
      | exact LeO.none _
      | refine LeO.ite ?_ ?_
      | refine LeO.bind ?_ (fun _ => ?_)
theorem levylaw4_bare.mono : ∀ a0 k, LeO (levylaw4_bare.f k a0) (levylaw4_bare.f (k + 1) a0) := by
  intro a0 k
  have ih0 := levylaw4_bare.mono_l k
  unfold levylaw4_bare.f
  repeat' first
      | (with_reducible exact ih0 _ _ _)
      | (with_reducible exact LeO.refl _)
      | (with_reducible exact LeO.none _)
      | (with_reducible refine LeO.ite ?_ ?_)
      | (with_reducible refine LeO.bind ?_ (fun _ => ?_))
      | exact ih0 _ _ _
      | exact LeO.none _
      | refine LeO.ite ?_ ?_
      | refine LeO.bind ?_ (fun _ => ?_)
set_option maxHeartbeats 8000000 in
set_option maxRecDepth 100000 in
theorem levylaw4_bare.calls (k : Nat) (A0 : Option Addr) (c0 : Nat) (l0 : List (S30)) (r : List (S30)) (w : World) (hr0 : Kd.C k30 w A0 l0.length l0) (hc0 : l0.length ≤ c0) (h : levylaw4_bare.f k l0 = some r) :
    Calls Tryd.prog 13 #[.slice A0 l0.length c0] w fun e w' => ∃ v0_ : Value, e = .returned (v0_) ∧ Kd.R k30 30 w' w.heap.size (fun _ => True) v0_ r ∧ Below w.heap.size w w' := by
  have hu30 := Tryd.underlying30
  have HR0 := Aside0.mk hr0
  have HC0 := Aside0.mk hc0
  clear hr0 hc0
  have HB := Aside0.mk (Below.refl w.heap.size w)
  have H : (levylaw4_bare.l0 k l0 ([] : List (S30)) 0) = some r := h
  clear h
  have H' := Aside0.mk H
  clear H
  go_enter Tryd.func13, Tryd.ntmps13
  go_wp2
  go_loopg [3, 4] k (fun kq v3 v4 w' => ∃ (x3_1 : List (S30)) (x4_1 : Int), v4 = .int .i64 x4_1 ∧ Aside0 (levylaw4_bare.l0 kq l0 x3_1 x4_1 = some r) ∧ Aside0 (kq ≤ k) ∧ Aside0 (Kd.R k30 30 w' w.heap.size (fun _ => True) v3 x3_1) ∧ Aside0 (Below w.heap.size w w'))
  case atStart => exact ⟨(([] : List (S30))), (0), (by first | rfl | (simp; done) | (simp [*]; done)), H', ⟨Nat.le_refl _⟩, ⟨by first | exact Kd.R_nil _ _ _ _ _ | exact Kd.N_nil _ _ _ _ _ | exact Kd.V_nil _ _ _ _ _ | exact Kd.Q_nil _ _ _ _ _ | exact Kd.S_nil _ _ _ _ _⟩, ⟨by repeat (first | (with_reducible first | exact HB.out | apply below_alloc | apply pw_below_drewN | apply below_drew1) | exact HB.out)⟩⟩
  case round =>
    clear H'
    try clear c1
    obtain ⟨x3_1, x4_1, rfl, HA, HK1, HO_3, HB⟩ := hrel
    cases gk with
    | zero => exact absurd HA.out (by simp [levylaw4_bare.l0])
    | succ k1 =>
      have H := HA.out
      clear HA
      simp only [levylaw4_bare.l0] at H
      by_cases c2 : x4_1 < (l0.length : Int)
      · rw [if_pos c2] at H
        have c2b0 : decide (x4_1 < (l0.length : Int)) = true := decide_eq_true c2
        clear c2
        by_cases c3 : 0 ≤ x4_1
        · rw [if_pos c3] at H
          have c3b0 : decide (0 ≤ x4_1) = true := decide_eq_true c3
          clear c3
          by_cases c4 : x3_1.length < 2932031007402
          · rw [if_pos c4] at H
            have LMc4 := Aside0.mk c4
            clear c4
            obtain ⟨y224, hy224⟩ : ∃ y_ : List (S30), y_ = (x3_1 ++ [(⟨(rd_T30 l0 x4_1).f0, 0, (rd_T30 l0 x4_1).f2, (rd_T30 l0 x4_1).f3, (rd_T30 l0 x4_1).f4⟩ : S30)]) := ⟨_, rfl⟩
            replace H : (levylaw4_bare.l0 k1 l0 y224 (wrap64 (x4_1 + 1))) = some r := by first | (rw [hy224]; with_reducible exact H) | (have H2_ := (Option.bind_some _ _).symm.trans H; rw [hy224]; with_reducible exact H2_) | (have H2_ := (Option.bind_some _ _).symm.trans H; with_reducible exact H2_) | with_reducible exact H | (rw [hy224]; exact H) | exact H
            have Ny224 := Aside0.mk hy224
            clear hy224
            have H' := Aside0.mk H
            clear H
            have p222 : 0 ≤ (x4_1 : Int) := of_decide_eq_true (by first | (with_reducible assumption) | assumption)
            have q222 : x4_1 < (l0.length : Int) := of_decide_eq_true (by first | (with_reducible assumption) | assumption)
            obtain ⟨ad222, e222, hx222_0, hx222_1, hx222_2, hx222_3, hx222_4⟩ := at_T30 HR0.out x4_1 p222 q222
            cases e222
            replace hx222_0 := (HB.out.cell (World.block_lt_of_cell? w _ hx222_0)).trans hx222_0
            replace hx222_1 := (HB.out.cell (World.block_lt_of_cell? w _ hx222_1)).trans hx222_1
            replace hx222_2 := (HB.out.cell (World.block_lt_of_cell? w _ hx222_2)).trans hx222_2
            replace hx222_3 := (HB.out.cell (World.block_lt_of_cell? w _ hx222_3)).trans hx222_3
            replace hx222_4 := (HB.out.cell (World.block_lt_of_cell? w _ hx222_4)).trans hx222_4
            replace p222 := eq_true p222
            replace q222 := eq_true q222
            go_wp2_with (first | ((with_reducible refine gate_dst (N := 5) rfl ?_); refine box_event ?hg (N := 5) ?hd (cs := #[.int .i64 0, .int .i64 0, .string (⟨#[]⟩ : ByteArray), .int .i64 0, .int .i64 0]) (t := 30) ?hr ?_; (case hd => rfl); (case hg => rfl); (case hr => first | (go_simp; done) | (go_simp; rfl)); intro gb223 hg w5 hbox hb; have n0_ := Aside0.mk (Kd.R_below (Kd.R_elderB (by (with_reducible repeat (first | apply Kd.R_alloc | apply Kd.R_drewN | apply Kd.R_drew)); exact HO_3.out) gb223 (Nat.le_of_eq hg.symm)) hb); have n1_ := Aside0.mk (below_step (by repeat (first | (with_reducible first | exact HB.out | apply below_alloc | apply pw_below_drewN | apply below_drew1) | exact HB.out)) hb); have n2_ := Aside0.mk (hbox); have n3_ := Aside0.mk ((by rw [hg]; exact (below_size (by repeat (first | (with_reducible first | exact HB.out | apply below_alloc | apply pw_below_drewN | apply below_drew1) | exact HB.out))) : w.heap.size ≤ gb223)); have n4_ := Aside0.mk ((by rw [hg]; exact (below_size (by repeat (first | (with_reducible first | exact HB.out | apply below_alloc | apply pw_below_drewN | apply below_drew1) | exact HB.out))) : w.heap.size ≤ gb223)); clear HO_3; clear HB; have HO_3 := n0_; have HB := n1_; have BK223 := n2_; have GW223 := n3_; have GE223 := n4_; clear n0_ n1_ n2_ n3_ n4_; clear hb hbox hg; have hcz6_0 : w5.cell? ⟨gb223, 0, none⟩ = some (.int .i64 0) := (blk_cell BK223.out 0).trans rfl; have hcz6_1 : w5.cell? ⟨gb223, 1, none⟩ = some (.int .i64 0) := (blk_cell BK223.out 1).trans rfl; have hcz6_2 : w5.cell? ⟨gb223, 2, none⟩ = some (.string (⟨#[]⟩ : ByteArray)) := (blk_cell BK223.out 2).trans rfl; have hcz6_3 : w5.cell? ⟨gb223, 3, none⟩ = some (.int .i64 0) := (blk_cell BK223.out 3).trans rfl; have hcz6_4 : w5.cell? ⟨gb223, 4, none⟩ = some (.int .i64 0) := (blk_cell BK223.out 4).trans rfl; have hfz6_0 := blk_frozen BK223.out 0; have hfz6_1 := blk_frozen BK223.out 1; have hfz6_2 := blk_frozen BK223.out 2; have hfz6_3 := blk_frozen BK223.out 3; have hfz6_4 := blk_frozen BK223.out 4) | ((with_reducible refine gate_dst (N := 18) rfl ?_); refine wpList_load_row rfl 30 (.tmp 5) rfl gb223 rfl 30 #[.int .i64 ((rd_T30 l0 x4_1).f0), .int .i64 0, .string ((rd_T30 l0 x4_1).f2), .int .i64 ((rd_T30 l0 x4_1).f3), .int .i64 ((rd_T30 l0 x4_1).f4)] (0, 0) _ (by (with_reducible repeat (first | refine blk_drewN ?_ _ | refine blk_drew ?_ | refine blk_alloc ?_ _)); refine blk_put (cs := #[.int .i64 ((rd_T30 l0 x4_1).f0), .int .i64 ((rd_T30 l0 x4_1).f1), .string ((rd_T30 l0 x4_1).f2), .int .i64 ((rd_T30 l0 x4_1).f3), .int .i64 ((rd_T30 l0 x4_1).f4)]) ?_ 1 _ rfl; (with_reducible repeat (first | refine blk_drewN ?_ _ | refine blk_drew ?_ | refine blk_alloc ?_ _)); refine blk_put (cs := #[.int .i64 ((rd_T30 l0 x4_1).f0), .int .i64 ((rd_T30 l0 x4_1).f1), .string ((rd_T30 l0 x4_1).f2), .int .i64 ((rd_T30 l0 x4_1).f3), .int .i64 0]) ?_ 4 _ rfl; (with_reducible repeat (first | refine blk_drewN ?_ _ | refine blk_drew ?_ | refine blk_alloc ?_ _)); refine blk_put (cs := #[.int .i64 ((rd_T30 l0 x4_1).f0), .int .i64 ((rd_T30 l0 x4_1).f1), .string ((rd_T30 l0 x4_1).f2), .int .i64 0, .int .i64 0]) ?_ 3 _ rfl; (with_reducible repeat (first | refine blk_drewN ?_ _ | refine blk_drew ?_ | refine blk_alloc ?_ _)); refine blk_put (cs := #[.int .i64 ((rd_T30 l0 x4_1).f0), .int .i64 ((rd_T30 l0 x4_1).f1), .string (⟨#[]⟩ : ByteArray), .int .i64 0, .int .i64 0]) ?_ 2 _ rfl; (with_reducible repeat (first | refine blk_drewN ?_ _ | refine blk_drew ?_ | refine blk_alloc ?_ _)); refine blk_put (cs := #[.int .i64 ((rd_T30 l0 x4_1).f0), .int .i64 0, .string (⟨#[]⟩ : ByteArray), .int .i64 0, .int .i64 0]) ?_ 1 _ rfl; (with_reducible repeat (first | refine blk_drewN ?_ _ | refine blk_drew ?_ | refine blk_alloc ?_ _)); refine blk_put (cs := #[.int .i64 0, .int .i64 0, .string (⟨#[]⟩ : ByteArray), .int .i64 0, .int .i64 0]) ?_ 0 _ rfl; (with_reducible repeat (first | refine blk_drewN ?_ _ | refine blk_drew ?_ | refine blk_alloc ?_ _)); exact BK223.out) hu30 rfl (by kernel_rfl) ?_) | ((with_reducible refine gate_builtin (b := .append) (xs := #[.tmp 17, .tmp 19]) rfl ?_); at_builtin; refine Kd.R_append k30 (w0 := w) w.heap.size rfl (.tmp 17) (.tmp 19) 23 30 (.agg #[(.int .i64 0), (.int .i64 0), (.string ⟨#[]⟩), (.int .i64 0), (.int .i64 0)]) 48 rfl Tryd.underlying23 info30 rfl (by decide) (by omega) u3 x3_1 (⟨(rd_T30 l0 x4_1).f0, 0, (rd_T30 l0 x4_1).f2, (rd_T30 l0 x4_1).f3, (rd_T30 l0 x4_1).f4⟩ : S30) [.int .i64 ((rd_T30 l0 x4_1).f0), .int .i64 0, .string ((rd_T30 l0 x4_1).f2), .int .i64 ((rd_T30 l0 x4_1).f3), .int .i64 ((rd_T30 l0 x4_1).f4)] (fun k_ => k_ ≠ gb223) (fun _ => False) rfl (by first | (go_simp; done) | (go_simp; rfl)) ?aP (fun _ hk => hk.elim) ?aF ?aO ?aB ?aS ?aL ?_; (case aP => exact k30_mkM _ _ _ (⟨(rd_T30 l0 x4_1).f0, 0, (rd_T30 l0 x4_1).f2, (rd_T30 l0 x4_1).f3, (rd_T30 l0 x4_1).f4⟩ : S30)); (case aB => exact (by repeat (first | (with_reducible first | exact HB.out | apply below_alloc | apply pw_below_drewN | apply below_drew1 | refine below_set ?_ GE223.out) | exact HB.out))); (case aF => exact (fun k_ hk => Kd.freshB (g := gb223) (o := .cells #[.int .i64 ((rd_T30 l0 x4_1).f0), .int .i64 0, .string ((rd_T30 l0 x4_1).f2), .int .i64 ((rd_T30 l0 x4_1).f3), .int .i64 ((rd_T30 l0 x4_1).f4)] 30 (0, 0)) (by (with_reducible repeat (first | refine blk_drewN ?_ _ | refine blk_drew ?_ | refine blk_alloc ?_ _)); refine blk_put (cs := #[.int .i64 ((rd_T30 l0 x4_1).f0), .int .i64 ((rd_T30 l0 x4_1).f1), .string ((rd_T30 l0 x4_1).f2), .int .i64 ((rd_T30 l0 x4_1).f3), .int .i64 ((rd_T30 l0 x4_1).f4)]) ?_ 1 _ rfl; (with_reducible repeat (first | refine blk_drewN ?_ _ | refine blk_drew ?_ | refine blk_alloc ?_ _)); refine blk_put (cs := #[.int .i64 ((rd_T30 l0 x4_1).f0), .int .i64 ((rd_T30 l0 x4_1).f1), .string ((rd_T30 l0 x4_1).f2), .int .i64 ((rd_T30 l0 x4_1).f3), .int .i64 0]) ?_ 4 _ rfl; (with_reducible repeat (first | refine blk_drewN ?_ _ | refine blk_drew ?_ | refine blk_alloc ?_ _)); refine blk_put (cs := #[.int .i64 ((rd_T30 l0 x4_1).f0), .int .i64 ((rd_T30 l0 x4_1).f1), .string ((rd_T30 l0 x4_1).f2), .int .i64 0, .int .i64 0]) ?_ 3 _ rfl; (with_reducible repeat (first | refine blk_drewN ?_ _ | refine blk_drew ?_ | refine blk_alloc ?_ _)); refine blk_put (cs := #[.int .i64 ((rd_T30 l0 x4_1).f0), .int .i64 ((rd_T30 l0 x4_1).f1), .string (⟨#[]⟩ : ByteArray), .int .i64 0, .int .i64 0]) ?_ 2 _ rfl; (with_reducible repeat (first | refine blk_drewN ?_ _ | refine blk_drew ?_ | refine blk_alloc ?_ _)); refine blk_put (cs := #[.int .i64 ((rd_T30 l0 x4_1).f0), .int .i64 0, .string (⟨#[]⟩ : ByteArray), .int .i64 0, .int .i64 0]) ?_ 1 _ rfl; (with_reducible repeat (first | refine blk_drewN ?_ _ | refine blk_drew ?_ | refine blk_alloc ?_ _)); refine blk_put (cs := #[.int .i64 0, .int .i64 0, .string (⟨#[]⟩ : ByteArray), .int .i64 0, .int .i64 0]) ?_ 0 _ rfl; (with_reducible repeat (first | refine blk_drewN ?_ _ | refine blk_drew ?_ | refine blk_alloc ?_ _)); exact BK223.out) k_ hk)); (case aO => exact (by (with_reducible repeat (first | apply Kd.R_alloc | apply Kd.R_drewN | apply Kd.R_drew)); exact Kd.R_mono (Kd.R_far (p := ⟨gb223, 1, none⟩) (Kd.R_far (p := ⟨gb223, 4, none⟩) (Kd.R_far (p := ⟨gb223, 3, none⟩) (Kd.R_far (p := ⟨gb223, 2, none⟩) (Kd.R_far (p := ⟨gb223, 1, none⟩) (Kd.R_far (p := ⟨gb223, 0, none⟩) (Kd.R_mono HO_3.out (fun k_ hk => (⟨hk, hk.2⟩ : _ ∧ k_ ≠ gb223))) (fun _ hk => hk.2) (.int .i64 ((rd_T30 l0 x4_1).f0))) (fun _ hk => hk.2) (.int .i64 ((rd_T30 l0 x4_1).f1))) (fun _ hk => hk.2) (.string ((rd_T30 l0 x4_1).f2))) (fun _ hk => hk.2) (.int .i64 ((rd_T30 l0 x4_1).f3))) (fun _ hk => hk.2) (.int .i64 ((rd_T30 l0 x4_1).f4))) (fun _ hk => hk.2) (.int .i64 0)) (fun _ hk => hk.1.2))); (case aS => exact (below_size (by repeat (first | (with_reducible first | exact HB.out | apply below_alloc | apply pw_below_drewN | apply below_drew1 | refine below_set ?_ GE223.out) | exact HB.out)))); (case aL => have := LMc4.out; omega); intro v225 w7 ho hb hg hat; rw [← Ny224.out] at ho; have n0_ := Aside0.mk (blk_grown (g := gb223) (o := .cells #[.int .i64 ((rd_T30 l0 x4_1).f0), .int .i64 0, .string ((rd_T30 l0 x4_1).f2), .int .i64 ((rd_T30 l0 x4_1).f3), .int .i64 ((rd_T30 l0 x4_1).f4)] 30 (0, 0)) (by (with_reducible repeat (first | refine blk_drewN ?_ _ | refine blk_drew ?_ | refine blk_alloc ?_ _)); refine blk_put (cs := #[.int .i64 ((rd_T30 l0 x4_1).f0), .int .i64 ((rd_T30 l0 x4_1).f1), .string ((rd_T30 l0 x4_1).f2), .int .i64 ((rd_T30 l0 x4_1).f3), .int .i64 ((rd_T30 l0 x4_1).f4)]) ?_ 1 _ rfl; (with_reducible repeat (first | refine blk_drewN ?_ _ | refine blk_drew ?_ | refine blk_alloc ?_ _)); refine blk_put (cs := #[.int .i64 ((rd_T30 l0 x4_1).f0), .int .i64 ((rd_T30 l0 x4_1).f1), .string ((rd_T30 l0 x4_1).f2), .int .i64 ((rd_T30 l0 x4_1).f3), .int .i64 0]) ?_ 4 _ rfl; (with_reducible repeat (first | refine blk_drewN ?_ _ | refine blk_drew ?_ | refine blk_alloc ?_ _)); refine blk_put (cs := #[.int .i64 ((rd_T30 l0 x4_1).f0), .int .i64 ((rd_T30 l0 x4_1).f1), .string ((rd_T30 l0 x4_1).f2), .int .i64 0, .int .i64 0]) ?_ 3 _ rfl; (with_reducible repeat (first | refine blk_drewN ?_ _ | refine blk_drew ?_ | refine blk_alloc ?_ _)); refine blk_put (cs := #[.int .i64 ((rd_T30 l0 x4_1).f0), .int .i64 ((rd_T30 l0 x4_1).f1), .string (⟨#[]⟩ : ByteArray), .int .i64 0, .int .i64 0]) ?_ 2 _ rfl; (with_reducible repeat (first | refine blk_drewN ?_ _ | refine blk_drew ?_ | refine blk_alloc ?_ _)); refine blk_put (cs := #[.int .i64 ((rd_T30 l0 x4_1).f0), .int .i64 0, .string (⟨#[]⟩ : ByteArray), .int .i64 0, .int .i64 0]) ?_ 1 _ rfl; (with_reducible repeat (first | refine blk_drewN ?_ _ | refine blk_drew ?_ | refine blk_alloc ?_ _)); refine blk_put (cs := #[.int .i64 0, .int .i64 0, .string (⟨#[]⟩ : ByteArray), .int .i64 0, .int .i64 0]) ?_ 0 _ rfl; (with_reducible repeat (first | refine blk_drewN ?_ _ | refine blk_drew ?_ | refine blk_alloc ?_ _)); exact BK223.out) hg (Kd.R_away HO_3.out (fun _ hk => hk.2))); have n1_ := Aside0.mk (hb); have n2_ := Aside0.mk (ho); clear BK223; clear HB; clear HO_3; have BK223 := n0_; have HB := n1_; have HO226 := n2_; clear n0_ n1_ n2_; clear ho hb hg hat))
            go_roundg k1
            case measure => have := HK1.out; omega
            case rel => exact ⟨(y224), (wrap64 (x4_1 + 1)), (by first | rfl | (simp; done) | (simp [*]; done)), H', ⟨by have := HK1.out; omega⟩, ⟨by (with_reducible repeat (first | apply Kd.R_alloc | apply Kd.R_drewN | apply Kd.R_drew)); exact Kd.R_mono HO226.out (fun _ hk => trivial)⟩, ⟨by repeat (first | (with_reducible first | exact HB.out | apply below_alloc | apply pw_below_drewN | apply below_drew1 | refine below_set ?_ GE223.out) | exact HB.out)⟩⟩
          · rw [if_neg c4] at H
            exact absurd H (by simp)
        · rw [if_neg c3] at H
          exact absurd H (by simp)
      · rw [if_neg c2] at H
        have c2b0 : decide (x4_1 < (l0.length : Int)) = false := decide_eq_false c2
        clear c2
        obtain rfl := Option.some.inj H
        go_wp2
        go_ret
        exact ⟨_, by first | rfl | (simp [errW_none, errW_some] <;> rfl) | (simp [*, errW_none, errW_some] <;> rfl), by (with_reducible repeat (first | apply Kd.R_alloc | apply Kd.R_drewN | apply Kd.R_drew)); exact HO_3.out, by repeat (first | (with_reducible first | exact HB.out | apply below_alloc | apply pw_below_drewN | apply below_drew1) | exact HB.out)⟩

end Go.Proofs.YtgcgpeeokdnplaaDoor.PA
end
