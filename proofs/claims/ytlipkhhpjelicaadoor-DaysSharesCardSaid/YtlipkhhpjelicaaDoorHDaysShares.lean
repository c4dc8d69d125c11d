/- DaysShares walked by hand: the law's call comes to true. Condition: the world holds the table of the months' lengths ('Tabs'). -/
import Derived.Test.YtlipkhhpjelicaaDoorDaysKnown
import Derived.Test.YtlipkhhpjelicaaDoorHDaysMonths
import Derived.Test.YtlipkhhpjelicaaDoorHShare
import Derived.Test.YtlipkhhpjelicaaDoorShares
import Derived.Test.YtlipkhhpjelicaaDoorPAx0
import Derived.Test.YtlipkhhpjelicaaDoorPAx2
import Derived.Test.YtlipkhhpjelicaaDoorPAx4
import Derived.Test.YtlipkhhpjelicaaDoorPAx9
namespace Go.Proofs.YtlipkhhpjelicaaDoor.PA
open Go.RowKit Go.Shelf Go.Proofs.YtlipkhhpjelicaaDoorW.PrintWords Go.Proofs.YtlipkhhpjelicaaDoorW.PrintLast Go.Proofs.YtlipkhhpjelicaaDoorW.PrintMore Go.Proofs.YtlipkhhpjelicaaDoor.Days Go.Proofs.YtlipkhhpjelicaaDoor.Cal
set_option linter.unusedVariables false
set_option linter.unusedSimpArgs false

/-- The block of the years' days. -/
def Yrs (W : World) (g : Nat) (f : Nat → Int) : Prop := ∃ cs : Array Value, W.heap[g]? = some (.cells cs 63 (0, 0)) ∧ cs.size = 300 ∧ ∀ j, j < 300 → cs[j]? = some (.int .i64 (f j))

theorem Yrs.cell {W : World} {g : Nat} {f : Nat → Int} (h : Yrs W g f) {j : Nat} (hj : j < 300) : W.cell? ⟨g, j, none⟩ = some (.int .i64 (f j)) := by
  obtain ⟨cs, hb, _, hc⟩ := h
  rw [blk_cell hb, hc j hj]
theorem Yrs.frozen {W : World} {g : Nat} {f : Nat → Int} (h : Yrs W g f) (j : Nat) : W.frozen? ⟨g, j, none⟩ = false := by
  obtain ⟨cs, hb, _, _⟩ := h
  exact blk_frozen hb j
theorem Yrs.lt {W : World} {g : Nat} {f : Nat → Int} (h : Yrs W g f) : g < W.heap.size := by
  obtain ⟨cs, hb, _, _⟩ := h
  exact blk_lt hb
theorem Yrs.alloc {W : World} {g : Nat} {f : Nat → Int} (h : Yrs W g f) (o : Obj) : Yrs (W.alloc o) g f := by
  obtain ⟨cs, hb, hs, hc⟩ := h
  exact ⟨cs, blk_alloc hb _, hs, hc⟩
theorem Yrs.drewN {W : World} {g : Nat} {f : Nat → Int} (h : Yrs W g f) (n : Nat) : Yrs (W.drewN n) g f := by
  obtain ⟨cs, hb, hs, hc⟩ := h
  exact ⟨cs, blk_drewN hb _, hs, hc⟩
theorem Yrs.below {W W' : World} {g : Nat} {f : Nat → Int} (h : Yrs W g f) (hb : Below W.heap.size W W') : Yrs W' g f := by
  obtain ⟨cs, hb', hs, hc⟩ := h
  exact ⟨cs, blk_below hb' hb, hs, hc⟩
theorem Yrs.set {W : World} {g : Nat} {f f' : Nat → Int} (h : Yrs W g f) {j : Nat} (hj : j < 300) {v : Int} (hv : f' j = v) (hf : ∀ i, i < 300 → i ≠ j → f' i = f i) : Yrs (W.setCell ⟨g, j, none⟩ (.int .i64 v)) g f' := by
  obtain ⟨cs, hb, hs, hc⟩ := h
  refine ⟨_, blk_set hb j _, by rw [Array.size_setIfInBounds]; exact hs, fun i hi => ?_⟩
  by_cases hij : i = j
  · subst hij
    rw [Array.getElem?_setIfInBounds_self_of_lt (by omega), hv]
  · rw [Array.getElem?_setIfInBounds_ne (Ne.symm hij), hc i hi, hf i hi hij]
theorem Yrs.R_set {α : Type} {d : Kd α} {e : TypeId} {W : World} {b g : Nat} {ok : Nat → Prop} {v : Value} {xs : List α} {f : Nat → Int} (h : Yrs W g f) (hr : Kd.R d e W b ok v xs) (ht : ∀ q, q ∈ e :: d.E → q ≠ 63) (j : Nat) (u : Value) : Kd.R d e (W.setCell ⟨g, j, none⟩ u) b ok v xs := by
  obtain ⟨cs, hb, _, _⟩ := h
  exact Kd.R_set hr hb ht j u
theorem zero63 (w : World) : (zeroValue 63).run Tryd.prog w = .ok (.agg (Array.replicate 300 (.int .i64 0))) w := by kernel_rfl
theorem yrs_new (W : World) : Yrs (W.alloc (.cells (Array.replicate 300 (.int .i64 0)) 63)) W.heap.size (fun _ => 0) :=
  ⟨_, World.alloc_heap_new W _, Array.size_replicate, fun j hj => by rw [Array.getElem?_replicate, if_pos hj]⟩
theorem kPc_63 : ∀ q, q ∈ 35 :: kPc.E → q ≠ 63 := by
  intro q hq
  rcases List.mem_cons.1 hq with rfl | h
  · decide
  · exact absurd (show q ∈ ([] : List Nat) from h) List.not_mem_nil

theorem years_set {W : World} {g i : Nat} {xs : List Pc} {y m d n : Int} (h : Yrs W g (yearS xs i)) (hj : (y - 1900).toNat < 300) (he : ((y - 1900).toNat : Int) = y - 1900)
    (hyr : ∀ j, yearS xs (i + 1) j = partF (1900 + (j : Int)) (yearS xs i j) ((y, m, d), n)) :
    Yrs (W.setCell ⟨g, (y - 1900).toNat, none⟩ (.int .i64 (wrap64 (yearS xs i (y - 1900).toNat + n)))) g (yearS xs (i + 1)) := by
  generalize (y - 1900).toNat = j at *
  refine h.set hj ?_ fun k hk hne => ?_
  · rw [hyr]; unfold partF; rw [if_pos (by show y = _; omega)]
  · rw [hyr]; unfold partF; rw [if_neg (by show ¬ y = _; omega)]

set_option maxRecDepth 100000 in
set_option maxHeartbeats 4000000 in
theorem daysShares_calls (p q : Int) (hp : (Lit.int .i64 p).wf = true) (hq : (Lit.int .i64 q).wf = true) (w : World) (hT : Tabs w) :
    Calls Tryd.prog 7 #[.int .i64 p, .int .i64 q] w fun e w' => e = .returned (.bool true) ∧ Below w.heap.size w w' := by
  obtain ⟨Kk, hk⟩ := Pure.known_ev
  obtain ⟨a, ha, ha0, ha1⟩ := Pure.day_some hp
  obtain ⟨b, hb, hb0, hb1⟩ := Pure.day_some hq
  have HKN := Aside0.mk (hk Kk (Nat.le_refl _))
  have HDA := Aside0.mk ha
  have HDB := Aside0.mk hb
  have HT := Aside0.mk hT
  clear hk ha hb hp hq hT
  go_enter Tryd.func7, Tryd.ntmps7
  go_upto_if 28 with (first
    | (go_at_call 29; (with_reducible refine (levylaw2_known.calls Kk true _ HT.out HKN.out).mono ?_); rintro e w1 ⟨rfl, hb⟩; have HB := Aside0.mk hb; clear hb)
    | (go_at_call 30; first
      | ((with_reducible refine (levylaw2_day.calls p a _ HDA.out).mono ?_); rintro e w2 ⟨rfl, ⟨nd, rfl⟩⟩)
      | ((with_reducible refine (levylaw2_day.calls q b _ HDB.out).mono ?_); rintro e w2 ⟨rfl, ⟨nd2, rfl⟩⟩)))
  (try simp only [Act.put, List.setIfInBounds_toArray, List.set_cons_zero, List.set_cons_succ])
  go_cut [0, 1] (fun v0 v1 wc => ∃ lo hi : Int, v0 = .int .i64 lo ∧ v1 = .int .i64 hi ∧ Aside0 (0 ≤ lo ∧ lo ≤ hi ∧ hi ≤ 109572) ∧ Aside0 (Below w.heap.size w wc))
  case first =>
    by_cases c9 : b < a
    · have c9b0 : decide (b < a) = true := decide_eq_true c9
      have HC := Aside0.mk c9
      clear c9
      rw [c9b0]
      go_wp2
      go_meet
      case rel => exact ⟨b, a, rfl, rfl, ⟨by have := HC.out; omega⟩, ⟨by repeat (first | (with_reducible first | exact HB.out | apply below_alloc | apply pw_below_drewN | apply below_drew1) | exact HB.out)⟩⟩
    · have c9b0 : decide (b < a) = false := decide_eq_false c9
      have HC := Aside0.mk c9
      clear c9
      rw [c9b0]
      go_wp2
      go_meet
      case rel => exact ⟨a, b, rfl, rfl, ⟨by have := HC.out; omega⟩, ⟨by repeat (first | (with_reducible first | exact HB.out | apply below_alloc | apply pw_below_drewN | apply below_drew1) | exact HB.out)⟩⟩
  case rest =>
    obtain ⟨lo, up, rfl, rfl, HL, HB2⟩ := hcut
    clear HB HKN HDA HDB ha0 ha1 hb0 hb1
    obtain ⟨xs, hxs⟩ := mf_span (last := up) (by have := HL.out; omega) (n := lo) (by have := HL.out; omega)
    have hlen : xs.length ≤ 3600 := by
      have := mf_len hxs (k := 0) (by have : B 0 = 0 := rfl; have := HL.out; omega) (by omega)
      omega
    have e1 : min up 109572 = up := by have := HL.out; omega
    have e2 : max lo 0 = lo := by have := HL.out; omega
    have HXS := Aside0.mk hxs
    have HXS2 : Aside0 (MF (min up 109572) (max lo 0) xs) := Aside0.mk (by rw [e1, e2]; exact hxs)
    clear hxs e1 e2
    have hz := zero63
    go_upto_region 8 with fail
    have hY := yrs_new wc
    have hB3 := below_alloc HB2.out (.cells (Array.replicate 300 (.int .i64 0)) 63)
    obtain ⟨g, hg⟩ : ∃ g, g = wc.heap.size := ⟨_, rfl⟩
    obtain ⟨W0, hW0⟩ : ∃ W0, wc.alloc (.cells (Array.replicate 300 (.int .i64 0)) 63) = W0 := ⟨_, rfl⟩
    have HGE : Aside0 (w.heap.size ≤ g) := ⟨by rw [hg]; exact HB2.out.size⟩
    rw [hW0, ← hg] at hY
    rw [hW0] at hB3
    rw [hW0, ← hg]
    clear hW0 HB2
    have bA : Boxed ((W0.alloc (.cells #[.int .i64 lo] 3)).alloc (.cells #[.int .i64 up] 3)) W0.heap.size 3 (.int .i64 lo) := blk_alloc (World.alloc_heap_new W0 _) _
    have bB : Boxed ((W0.alloc (.cells #[.int .i64 lo] 3)).alloc (.cells #[.int .i64 up] 3)) (W0.heap.size + 1) 3 (.int .i64 up) := by
      have h := World.alloc_heap_new (W0.alloc (.cells #[.int .i64 lo] 3)) (.cells #[.int .i64 up] 3)
      rw [World.size_alloc] at h
      exact h
    have hB4 := below_alloc (below_alloc hB3 (.cells #[.int .i64 lo] 3)) (.cells #[.int .i64 up] 3)
    have hY4 := (hY.alloc (.cells #[.int .i64 lo] 3)).alloc (.cells #[.int .i64 up] 3)
    have HP := pieces_calls W0.heap.size (W0.heap.size + 1) lo up 0 xs HXS2.out (by omega) ((W0.alloc (.cells #[.int .i64 lo] 3)).alloc (.cells #[.int .i64 up] 3)) (HT.out.below hB4) bA.lt bB.lt bA.cell bB.cell
    rw [show takeS xs 0 = xs by unfold takeS; rw [if_neg (by omega)]] at HP
    have HB4 := Aside0.mk hB4
    have HY4 := Aside0.mk hY4
    clear hB4 hY4 hB3 hY bA bB hz hg
    go_wp2_with (first
      | (go_at_call 13; (with_reducible refine (months_make lo up _).mono ?_); rintro e w2 ⟨rfl, rfl⟩)
      | (go_at_call 14; (with_reducible refine HP.mono ?_); rintro e w2 ⟨v, rfl, hg, hbg⟩; clear HP; obtain ⟨A2, c2, rfl⟩ := Kd.R_slice hg; have HG := Aside0.mk hg; have HB5 := Aside0.mk (HB4.out.trans (hbg.mono HB4.out.size)); have HY5 := Aside0.mk (HY4.out.below hbg); clear hg hbg HB4 HY4))
    go_loopw [5, 9] (fun v5 v9 wr => ∃ i : Nat, i ≤ xs.length ∧ v9 = .int .i64 i ∧ v5 = .int .i64 (lo + sumS xs i) ∧ Hid (Kd.R kPc 35 wr ((W0.alloc (.cells #[.int .i64 lo] 3)).alloc (.cells #[.int .i64 up] 3)).heap.size (fun _ => True) (.slice A2 xs.length c2) xs) ∧ Hid (Yrs wr g (yearS xs i)) ∧ Hid (Below w.heap.size w wr)) (fun _ v9 _ => xs.length - (intOf v9).toNat)
    case atStart => exact ⟨0, by omega, rfl, by rw [sumS_zero]; congr 1; omega, HG.out, HY5.out, HB5.out⟩
    case round =>
      clear HG HY5 HB5
      obtain ⟨i, hi, rfl, rfl, hr, hY, hb⟩ := hrel
      by_cases hin : i < xs.length
      · have cin : (i : Int) < (xs.length : Int) := by omega
        obtain ⟨x, hx⟩ : ∃ x, xs[i]? = some x := ⟨_, List.getElem?_eq_getElem hin⟩
        obtain ⟨z0, z1, hnum, n1, n2, y1, y2, d1, d2, hla, hfirst, hsum⟩ := piece_facts (by have := HL.out; omega) HXS.out (by have := HL.out; omega) hx
        obtain ⟨KN, hKN⟩ := number_p x.1.1 x.1.2.1 x.1.2.2
        have hKN := hKN KN (Nat.le_refl _)
        rw [hnum] at hKN
        have hKL := last_p 0 x.1.1 x.1.2.1
        obtain ⟨ag, hA2, g0, g1, g2, g3⟩ := got_at (R_C hr.out) hin hx
        subst hA2
        have HG2 := Kd.R_alloc hr.out (.cells #[.int .i64 0, .int .i64 0, .int .i64 0] 33)
        obtain ⟨ag', hA3, q0, q1, q2, q3⟩ := got_at (R_C HG2) hin hx
        obtain rfl := Option.some.inj hA3
        clear HG2
        have hyr := fun j => yearS_succ hx j
        obtain ⟨⟨y, m, d⟩, n⟩ := x
        dsimp only at hnum n1 n2 y1 y2 d1 d2 hla hfirst hsum hKN hKL g0 g1 g2 g3 q0 q1 q2 q3 hyr
        have HG3 := Kd.R_alloc hr.out (.cells #[.int .i64 y, .int .i64 m, .int .i64 d] 33)
        obtain ⟨ag', hA3, p0, p1, p2, p3⟩ := got_at (R_C HG3) hin hx
        obtain rfl := Option.some.inj hA3
        clear HG3 hA3
        dsimp only at p0 p1 p2 p3
        obtain ⟨z, hz⟩ : ∃ z, z = lo + sumS xs i := ⟨_, rfl⟩
        rw [← hz] at hKN hfirst z0 z1 ⊢
        have HZ := Aside0.mk hz
        have HKN := Aside0.mk hKN
        have HKL := Aside0.mk hKL
        have HLA := Aside0.mk hla
        have HF := Aside0.mk hfirst
        have HS := Aside0.mk hsum
        have HYR := Aside0.mk hyr
        have HX := Aside0.mk hx
        clear hz hKN hKL hla hfirst hsum hnum hyr hx
        go_upto_region 12 with fail
        go_region
        have bx : ((wr.alloc (.cells #[.int .i64 y, .int .i64 m, .int .i64 d] 33)).drew).heap[wr.heap.size]? = some (.cells #[.int .i64 y, .int .i64 m, .int .i64 d] 33 (0, 0)) := blk_drew (World.alloc_heap_new wr _)
        have HR2 := Aside0.mk (Kd.R_drew (Kd.R_alloc hr.out (.cells #[.int .i64 y, .int .i64 m, .int .i64 d] 33)))
        have HY2 := Aside0.mk ((hY.out.alloc (.cells #[.int .i64 y, .int .i64 m, .int .i64 d] 33)).drewN 1)
        have HB6 := Aside0.mk (pw_below_drewN (below_alloc hb.out (.cells #[.int .i64 y, .int .i64 m, .int .i64 d] 33)) 1)
        obtain ⟨G, hG⟩ : ∃ G, G = wr.heap.size := ⟨_, rfl⟩
        obtain ⟨W1, hW1⟩ : ∃ W1, (wr.alloc (.cells #[.int .i64 y, .int .i64 m, .int .i64 d] 33)).drew = W1 := ⟨_, rfl⟩
        have HR2 : Aside0 (Kd.R kPc 35 W1 ((W0.alloc (.cells #[.int .i64 lo] 3)).alloc (.cells #[.int .i64 up] 3)).heap.size (fun _ => True) (.slice (some ag) xs.length c2) xs) := ⟨by rw [← hW1]; exact HR2.out⟩
        have HY2 : Aside0 (Yrs W1 g (yearS xs i)) := ⟨by rw [← hW1]; exact HY2.out⟩
        have HB6 : Aside0 (Below w.heap.size w W1) := ⟨by rw [← hW1]; exact HB6.out⟩
        rw [hW1, ← hG] at bx
        rw [hW1, ← hG]
        clear hW1 hG hr hY hb g0 g1 g2 g3 q0 q1 q2 q3 p0 p1 p2 p3
        have cx0 := (blk_cell bx 0).trans rfl
        have cx1 := (blk_cell bx 1).trans rfl
        have cx2 := (blk_cell bx 2).trans rfl
        go_upto_region 14 with (go_at_call 19; (with_reducible refine (days_Number.calls KN y m d z 0 _ (HT.out.below HB6.out) HKN.out).mono ?_); rintro e w2 ⟨rfl, ⟨nd, rfl⟩⟩)
        obtain ⟨L, hL⟩ : ∃ L, L = lastD y m := ⟨_, rfl⟩
        obtain ⟨W2, hW2⟩ : ∃ W2, W1.drewN nd = W2 := ⟨_, rfl⟩
        have HR3 : Aside0 (Kd.R kPc 35 W2 ((W0.alloc (.cells #[.int .i64 lo] 3)).alloc (.cells #[.int .i64 up] 3)).heap.size (fun _ => True) (.slice (some ag) xs.length c2) xs) := ⟨by rw [← hW2]; exact Kd.R_drew HR2.out⟩
        have HY3 : Aside0 (Yrs W2 g (yearS xs i)) := ⟨by rw [← hW2]; exact HY2.out.drewN nd⟩
        have HB7 : Aside0 (Below w.heap.size w W2) := ⟨by rw [← hW2]; exact pw_below_drewN HB6.out nd⟩
        have bx2 : W2.heap[G]? = some (.cells #[.int .i64 y, .int .i64 m, .int .i64 d] 33 (0, 0)) := by rw [← hW2]; exact blk_drewN bx nd
        rw [hW2]
        have HKL2 : Aside0 (days_Last.f 1 y m = some L) := ⟨by rw [hL]; exact HKL.out⟩
        have HLA2 : Aside0 (d + n - 1 ≤ L) := ⟨by rw [hL]; exact HLA.out⟩
        clear hL hW2 HR2 HY2 HB6 bx cx0 cx1 cx2 HKL HLA HKN
        have cx0 := (blk_cell bx2 0).trans rfl
        have cx1 := (blk_cell bx2 1).trans rfl
        have cx2 := (blk_cell bx2 2).trans rfl
        have s1 : wrap64 (d + n) = d + n := Go.Proofs.YtlipkhhpjelicaaDoor.Days.wr (by omega) (by omega)
        have s2 : wrap64 (d + n - 1) = d + n - 1 := Go.Proofs.YtlipkhhpjelicaaDoor.Days.wr (by omega) (by omega)
        have t3 : ¬ n < 1 := by omega
        have t4 : ¬ 31 < n := by omega
        have t5 : ¬ y < 1900 := by omega
        have t6 : ¬ 2199 < y := by omega
        have t7 : ¬ L < d + n - 1 := by have := HLA2.out; omega
        by_cases t8 : 1 < d
        · obtain rfl : lo = z := by have := HF.out t8; have := HZ.out; omega
          go_quiet (first | (go_at_call 17; (with_reducible refine (days_Last.calls 1 y m L _ (HT.out.below (pw_below_drewN HB7.out _)) HKL2.out).mono ?_); rintro e w' ⟨rfl, ⟨nd, rfl⟩⟩; exact ⟨rfl, _, World.drewN_drewN _ _ _⟩))
          go_wp2
          obtain ⟨W3, hW3⟩ : ∃ W3, W2.drewN nq = W3 := ⟨_, rfl⟩
          have HR4 : Aside0 (Kd.R kPc 35 W3 ((W0.alloc (.cells #[.int .i64 lo] 3)).alloc (.cells #[.int .i64 up] 3)).heap.size (fun _ => True) (.slice (some ag) xs.length c2) xs) := ⟨by rw [← hW3]; exact Kd.R_drew HR3.out⟩
          have HY4 : Aside0 (Yrs W3 g (yearS xs i)) := ⟨by rw [← hW3]; exact HY3.out.drewN nq⟩
          have HB8 : Aside0 (Below w.heap.size w W3) := ⟨by rw [← hW3]; exact pw_below_drewN HB7.out nq⟩
          have bx3 : W3.heap[G]? = some (.cells #[.int .i64 y, .int .i64 m, .int .i64 d] 33 (0, 0)) := by rw [← hW3]; exact blk_drewN bx2 nq
          rw [hW3]
          clear hW3 HR3 HY3 HB7 bx2 cx0 cx1 cx2
          have cx0 := (blk_cell bx3 0).trans rfl
          have hj3 : (y - 1900).toNat < 300 := by omega
          have hj0 : 0 ≤ y - 1900 := by omega
          have hj1 : y - 1900 < 300 := by omega
          have hyj : wrap64 (y - 1900) = y - 1900 := Go.Proofs.YtlipkhhpjelicaaDoor.Days.wr (by omega) (by omega)
          have HJ3 := Aside0.mk hj3
          have HJE := Aside0.mk (Int.toNat_of_nonneg hj0)
          have cY := HY4.out.cell hj3
          have fY := HY4.out.frozen (y - 1900).toNat
          go_region
          clear hj3 hj0 hj1 hyj cY fY cx0 s1 s2 t3 t4 t5 t6 t7
          have hi1 : wrap64 ((i : Int) + 1) = (i : Int) + 1 := Go.Proofs.YtlipkhhpjelicaaDoor.Days.wr (by omega) (by omega)
          go_wp2
          exact ⟨⟨i + 1, by omega, congrArg (Value.int .i64) (by omega), congrArg (Value.int .i64) (by have := HS.out; have := HZ.out; omega), Kd.R_drew (HY4.out.R_set HR4.out kPc_63 _ _), (years_set HY4.out HJ3.out HJE.out HYR.out).drewN 1, pw_below_drewN (HB8.out.setCell (p := ⟨g, (y - 1900).toNat, none⟩) HGE.out _) 1⟩, by simp [intOf]; omega⟩
        · skip
          go_quiet (first | (go_at_call 17; (with_reducible refine (days_Last.calls 1 y m L _ (HT.out.below (pw_below_drewN HB7.out _)) HKL2.out).mono ?_); rintro e w' ⟨rfl, ⟨nd, rfl⟩⟩; exact ⟨rfl, _, World.drewN_drewN _ _ _⟩))
          go_wp2
          obtain ⟨W3, hW3⟩ : ∃ W3, W2.drewN nq = W3 := ⟨_, rfl⟩
          have HR4 : Aside0 (Kd.R kPc 35 W3 ((W0.alloc (.cells #[.int .i64 lo] 3)).alloc (.cells #[.int .i64 up] 3)).heap.size (fun _ => True) (.slice (some ag) xs.length c2) xs) := ⟨by rw [← hW3]; exact Kd.R_drew HR3.out⟩
          have HY4 : Aside0 (Yrs W3 g (yearS xs i)) := ⟨by rw [← hW3]; exact HY3.out.drewN nq⟩
          have HB8 : Aside0 (Below w.heap.size w W3) := ⟨by rw [← hW3]; exact pw_below_drewN HB7.out nq⟩
          have bx3 : W3.heap[G]? = some (.cells #[.int .i64 y, .int .i64 m, .int .i64 d] 33 (0, 0)) := by rw [← hW3]; exact blk_drewN bx2 nq
          rw [hW3]
          clear hW3 HR3 HY3 HB7 bx2 cx0 cx1 cx2
          have cx0 := (blk_cell bx3 0).trans rfl
          have hj3 : (y - 1900).toNat < 300 := by omega
          have hj0 : 0 ≤ y - 1900 := by omega
          have hj1 : y - 1900 < 300 := by omega
          have hyj : wrap64 (y - 1900) = y - 1900 := Go.Proofs.YtlipkhhpjelicaaDoor.Days.wr (by omega) (by omega)
          have HJ3 := Aside0.mk hj3
          have HJE := Aside0.mk (Int.toNat_of_nonneg hj0)
          have cY := HY4.out.cell hj3
          have fY := HY4.out.frozen (y - 1900).toNat
          go_region
          clear hj3 hj0 hj1 hyj cY fY cx0 s1 s2 t3 t4 t5 t6 t7
          have hi1 : wrap64 ((i : Int) + 1) = (i : Int) + 1 := Go.Proofs.YtlipkhhpjelicaaDoor.Days.wr (by omega) (by omega)
          go_wp2
          exact ⟨⟨i + 1, by omega, congrArg (Value.int .i64) (by omega), congrArg (Value.int .i64) (by have := HS.out; have := HZ.out; omega), Kd.R_drew (HY4.out.R_set HR4.out kPc_63 _ _), (years_set HY4.out HJ3.out HJE.out HYR.out).drewN 1, pw_below_drewN (HB8.out.setCell (p := ⟨g, (y - 1900).toNat, none⟩) HGE.out _) 1⟩, by simp [intOf]; omega⟩
      · obtain rfl : i = xs.length := by omega
        have htot := mf_total HXS.out (by have := HL.out; omega)
        have hup : wrap64 (up + 1) = up + 1 := Go.Proofs.YtlipkhhpjelicaaDoor.Days.wr (by have := HL.out; omega) (by have := HL.out; omega)
        rw [htot]
        clear htot
        have HR := Aside0.mk hr.out
        have HYE := Aside0.mk hY.out
        have HBE := Aside0.mk hb.out
        clear hr hY hb
        go_wp2_with fail
        rw [hup]
        clear hup
        go_loopw [14, 15] (fun v14 v15 wr => ∃ j : Nat, j ≤ 300 ∧ v15 = .int .i64 (1900 + (j : Int)) ∧ v14 = .int .i64 (tillS lo up j) ∧ Hid (Yrs wr g (yearS xs xs.length)) ∧ Hid (Below w.heap.size w wr)) (fun _ v15 _ => 2200 - (intOf v15).toNat)
        case atStart => exact ⟨0, by omega, rfl, congrArg (Value.int .i64) (tillS_zero (by have := HL.out; omega)).symm, HYE.out, HBE.out⟩
        case round =>
          clear HR HYE HBE
          obtain ⟨j, hj, rfl, rfl, hY, hb⟩ := hrel
          by_cases h3 : j < 300
          · obtain ⟨y, hy⟩ : ∃ y, y = 1900 + (j : Int) := ⟨_, rfl⟩
            have hsh : Aside0 (days_Share.f lo up y = some (yearS xs xs.length j, B (12 * j + 12) - B (12 * j), 0)) := ⟨by
              have h1 := HL.out
              have e : shareS lo up y = (max 0 (min (B (12 * j + 12)) (up + 1) - max lo (B (12 * j))), B (12 * j + 12) - B (12 * j), 0) := by
                unfold shareS
                rw [if_neg (by omega), if_neg (by omega), hy, share_year]
              show some (shareS lo up y) = _
              rw [e, yearS_all (by omega) HXS.out (by omega) h3]⟩
            have hle : Aside0 (days_Leap.f y = some (leapB y)) := ⟨leap_p y⟩
            have hwh := whole_leap h3
            rw [← hy] at hwh ⊢
            have htill : Aside0 (wrap64 (tillS lo up j + yearS xs xs.length j) = tillS lo up (j + 1)) := ⟨by
              have h1 := HL.out
              have b1 := B_nonneg (12 * j)
              have b2 := B_top (show 12 * (j + 1) ≤ 3600 by omega)
              have e := tillS_succ (a := lo) (b := up) (by omega) j
              rw [← yearS_all (by omega) HXS.out (by omega) h3] at e
              rw [← e]
              have h2 : 0 ≤ tillS lo up (j + 1) := by unfold tillS; omega
              have h3 : tillS lo up (j + 1) ≤ 109573 := by unfold tillS; omega
              exact Go.Proofs.YtlipkhhpjelicaaDoor.Days.wr (by omega) (by omega)⟩
            obtain ⟨T, hT⟩ : ∃ T, T = tillS lo up j := ⟨_, rfl⟩
            obtain ⟨P, hP⟩ : ∃ P, P = yearS xs xs.length j := ⟨_, rfl⟩
            obtain ⟨Wh, hWh⟩ : ∃ Wh, Wh = B (12 * j + 12) - B (12 * j) := ⟨_, rfl⟩
            have cY := hY.out.cell h3
            rw [← hP, ← hT] at htill
            rw [← hP, ← hWh] at hsh
            rw [← hWh] at hwh
            rw [← hT]
            have HSH := hsh
            have HTI := htill
            have HY1 := Aside0.mk hy
            have HY2 := Aside0.mk hY.out
            have HB9 := Aside0.mk hb.out
            have HP := Aside0.mk hP
            have HJ3 := Aside0.mk h3
            clear hT hP hWh hsh htill hY hb cY
            have y0 : 0 ≤ y := by omega
            have y1 : y < 2200 := by omega
            have y2 : wrap64 (y + 1) = y + 1 := Go.Proofs.YtlipkhhpjelicaaDoor.Days.wr (by omega) (by omega)
            clear hy h3 hj
            by_cases hl : leapB y = true
            · rw [hl] at hle hwh
              rw [if_pos rfl] at hwh
              subst hwh
              go_upto_region 30 with (first
                | (go_at_call 33; (with_reducible refine (days_Share.calls lo up y P 366 0 _ (HT.out.below HB9.out) HSH.out).mono ?_); rintro e w2 ⟨rfl, hbs⟩; have HY3 := Aside0.mk (HY2.out.below hbs); have HB10 := Aside0.mk (HB9.out.trans (hbs.mono HB9.out.size)); clear hbs HY2 HB9)
                | (go_at_call 15; (with_reducible refine (days_Leap.calls y true _ hle.out).mono ?_); rintro e w3 ⟨rfl, ⟨nd, rfl⟩⟩))
              obtain ⟨W3, hW3⟩ : ∃ W3, w2.drewN nd = W3 := ⟨_, rfl⟩
              have HY4 : Aside0 (Yrs W3 g (yearS xs xs.length)) := ⟨by rw [← hW3]; exact HY3.out.drewN nd⟩
              have HB11 : Aside0 (Below w.heap.size w W3) := ⟨by rw [← hW3]; exact pw_below_drewN HB10.out nd⟩
              rw [hW3]
              clear hW3 HY3 HB10
              have ej : (y - 1900).toNat = j := by rw [HY1.out]; exact share_year
              have cY : W3.cell? ⟨g, (y - 1900).toNat, none⟩ = some (.int .i64 P) := by rw [ej, HP.out]; exact HY4.out.cell HJ3.out
              clear ej
              have hj0 : 0 ≤ y - 1900 := by have := HY1.out; omega
              have hj1 : y - 1900 < 300 := by omega
              have hyj : wrap64 (y - 1900) = y - 1900 := Go.Proofs.YtlipkhhpjelicaaDoor.Days.wr (by omega) (by omega)
              go_upto_region 32 with fail
              clear cY hj0 hj1 hyj
              have htill := HTI.out
              go_wp2
              rw [htill]
              go_roundw
              case rel =>
                exact ⟨j + 1, HJ3.out, congrArg (Value.int .i64) (by have := HY1.out; omega), rfl, HY4.out, HB11.out⟩
              case measure => simp [intOf]; omega
            · rw [Bool.not_eq_true] at hl
              rw [hl] at hle hwh
              rw [if_neg (by decide)] at hwh
              subst hwh
              go_upto_region 30 with (first
                | (go_at_call 33; (with_reducible refine (days_Share.calls lo up y P 365 0 _ (HT.out.below HB9.out) HSH.out).mono ?_); rintro e w2 ⟨rfl, hbs⟩; have HY3 := Aside0.mk (HY2.out.below hbs); have HB10 := Aside0.mk (HB9.out.trans (hbs.mono HB9.out.size)); clear hbs HY2 HB9)
                | (go_at_call 15; (with_reducible refine (days_Leap.calls y false _ hle.out).mono ?_); rintro e w3 ⟨rfl, ⟨nd, rfl⟩⟩))
              obtain ⟨W3, hW3⟩ : ∃ W3, w2.drewN nd = W3 := ⟨_, rfl⟩
              have HY4 : Aside0 (Yrs W3 g (yearS xs xs.length)) := ⟨by rw [← hW3]; exact HY3.out.drewN nd⟩
              have HB11 : Aside0 (Below w.heap.size w W3) := ⟨by rw [← hW3]; exact pw_below_drewN HB10.out nd⟩
              rw [hW3]
              clear hW3 HY3 HB10
              have ej : (y - 1900).toNat = j := by rw [HY1.out]; exact share_year
              have cY : W3.cell? ⟨g, (y - 1900).toNat, none⟩ = some (.int .i64 P) := by rw [ej, HP.out]; exact HY4.out.cell HJ3.out
              clear ej
              have hj0 : 0 ≤ y - 1900 := by have := HY1.out; omega
              have hj1 : y - 1900 < 300 := by omega
              have hyj : wrap64 (y - 1900) = y - 1900 := Go.Proofs.YtlipkhhpjelicaaDoor.Days.wr (by omega) (by omega)
              go_upto_region 32 with fail
              clear cY hj0 hj1 hyj
              have htill := HTI.out
              go_wp2
              rw [htill]
              go_roundw
              case rel =>
                exact ⟨j + 1, HJ3.out, congrArg (Value.int .i64) (by have := HY1.out; omega), rfl, HY4.out, HB11.out⟩
              case measure => simp [intOf]; omega
          · obtain rfl : j = 300 := by omega
            have hall : Aside0 (tillS lo up 300 = up - lo + 1) := ⟨tillS_all (by have := HL.out; omega) (by have := HL.out; omega)⟩
            rw [hall.out]
            have w1 : wrap64 (up - lo) = up - lo := Go.Proofs.YtlipkhhpjelicaaDoor.Days.wr (by have := HL.out; omega) (by have := HL.out; omega)
            have w2 : wrap64 (up - lo + 1) = up - lo + 1 := Go.Proofs.YtlipkhhpjelicaaDoor.Days.wr (by have := HL.out; omega) (by have := HL.out; omega)
            go_wp2
            refine bodyPost_ret (results_tmp rfl _ _ _) rfl ⟨rfl, hb.out⟩
end Go.Proofs.YtlipkhhpjelicaaDoor.PA
