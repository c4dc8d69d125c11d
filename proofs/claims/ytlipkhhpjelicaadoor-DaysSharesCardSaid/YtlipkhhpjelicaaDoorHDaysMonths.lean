/- DaysMonths walked by hand: the law's call comes to true. Condition: the world holds the table of the months' lengths ('Tabs'). -/
import Derived.Test.YtlipkhhpjelicaaDoorDaysMonthsEval
import Derived.Test.YtlipkhhpjelicaaDoorHPieces
import Derived.Test.YtlipkhhpjelicaaDoorPAx0
import Derived.Test.YtlipkhhpjelicaaDoorPAx30
namespace Go.Proofs.YtlipkhhpjelicaaDoor.PA
open Go.RowKit Go.Shelf Go.Proofs.YtlipkhhpjelicaaDoorW.PrintWords Go.Proofs.YtlipkhhpjelicaaDoorW.PrintLast Go.Proofs.YtlipkhhpjelicaaDoorW.PrintMore Go.Proofs.YtlipkhhpjelicaaDoor.Days Go.Proofs.YtlipkhhpjelicaaDoor.Cal
set_option linter.unusedVariables false
set_option linter.unusedSimpArgs false

theorem want_at {w : World} {A : Option Addr} {n : Nat} {xs : List Pc} (h : Kd.C k31 w A n (xs.map toS)) {i : Nat} {x : Pc} (hi : i < n) (hx : xs[i]? = some x) : ∃ ad, A = some ad ∧ w.cell? (ad.add (i * 4)) = some (.int .i64 x.1.1) ∧ w.cell? ⟨(ad.add (i * 4)).block, (ad.add (i * 4)).off + 1, none⟩ = some (.int .i64 x.1.2.1) ∧ w.cell? ⟨(ad.add (i * 4)).block, (ad.add (i * 4)).off + 2, none⟩ = some (.int .i64 x.1.2.2) ∧ w.cell? ⟨(ad.add (i * 4)).block, (ad.add (i * 4)).off + 3, none⟩ = some (.int .i64 x.2) := by
  have hr : rd_T31 (xs.map toS) (i : Int) = toS x := by
    unfold rd_T31
    rw [Int.toNat_natCast, List.getD_eq_getElem?_getD, List.getElem?_map, hx]; rfl
  have := at_T31 h (i : Int) (by omega) (by omega)
  rw [hr, Int.toNat_natCast] at this
  exact this
theorem got_at {w : World} {A : Option Addr} {n : Nat} {xs : List Pc} (h : Kd.C kPc w A n xs) {i : Nat} {x : Pc} (hi : i < n) (hx : xs[i]? = some x) : ∃ ad, A = some ad ∧ w.cell? (ad.add (i * 4)) = some (.int .i64 x.1.1) ∧ w.cell? ⟨(ad.add (i * 4)).block, (ad.add (i * 4)).off + 1, none⟩ = some (.int .i64 x.1.2.1) ∧ w.cell? ⟨(ad.add (i * 4)).block, (ad.add (i * 4)).off + 2, none⟩ = some (.int .i64 x.1.2.2) ∧ w.cell? ⟨(ad.add (i * 4)).block, (ad.add (i * 4)).off + 3, none⟩ = some (.int .i64 x.2) := by
  have hr : xs.getD (i : Int).toNat ((0, 0, 0), 0) = x := by
    rw [Int.toNat_natCast, List.getD_eq_getElem?_getD, hx]; rfl
  obtain ⟨ad, c, e, _, hK, hc0⟩ := Kd.C_get h ((0, 0, 0), 0) (i : Int) (by omega) (by omega)
  rw [hr] at hK
  rw [Int.toNat_natCast] at hc0
  have hc : ∀ j u, c[j]? = some u → w.cell? (ad.add (i * 4 + j)) = some u := hc0
  obtain rfl := kPc_open hK
  exact ⟨ad, e, hc 0 _ rfl, by rw [← add_field _ _ 1 (by omega)]; exact hc 1 _ rfl, by rw [← add_field _ _ 2 (by omega)]; exact hc 2 _ rfl, by rw [← add_field _ _ 3 (by omega)]; exact hc 3 _ rfl⟩

theorem R_C {α : Type} {k : Kd α} {t : TypeId} {w : World} {b : Nat} {ok : Nat → Prop} {A : Option Addr} {n c : Nat} {xs : List α} (h : Kd.R k t w b ok (.slice A n c) xs) : Kd.C k w A n xs := by
  obtain ⟨A', c', e, _, hc⟩ := Kd.R_reads h
  injection e with e1 e2 e3
  subst e1
  subst e2
  exact hc

set_option maxRecDepth 100000 in
set_option maxHeartbeats 4000000 in
theorem daysMonths_calls (a b stop : Int) (w : World) (hT : Tabs w) (xs : List Pc) (hxs : MF (min b 109572) (max a 0) xs) (K : Nat) (hK : levyref2_Months.f K a b = some (xs.map toS)) (hlen : xs.length ≤ 3600) :
    Calls Tryd.prog 3 #[.int .i64 a, .int .i64 b, .int .i64 stop] w fun e w' => e = .returned (.bool true) ∧ Below w.heap.size w w' := by
  have HT := Aside0.mk hT
  have HK := Aside0.mk hK
  have HXS := Aside0.mk hxs
  clear hK hxs hT
  go_enter Tryd.func3, Tryd.ntmps3
  go_wp2_with (first
    | (go_at_call 12; (with_reducible refine (levyref2_Months.calls K a b _ _ HK.out).mono ?_); rintro e w1 ⟨v, rfl, hr, hb⟩; obtain ⟨A1, c1, rfl⟩ := Kd.R_slice hr; have HR := Aside0.mk hr; have HB := Aside0.mk hb; clear hr hb)
    | (go_at_call 13; (with_reducible refine (months_make a b _).mono ?_); rintro e w2 ⟨rfl, rfl⟩))
  have bA : Boxed ((w1.alloc (.cells #[.int .i64 a] 3)).alloc (.cells #[.int .i64 b] 3)) w1.heap.size 3 (.int .i64 a) := blk_alloc (World.alloc_heap_new w1 _) _
  have bB : Boxed ((w1.alloc (.cells #[.int .i64 a] 3)).alloc (.cells #[.int .i64 b] 3)) (w1.heap.size + 1) 3 (.int .i64 b) := by
    have h := World.alloc_heap_new (w1.alloc (.cells #[.int .i64 a] 3)) (.cells #[.int .i64 b] 3)
    rw [World.size_alloc] at h
    exact h
  have hr0 : Kd.R k31 31 ((w1.alloc (.cells #[.int .i64 a] 3)).alloc (.cells #[.int .i64 b] 3)) w.heap.size (fun _ => True) (.slice A1 xs.length c1) (xs.map toS) := by
    have h := HR.out
    rw [List.length_map] at h
    exact Kd.R_alloc (Kd.R_alloc h _) _
  have hb0 : Below w.heap.size w ((w1.alloc (.cells #[.int .i64 a] 3)).alloc (.cells #[.int .i64 b] 3)) := below_alloc (below_alloc HB.out _) _
  obtain ⟨Ba, hBa⟩ : ∃ Ba, Ba = w1.heap.size := ⟨_, rfl⟩
  obtain ⟨Bb, hBb⟩ : ∃ Bb, Bb = w1.heap.size + 1 := ⟨_, rfl⟩
  obtain ⟨W0, hW0⟩ : ∃ W0, ((w1.alloc (.cells #[.int .i64 a] 3)).alloc (.cells #[.int .i64 b] 3)) = W0 := ⟨_, rfl⟩
  rw [hW0] at bA bB hr0 hb0 ⊢
  rw [← hBb] at bB ⊢
  rw [← hBa] at bA ⊢
  clear hW0 hBa hBb HR HB
  go_loopw [9] (fun v9 wr => ∃ k : Nat, k ≤ 3 ∧ v9 = .int .i64 k ∧ Hid (Kd.R k31 31 wr w.heap.size (fun _ => True) (.slice A1 xs.length c1) (xs.map toS)) ∧ Hid (Boxed wr Ba 3 (.int .i64 a)) ∧ Hid (Boxed wr Bb 3 (.int .i64 b)) ∧ Hid (Below w.heap.size w wr)) (fun v9 _ => 3 - (intOf v9).toNat)
  case atStart => exact ⟨0, by omega, rfl, hr0, bA, bB, hb0⟩
  case round =>
    clear hr0 bA bB hb0
    obtain ⟨k, hk, rfl, hr, bA, bB, hb⟩ := hrel
    by_cases h3 : k < 3
    · have c3 : (k : Int) < 3 := by omega
      have hTr := HT.out.below hb.out
      obtain ⟨most, hmost⟩ : ∃ most : Int, most = if k = 1 then stop else 0 := ⟨_, rfl⟩
      have HP := pieces_calls Ba Bb a b most xs HXS.out (by omega) wr hTr bA.out.lt bB.out.lt bA.out.cell bB.out.cell
      by_cases h1 : k = 1
      · subst h1
        rw [if_pos rfl] at hmost
        subst hmost
        by_cases hs : 0 < most ∧ most < (xs.length : Int)
        · obtain ⟨gs, hgs⟩ : ∃ gs, gs = takeS xs most := ⟨_, rfl⟩
          have hgl : most = (gs.length : Int) := by rw [hgs]; unfold takeS; rw [if_pos (by omega), List.length_take]; omega
          have hpre : ∀ i, i < gs.length → gs[i]? = xs[i]? := by
            intro i hi
            rw [hgs] at hi ⊢
            unfold takeS at hi ⊢
            rw [if_pos (by omega)] at hi ⊢
            rw [List.length_take] at hi
            rw [List.getElem?_take_of_lt (by omega)]
          have hle : gs.length ≤ xs.length := by omega
          have s1 : 0 < gs.length := by omega
          have s2 : gs.length < xs.length := by omega
          rw [← hgs] at HP
          clear hgs hs
          subst hgl
          go_wp2_with (first
            | (go_at_call 14; (with_reducible refine HP.mono ?_); rintro e w2 ⟨v, rfl, hg, hbg⟩; clear HP; obtain ⟨A2, c2, rfl⟩ := Kd.R_slice hg; have HG := Aside0.mk hg; have HBG := Aside0.mk hbg; clear hg hbg))
          go_loopw [14] (fun v14 wi => ∃ i : Nat, i ≤ gs.length ∧ v14 = .int .i64 i ∧ Hid (Kd.R k31 31 wi w.heap.size (fun _ => True) (.slice A1 xs.length c1) (xs.map toS)) ∧ Hid (Kd.R kPc 35 wi wr.heap.size (fun _ => True) (.slice A2 gs.length c2) gs) ∧ Hid (Boxed wi Ba 3 (.int .i64 a)) ∧ Hid (Boxed wi Bb 3 (.int .i64 b)) ∧ Hid (Below w.heap.size w wi)) (fun v14 _ => gs.length - (intOf v14).toNat)
          case atStart =>
            exact ⟨0, by omega, rfl, Kd.R_below hr.out HBG.out, HG.out, bA.out.kept (grown_of_below HBG.out none) (by simp), bB.out.kept (grown_of_below HBG.out none) (by simp), hb.out.trans (HBG.out.mono hb.out.size)⟩
          case round =>
            clear hr bA bB hb HG HBG
            obtain ⟨i, hi, rfl, hr, HG, bA, bB, hb⟩ := hrel
            by_cases hin : i < gs.length
            · have cin : (i : Int) < (gs.length : Int) := by omega
              have cin2 : (i : Int) < (xs.length : Int) := by omega
              obtain ⟨x, hx⟩ : ∃ x, gs[i]? = some x := ⟨_, List.getElem?_eq_getElem hin⟩
              have hxx : xs[i]? = some x := by rw [← hpre i hin]; exact hx
              obtain ⟨aw, hA1, w0, w1, w2, w3⟩ := want_at (R_C hr.out) (by omega) hxx
              obtain ⟨ag, hA2, g0, g1, g2, g3⟩ := got_at (R_C HG.out) hin hx
              subst hA1
              subst hA2
              have hu33 := Tryd.underlying33
              have hi1 : wrap64 ((i : Int) + 1) = (i : Int) + 1 := Go.Proofs.YtlipkhhpjelicaaDoor.Days.wr (by omega) (by omega)
              go_wp2_with fail
              have bx := World.alloc_heap_new wr (.cells #[.int .i64 x.1.1, .int .i64 x.1.2.1, .int .i64 x.1.2.2, .int .i64 x.2] 31)
              have HG2 := Kd.R_alloc HG.out (.cells #[.int .i64 x.1.1, .int .i64 x.1.2.1, .int .i64 x.1.2.2, .int .i64 x.2] 31)
              have hr2 := Kd.R_alloc hr.out (.cells #[.int .i64 x.1.1, .int .i64 x.1.2.1, .int .i64 x.1.2.2, .int .i64 x.2] 31)
              have bA2 := bA.out.alloc (.cells #[.int .i64 x.1.1, .int .i64 x.1.2.1, .int .i64 x.1.2.2, .int .i64 x.2] 31)
              have bB2 := bB.out.alloc (.cells #[.int .i64 x.1.1, .int .i64 x.1.2.1, .int .i64 x.1.2.2, .int .i64 x.2] 31)
              have hb2 := below_alloc hb.out (.cells #[.int .i64 x.1.1, .int .i64 x.1.2.1, .int .i64 x.1.2.2, .int .i64 x.2] 31)
              obtain ⟨W1, hW1⟩ : ∃ W1, wr.alloc (.cells #[.int .i64 x.1.1, .int .i64 x.1.2.1, .int .i64 x.1.2.2, .int .i64 x.2] 31) = W1 := ⟨_, rfl⟩
              rw [hW1] at bx HG2 hr2 bA2 bB2 hb2 ⊢
              have HHG := Aside0.mk HG2
              have HHr := Aside0.mk hr2
              have HbA := Aside0.mk bA2
              have HbB := Aside0.mk bB2
              have Hhb := Aside0.mk hb2
              clear hW1 w0 w1 w2 w3 g0 g1 g2 g3 hr HG bA bB hb hr2 bA2 bB2 hb2
              have cx0 := (blk_cell bx 0).trans rfl
              have cx1 := (blk_cell bx 1).trans rfl
              have cx2 := (blk_cell bx 2).trans rfl
              have cx3 := (blk_cell bx 3).trans rfl
              obtain ⟨ag', hA2, g0, g1, g2, g3⟩ := got_at (R_C HG2) hin hx
              obtain rfl := Option.some.inj hA2
              clear HG2
              go_quiet (fail)
              go_wp2_with fail
              exact ⟨⟨i + 1, by omega, congrArg (Value.int .i64) (by omega), Kd.R_drew HHr.out, Kd.R_drew HHG.out, blk_drewN HbA.out _, blk_drewN HbB.out _, pw_below_drewN Hhb.out _⟩, by simp [intOf]; omega⟩
            · obtain rfl : i = gs.length := by omega
              go_wp2_with fail
              exact ⟨⟨2, by omega, rfl, hr, bA, bB, hb⟩, by simp [intOf]⟩
        · have hts : takeS xs most = xs := by
            unfold takeS
            split
            · rw [List.take_of_length_le (by omega)]
            · rfl
          rw [hts] at HP
          have c1k : ((1 : Nat) : Int) = 1 := rfl
          by_cases h0 : 0 < most
          · have h2 : ¬ most < (xs.length : Int) := fun h => hs ⟨h0, h⟩
            clear hs hts
            go_wp2_with (first
              | (go_at_call 14; (with_reducible refine HP.mono ?_); rintro e w2 ⟨v, rfl, hg, hbg⟩; clear HP; obtain ⟨A2, c2, rfl⟩ := Kd.R_slice hg; have HG := Aside0.mk hg; have HBG := Aside0.mk hbg; clear hg hbg))
            go_loopw [14] (fun v14 wi => ∃ i : Nat, i ≤ xs.length ∧ v14 = .int .i64 i ∧ Hid (Kd.R k31 31 wi w.heap.size (fun _ => True) (.slice A1 xs.length c1) (xs.map toS)) ∧ Hid (Kd.R kPc 35 wi wr.heap.size (fun _ => True) (.slice A2 xs.length c2) xs) ∧ Hid (Boxed wi Ba 3 (.int .i64 a)) ∧ Hid (Boxed wi Bb 3 (.int .i64 b)) ∧ Hid (Below w.heap.size w wi)) (fun v14 _ => xs.length - (intOf v14).toNat)
            case atStart =>
              exact ⟨0, by omega, rfl, Kd.R_below hr.out HBG.out, HG.out, bA.out.kept (grown_of_below HBG.out none) (by simp), bB.out.kept (grown_of_below HBG.out none) (by simp), hb.out.trans (HBG.out.mono hb.out.size)⟩
            case round =>
              clear hr bA bB hb HG HBG
              obtain ⟨i, hi, rfl, hr, HG, bA, bB, hb⟩ := hrel
              by_cases hin : i < xs.length
              · have cin : (i : Int) < (xs.length : Int) := by omega
                have cin2 : (i : Int) < (xs.length : Int) := by omega
                obtain ⟨x, hx⟩ : ∃ x, xs[i]? = some x := ⟨_, List.getElem?_eq_getElem hin⟩
                have hxx : xs[i]? = some x := by exact hx
                obtain ⟨aw, hA1, w0, w1, w2, w3⟩ := want_at (R_C hr.out) (by omega) hxx
                obtain ⟨ag, hA2, g0, g1, g2, g3⟩ := got_at (R_C HG.out) hin hx
                subst hA1
                subst hA2
                have hu33 := Tryd.underlying33
                have hi1 : wrap64 ((i : Int) + 1) = (i : Int) + 1 := Go.Proofs.YtlipkhhpjelicaaDoor.Days.wr (by omega) (by omega)
                go_wp2_with fail
                have bx := World.alloc_heap_new wr (.cells #[.int .i64 x.1.1, .int .i64 x.1.2.1, .int .i64 x.1.2.2, .int .i64 x.2] 31)
                have HG2 := Kd.R_alloc HG.out (.cells #[.int .i64 x.1.1, .int .i64 x.1.2.1, .int .i64 x.1.2.2, .int .i64 x.2] 31)
                have hr2 := Kd.R_alloc hr.out (.cells #[.int .i64 x.1.1, .int .i64 x.1.2.1, .int .i64 x.1.2.2, .int .i64 x.2] 31)
                have bA2 := bA.out.alloc (.cells #[.int .i64 x.1.1, .int .i64 x.1.2.1, .int .i64 x.1.2.2, .int .i64 x.2] 31)
                have bB2 := bB.out.alloc (.cells #[.int .i64 x.1.1, .int .i64 x.1.2.1, .int .i64 x.1.2.2, .int .i64 x.2] 31)
                have hb2 := below_alloc hb.out (.cells #[.int .i64 x.1.1, .int .i64 x.1.2.1, .int .i64 x.1.2.2, .int .i64 x.2] 31)
                obtain ⟨W1, hW1⟩ : ∃ W1, wr.alloc (.cells #[.int .i64 x.1.1, .int .i64 x.1.2.1, .int .i64 x.1.2.2, .int .i64 x.2] 31) = W1 := ⟨_, rfl⟩
                rw [hW1] at bx HG2 hr2 bA2 bB2 hb2 ⊢
                have HHG := Aside0.mk HG2
                have HHr := Aside0.mk hr2
                have HbA := Aside0.mk bA2
                have HbB := Aside0.mk bB2
                have Hhb := Aside0.mk hb2
                clear hW1 w0 w1 w2 w3 g0 g1 g2 g3 hr HG bA bB hb hr2 bA2 bB2 hb2
                have cx0 := (blk_cell bx 0).trans rfl
                have cx1 := (blk_cell bx 1).trans rfl
                have cx2 := (blk_cell bx 2).trans rfl
                have cx3 := (blk_cell bx 3).trans rfl
                obtain ⟨ag', hA2, g0, g1, g2, g3⟩ := got_at (R_C HG2) hin hx
                obtain rfl := Option.some.inj hA2
                clear HG2
                go_quiet (fail)
                go_wp2_with fail
                exact ⟨⟨i + 1, by omega, congrArg (Value.int .i64) (by omega), Kd.R_drew HHr.out, Kd.R_drew HHG.out, blk_drewN HbA.out _, blk_drewN HbB.out _, pw_below_drewN Hhb.out _⟩, by simp [intOf]; omega⟩
              · obtain rfl : i = xs.length := by omega
                go_wp2_with fail
                exact ⟨⟨2, by omega, rfl, hr, bA, bB, hb⟩, by simp [intOf]⟩
          · clear hs hts
            go_wp2_with (first
              | (go_at_call 14; (with_reducible refine HP.mono ?_); rintro e w2 ⟨v, rfl, hg, hbg⟩; clear HP; obtain ⟨A2, c2, rfl⟩ := Kd.R_slice hg; have HG := Aside0.mk hg; have HBG := Aside0.mk hbg; clear hg hbg))
            go_loopw [14] (fun v14 wi => ∃ i : Nat, i ≤ xs.length ∧ v14 = .int .i64 i ∧ Hid (Kd.R k31 31 wi w.heap.size (fun _ => True) (.slice A1 xs.length c1) (xs.map toS)) ∧ Hid (Kd.R kPc 35 wi wr.heap.size (fun _ => True) (.slice A2 xs.length c2) xs) ∧ Hid (Boxed wi Ba 3 (.int .i64 a)) ∧ Hid (Boxed wi Bb 3 (.int .i64 b)) ∧ Hid (Below w.heap.size w wi)) (fun v14 _ => xs.length - (intOf v14).toNat)
            case atStart =>
              exact ⟨0, by omega, rfl, Kd.R_below hr.out HBG.out, HG.out, bA.out.kept (grown_of_below HBG.out none) (by simp), bB.out.kept (grown_of_below HBG.out none) (by simp), hb.out.trans (HBG.out.mono hb.out.size)⟩
            case round =>
              clear hr bA bB hb HG HBG
              obtain ⟨i, hi, rfl, hr, HG, bA, bB, hb⟩ := hrel
              by_cases hin : i < xs.length
              · have cin : (i : Int) < (xs.length : Int) := by omega
                have cin2 : (i : Int) < (xs.length : Int) := by omega
                obtain ⟨x, hx⟩ : ∃ x, xs[i]? = some x := ⟨_, List.getElem?_eq_getElem hin⟩
                have hxx : xs[i]? = some x := by exact hx
                obtain ⟨aw, hA1, w0, w1, w2, w3⟩ := want_at (R_C hr.out) (by omega) hxx
                obtain ⟨ag, hA2, g0, g1, g2, g3⟩ := got_at (R_C HG.out) hin hx
                subst hA1
                subst hA2
                have hu33 := Tryd.underlying33
                have hi1 : wrap64 ((i : Int) + 1) = (i : Int) + 1 := Go.Proofs.YtlipkhhpjelicaaDoor.Days.wr (by omega) (by omega)
                go_wp2_with fail
                have bx := World.alloc_heap_new wr (.cells #[.int .i64 x.1.1, .int .i64 x.1.2.1, .int .i64 x.1.2.2, .int .i64 x.2] 31)
                have HG2 := Kd.R_alloc HG.out (.cells #[.int .i64 x.1.1, .int .i64 x.1.2.1, .int .i64 x.1.2.2, .int .i64 x.2] 31)
                have hr2 := Kd.R_alloc hr.out (.cells #[.int .i64 x.1.1, .int .i64 x.1.2.1, .int .i64 x.1.2.2, .int .i64 x.2] 31)
                have bA2 := bA.out.alloc (.cells #[.int .i64 x.1.1, .int .i64 x.1.2.1, .int .i64 x.1.2.2, .int .i64 x.2] 31)
                have bB2 := bB.out.alloc (.cells #[.int .i64 x.1.1, .int .i64 x.1.2.1, .int .i64 x.1.2.2, .int .i64 x.2] 31)
                have hb2 := below_alloc hb.out (.cells #[.int .i64 x.1.1, .int .i64 x.1.2.1, .int .i64 x.1.2.2, .int .i64 x.2] 31)
                obtain ⟨W1, hW1⟩ : ∃ W1, wr.alloc (.cells #[.int .i64 x.1.1, .int .i64 x.1.2.1, .int .i64 x.1.2.2, .int .i64 x.2] 31) = W1 := ⟨_, rfl⟩
                rw [hW1] at bx HG2 hr2 bA2 bB2 hb2 ⊢
                have HHG := Aside0.mk HG2
                have HHr := Aside0.mk hr2
                have HbA := Aside0.mk bA2
                have HbB := Aside0.mk bB2
                have Hhb := Aside0.mk hb2
                clear hW1 w0 w1 w2 w3 g0 g1 g2 g3 hr HG bA bB hb hr2 bA2 bB2 hb2
                have cx0 := (blk_cell bx 0).trans rfl
                have cx1 := (blk_cell bx 1).trans rfl
                have cx2 := (blk_cell bx 2).trans rfl
                have cx3 := (blk_cell bx 3).trans rfl
                obtain ⟨ag', hA2, g0, g1, g2, g3⟩ := got_at (R_C HG2) hin hx
                obtain rfl := Option.some.inj hA2
                clear HG2
                go_quiet (fail)
                go_wp2_with fail
                exact ⟨⟨i + 1, by omega, congrArg (Value.int .i64) (by omega), Kd.R_drew HHr.out, Kd.R_drew HHG.out, blk_drewN HbA.out _, blk_drewN HbB.out _, pw_below_drewN Hhb.out _⟩, by simp [intOf]; omega⟩
              · obtain rfl : i = xs.length := by omega
                go_wp2_with fail
                exact ⟨⟨2, by omega, rfl, hr, bA, bB, hb⟩, by simp [intOf]⟩
      · rw [if_neg h1] at hmost
        subst hmost
        have hts : takeS xs 0 = xs := by unfold takeS; rw [if_neg (by omega)]
        rw [hts] at HP
        clear hts
        have ck : ¬ ((k : Int) = 1) := by omega
        have hk1 : wrap64 ((k : Int) + 1) = (k : Int) + 1 := Go.Proofs.YtlipkhhpjelicaaDoor.Days.wr (by omega) (by omega)
        go_wp2_with (first
          | (go_at_call 14; (with_reducible refine HP.mono ?_); rintro e w2 ⟨v, rfl, hg, hbg⟩; clear HP; obtain ⟨A2, c2, rfl⟩ := Kd.R_slice hg; have HG := Aside0.mk hg; have HBG := Aside0.mk hbg; clear hg hbg))
        go_loopw [14] (fun v14 wi => ∃ i : Nat, i ≤ xs.length ∧ v14 = .int .i64 i ∧ Hid (Kd.R k31 31 wi w.heap.size (fun _ => True) (.slice A1 xs.length c1) (xs.map toS)) ∧ Hid (Kd.R kPc 35 wi wr.heap.size (fun _ => True) (.slice A2 xs.length c2) xs) ∧ Hid (Boxed wi Ba 3 (.int .i64 a)) ∧ Hid (Boxed wi Bb 3 (.int .i64 b)) ∧ Hid (Below w.heap.size w wi)) (fun v14 _ => xs.length - (intOf v14).toNat)
        case atStart =>
          exact ⟨0, by omega, rfl, Kd.R_below hr.out HBG.out, HG.out, bA.out.kept (grown_of_below HBG.out none) (by simp), bB.out.kept (grown_of_below HBG.out none) (by simp), hb.out.trans (HBG.out.mono hb.out.size)⟩
        case round =>
          clear hr bA bB hb HG HBG
          obtain ⟨i, hi, rfl, hr, HG, bA, bB, hb⟩ := hrel
          by_cases hin : i < xs.length
          · have cin : (i : Int) < (xs.length : Int) := by omega
            have cin2 : (i : Int) < (xs.length : Int) := by omega
            obtain ⟨x, hx⟩ : ∃ x, xs[i]? = some x := ⟨_, List.getElem?_eq_getElem hin⟩
            have hxx : xs[i]? = some x := by exact hx
            obtain ⟨aw, hA1, w0, w1, w2, w3⟩ := want_at (R_C hr.out) (by omega) hxx
            obtain ⟨ag, hA2, g0, g1, g2, g3⟩ := got_at (R_C HG.out) hin hx
            subst hA1
            subst hA2
            have hu33 := Tryd.underlying33
            have hi1 : wrap64 ((i : Int) + 1) = (i : Int) + 1 := Go.Proofs.YtlipkhhpjelicaaDoor.Days.wr (by omega) (by omega)
            go_wp2_with fail
            have bx := World.alloc_heap_new wr (.cells #[.int .i64 x.1.1, .int .i64 x.1.2.1, .int .i64 x.1.2.2, .int .i64 x.2] 31)
            have HG2 := Kd.R_alloc HG.out (.cells #[.int .i64 x.1.1, .int .i64 x.1.2.1, .int .i64 x.1.2.2, .int .i64 x.2] 31)
            have hr2 := Kd.R_alloc hr.out (.cells #[.int .i64 x.1.1, .int .i64 x.1.2.1, .int .i64 x.1.2.2, .int .i64 x.2] 31)
            have bA2 := bA.out.alloc (.cells #[.int .i64 x.1.1, .int .i64 x.1.2.1, .int .i64 x.1.2.2, .int .i64 x.2] 31)
            have bB2 := bB.out.alloc (.cells #[.int .i64 x.1.1, .int .i64 x.1.2.1, .int .i64 x.1.2.2, .int .i64 x.2] 31)
            have hb2 := below_alloc hb.out (.cells #[.int .i64 x.1.1, .int .i64 x.1.2.1, .int .i64 x.1.2.2, .int .i64 x.2] 31)
            obtain ⟨W1, hW1⟩ : ∃ W1, wr.alloc (.cells #[.int .i64 x.1.1, .int .i64 x.1.2.1, .int .i64 x.1.2.2, .int .i64 x.2] 31) = W1 := ⟨_, rfl⟩
            rw [hW1] at bx HG2 hr2 bA2 bB2 hb2 ⊢
            have HHG := Aside0.mk HG2
            have HHr := Aside0.mk hr2
            have HbA := Aside0.mk bA2
            have HbB := Aside0.mk bB2
            have Hhb := Aside0.mk hb2
            clear hW1 w0 w1 w2 w3 g0 g1 g2 g3 hr HG bA bB hb hr2 bA2 bB2 hb2
            have cx0 := (blk_cell bx 0).trans rfl
            have cx1 := (blk_cell bx 1).trans rfl
            have cx2 := (blk_cell bx 2).trans rfl
            have cx3 := (blk_cell bx 3).trans rfl
            obtain ⟨ag', hA2, g0, g1, g2, g3⟩ := got_at (R_C HG2) hin hx
            obtain rfl := Option.some.inj hA2
            clear HG2
            go_quiet (fail)
            go_wp2_with fail
            exact ⟨⟨i + 1, by omega, congrArg (Value.int .i64) (by omega), Kd.R_drew HHr.out, Kd.R_drew HHG.out, blk_drewN HbA.out _, blk_drewN HbB.out _, pw_below_drewN Hhb.out _⟩, by simp [intOf]; omega⟩
          · obtain rfl : i = xs.length := by omega
            go_wp2_with fail
            exact ⟨⟨k + 1, by omega, congrArg (Value.int .i64) (by omega), hr, bA, bB, hb⟩, by simp [intOf]; omega⟩
    · obtain rfl : k = 3 := by omega
      go_wp2
      refine bodyPost_ret (results_tmp rfl _ _ _) rfl ⟨rfl, hb.out⟩


end Go.Proofs.YtlipkhhpjelicaaDoor.PA
