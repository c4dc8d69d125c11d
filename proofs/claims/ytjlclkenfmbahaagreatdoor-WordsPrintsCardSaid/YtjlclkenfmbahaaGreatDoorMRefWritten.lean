/- levyref4.written, walked by hand: the text by the token's kind, then what the document's Scan says of it. Condition: the world holds the tables ('Tabs'). -/
import Derived.Test.YtjlclkenfmbahaaGreatDoorMC
import Derived.BigRegion
import Derived.RegionTactic
import Derived.BigQuiet
import Derived.Test.YtjlclkenfmbahaaGreatDoorMPAx0
import Derived.Test.YtjlclkenfmbahaaGreatDoorML
import Derived.Test.YtjlclkenfmbahaaGreatDoorML3
namespace Go.Proofs.YtjlclkenfmbahaaGreatDoor.PA
open Go.RowKit Go.Proofs.YtjlclkenfmbahaaGreatDoorW.PrintWords Go.Proofs.YtjlclkenfmbahaaGreatDoorW.PrintLast Go.Proofs.YtjlclkenfmbahaaGreatDoorW.PrintMore
attribute [local go_sem high] eqA57
set_option linter.unusedVariables false
set_option linter.unusedSimpArgs false
def refIs (t : S57) (l : List S57) : Bool := match l with
 | [x, _] => x.f0 == t.f0 && (x.f1 == 0 && (x.f2.toList == t.f2.toList && (x.f3 == t.f3 && x.f4 == t.f4)))
 | _ => false
def refTail (k : Nat) (t : S57) (s : ByteArray) : Option (ByteArray × Bool) := (levyref4_Scan.f k s).bind fun q => some (s, q.2.2 == 0 && refIs t q.1)
def refText (k : Nat) (t : S57) : Option (ByteArray × Bool) :=
 if t.f0 = 1 then some (t.f2, true) else if t.f0 = 7 then some (t.f2, true)
 else if t.f0 = 2 then (levyref4_Amount.f k t.f3).bind fun s => some (s, decide (0 ≤ t.f3))
 else if t.f0 = 3 then (if 0 ≤ t.f3 ∧ t.f3 ≤ 1000000000 then (levyref4_digitsOf.f k t.f3).bind fun s => some (s, true) else some (⟨#[]⟩, false))
 else if t.f0 = 4 then levyref4_Percent.f k t.f3 t.f4
 else if t.f0 = 5 then (if t.f3 < 0 ∨ 1000000 < t.f3 then some (⟨#[]⟩, false) else (levyref2_Print.f k t.f3).bind fun q => some (q.1, q.2 == 0))
 else if t.f0 = 6 then levyref4_Quote.f k t.f2 else some (⟨#[]⟩, false)
def refWr (k : Nat) (t : S57) : Option (ByteArray × Bool) := (refText k t).bind fun q => if q.2 = true then refTail k t q.1 else some (⟨#[]⟩, false)
set_option maxRecDepth 100000 in
set_option maxHeartbeats 4000000 in
theorem refWr_calls (k : Nat) (t : S57) (r1 : ByteArray) (r2 : Bool) (w : World) (hT : Tabs w) (h : refWr k t = some (r1, r2)) :
  Calls Tryz.prog 15 #[.agg #[.int .i64 t.f0, .int .i64 t.f1, .string t.f2, .int .i64 t.f3, .int .i64 t.f4]] w fun e w' => e = .returned (.tuple #[.string r1, .bool r2]) ∧ Below w.heap.size w w' := by
 have HT := Aside0.mk hT
 obtain ⟨q, hq0, h2⟩ := Option.bind_eq_some_iff.1 h
 have HQ := Aside0.mk hq0
 have H := Aside0.mk h2
 clear h hT hq0 h2
 go_enter Tryz.func15, Tryz.ntmps15
 have hbk := World.alloc_heap_new w (.cells #[.int .i64 t.f0, .int .i64 t.f1, .string t.f2, .int .i64 t.f3, .int .i64 t.f4] 57)
 go_upto_region 3 with (fail)
 have hb0 := below_alloc (Below.refl w.heap.size w) (.cells #[.int .i64 t.f0, .int .i64 t.f1, .string t.f2, .int .i64 t.f3, .int .i64 t.f4] 57)
 obtain ⟨W1, hW1⟩ : ∃ W1, w.alloc (.cells #[.int .i64 t.f0, .int .i64 t.f1, .string t.f2, .int .i64 t.f3, .int .i64 t.f4] 57) = W1 := ⟨_, rfl⟩
 rw [hW1] at hbk hb0 ⊢
 clear hW1
 have BK := Aside0.mk hbk
 have B0 := Aside0.mk hb0
 have x0 := (blk_cell hbk 0).trans (show _ = some (Value.int .i64 t.f0) from rfl)
 have x2 := (blk_cell hbk 2).trans (show _ = some (Value.string t.f2) from rfl)
 have x3 := (blk_cell hbk 3).trans (show _ = some (Value.int .i64 t.f3) from rfl)
 have x4 := (blk_cell hbk 4).trans (show _ = some (Value.int .i64 t.f4) from rfl)
 clear hbk hb0
 have hT1 := Aside0.mk (HT.out.below B0.out)
 rename_i Q0 K1 hK1 K0 hK0
 have hrest : ∀ (s : ByteArray) (ok : Bool) (wc : World) (u6 u7 u8 u9 u10 u11 u12 u13 u14 u15 u16 u17 u18 u19 u20 u21 u22 u23 u24 u25 u26 u27 u28 u29 u30 u31 u32 u33 u34 u35 u36 u37 u38 u39 u40 u41 u42 u43 u44 u45 u46 u47 u48 u49 u50 u51 u52 u53 u54 u55 u56 u57 u58 u59 u60 u61 u62 u63 u64 u65 u66 u67 u68 u69 u70 u71 u72 u73 u74 u75 u76 u77 u78 u79 u80 u81 u82 u83 u84 u85 u86 u87 u88 u89 u90 u91 u92 u93 u94 u95 u96 u97 u98 : Value), ((if ok = true then refTail k t s else some (⟨#[]⟩, false)) = some (r1, r2)) → wc.heap[w.heap.size]? = some (.cells #[.int .i64 t.f0, .int .i64 t.f1, .string t.f2, .int .i64 t.f3, .int .i64 t.f4] 57 (0, 0)) → Below w.heap.size w wc →
   K1 { tmps := #[.agg #[.int .i64 t.f0, .int .i64 t.f1, .string t.f2, .int .i64 t.f3, .int .i64 t.f4], .pointer (some ⟨w.heap.size, 0, none⟩), .string ⟨#[]⟩, .bool false, .string s, .bool ok, u6, u7, u8, u9, u10, u11, u12, u13, u14, u15, u16, u17, u18, u19, u20, u21, u22, u23, u24, u25, u26, u27, u28, u29, u30, u31, u32, u33, u34, u35, u36, u37, u38, u39, u40, u41, u42, u43, u44, u45, u46, u47, u48, u49, u50, u51, u52, u53, u54, u55, u56, u57, u58, u59, u60, u61, u62, u63, u64, u65, u66, u67, u68, u69, u70, u71, u72, u73, u74, u75, u76, u77, u78, u79, u80, u81, u82, u83, u84, u85, u86, u87, u88, u89, u90, u91, u92, u93, u94, u95, u96, u97, u98], defers := [] } wc := by
  intro s ok wc u6 u7 u8 u9 u10 u11 u12 u13 u14 u15 u16 u17 u18 u19 u20 u21 u22 u23 u24 u25 u26 u27 u28 u29 u30 u31 u32 u33 u34 u35 u36 u37 u38 u39 u40 u41 u42 u43 u44 u45 u46 u47 u48 u49 u50 u51 u52 u53 u54 u55 u56 u57 u58 u59 u60 u61 u62 u63 u64 u65 u66 u67 u68 u69 u70 u71 u72 u73 u74 u75 u76 u77 u78 u79 u80 u81 u82 u83 u84 u85 u86 u87 u88 u89 u90 u91 u92 u93 u94 u95 u96 u97 u98 hr hbk hb
  refine hK1 _ _ ?_
  clear hK1 hK0 K0
  cases ok with
  | false =>
   rw [if_neg (by decide)] at hr
   have hr2 : (⟨#[]⟩ : ByteArray) = r1 ∧ false = r2 := by simpa using hr
   obtain ⟨rfl, rfl⟩ := hr2
   have HB := Aside0.mk hb
   clear hr hbk hb
   go_wp2
   go_ret2
   exact ⟨by first | rfl | (simp; done), HB.out⟩
  | true =>
   rw [if_pos rfl] at hr
   unfold refTail at hr
   obtain ⟨⟨l, b, c⟩, hl, h2⟩ := Option.bind_eq_some_iff.1 hr
   simp only [Option.some.injEq, Prod.mk.injEq] at h2
   obtain ⟨rfl, h2⟩ := h2
   have HB := Aside0.mk hb
   have BK2 := Aside0.mk hbk
   have HL := Aside0.mk hl
   have HR := Aside0.mk h2
   have HT2 := Aside0.mk (HT.out.below hb)
   have f1 := blk_frozen hbk 1
   clear hr hbk hb hl h2 x0 x2 x3 x4
   go_wp2_with (go_at_call 11; refine (levyref4_Scan.calls k s l b c _ HT2.out HL.out).mono ?_; rintro e w2 ⟨v0, rfl, hrow, hb2⟩; obtain ⟨A1, c1, rfl⟩ := Kd.R_slice hrow; have bk3 := blk_below BK2.out hb2; have f3 := blk_frozen bk3 1; have g1 := (blk_cell bk3 1).trans (show _ = some (Value.int .i64 t.f1) from rfl); have ROW := Aside0.mk hrow; have B3 := Aside0.mk (HB.out.trans (hb2.mono HB.out.size)); have BK3 := Aside0.mk bk3; clear hrow hb2 bk3)
   have lB : w.heap.size < wc.heap.size := blk_lt BK2.out
   have BK4 := blk_put BK3.out 1 (.int .i64 0) (show _ = #[.int .i64 t.f0, .int .i64 0, .string t.f2, .int .i64 t.f3, .int .i64 t.f4] from rfl)
   have ROW3 : Kd.R k57 57 (w2.setCell ⟨w.heap.size, 1, none⟩ (.int .i64 0)) wc.heap.size (fun _ => True) (.slice A1 l.length c1) l :=
    Kd.R_mono (Kd.R_step (Kd.R_bound ROW.out) (fun k hk _ => Below.heap_setCell w2 ⟨w.heap.size, 1, none⟩ _ k (by have := hk.2.1; show k ≠ w.heap.size; omega))) (fun _ _ => trivial)
   have B4 := B3.out.setCell (p := ⟨w.heap.size, 1, none⟩) (Nat.le_refl _) (.int .i64 0)
   obtain ⟨W3, hW3⟩ : ∃ W3, w2.setCell ⟨w.heap.size, 1, none⟩ (.int .i64 0) = W3 := ⟨_, rfl⟩
   rw [hW3] at BK4 ROW3 B4 ⊢
   have y0 := (blk_cell BK4 0).trans (show _ = some (Value.int .i64 t.f0) from rfl)
   have y1 := (blk_cell BK4 1).trans (show _ = some (Value.int .i64 0) from rfl)
   have y2 := (blk_cell BK4 2).trans (show _ = some (Value.string t.f2) from rfl)
   have y3 := (blk_cell BK4 3).trans (show _ = some (Value.int .i64 t.f3) from rfl)
   have y4 := (blk_cell BK4 4).trans (show _ = some (Value.int .i64 t.f4) from rfl)
   have BB := Aside0.mk B4
   clear hW3 BK4 B4 g1 f3 f1
   by_cases hc : c = 0
   ·subst hc
    cases l with
    | nil =>
     have e : r2 = false := by have h := HR.out; simpa [refIs] using h.symm
     subst e
     repeat (go_quiet (fail); try go_wp2)
     go_ret2
     exact ⟨by first | rfl | (simp; done), pw_below_drewN BB.out _⟩
    | cons x l =>
     cases l with
     | nil =>
      have e : r2 = false := by have h := HR.out; simpa [refIs] using h.symm
      subst e
      repeat (go_quiet (fail); try go_wp2)
      go_ret2
      exact ⟨by first | rfl | (simp; done), pw_below_drewN BB.out _⟩
     | cons y l =>
      cases l with
      | cons z l =>
       have e : r2 = false := by have h := HR.out; simpa [refIs] using h.symm
       have cl : (((x :: y :: z :: l).length : Int) == 2) = false := by simp; omega
       subst e
       repeat (go_quiet (fail); try go_wp2)
       go_ret2
       exact ⟨by first | rfl | (simp; done), pw_below_drewN BB.out _⟩
      | nil =>
       obtain ⟨gg, cap, hv, -⟩ := Kd.R_form ROW3 (by simp)
       injection hv with hv1 _ hv2
       subst hv1 hv2
       obtain ⟨ad, hA, z0, z1, z2, z3, z4⟩ := at_T57 ((Kd.R_reads' ROW3).2.2) 0 (by omega) (by simp)
       have hx : rd_T57 [x, y] 0 = x := rfl
       rw [hx] at z0 z1 z2 z3 z4
       obtain rfl := Option.some.inj hA
       simp only [Int.toNat_zero, Nat.zero_mul, Addr.add, Nat.zero_add, Nat.add_zero, reduceIte, ite_true] at z0 z1 z2 z3 z4
       have e : (x.f0 == t.f0 && (x.f1 == 0 && (x.f2.toList == t.f2.toList && (x.f3 == t.f3 && x.f4 == t.f4)))) = r2 := by have h := HR.out; simpa [refIs] using h
       have HE := Aside0.mk e
       clear e hx
       repeat (go_quiet (fail); try go_wp2)
       go_ret2
       exact ⟨by have he := HE.out; subst he; first | rfl | (simp; done), pw_below_drewN BB.out _⟩
   ·have e : r2 = false := by have h := HR.out; rw [beq_eq_false_iff_ne.mpr hc] at h; simpa using h.symm
    have hcb := beq_eq_false_iff_ne.mpr hc
    clear hc
    subst e
    repeat (go_quiet (fail); try go_wp2)
    go_ret2
    exact ⟨by first | rfl | (simp; done), pw_below_drewN BB.out _⟩
 clear hK1
 by_cases k1 : t.f0 = 1
 ·have e : q = (t.f2, true) := by have h := HQ.out; unfold refText at h; rw [if_pos k1] at h; exact (Option.some.inj h).symm
  subst e
  have c1 := beq_iff_eq.mpr k1
  clear k1
  go_wp2
  exact hrest (t.f2) (true) _ _ _ _ _ _ _ _ _ _ _ _ _ _ _ _ _ _ _ _ _ _ _ _ _ _ _ _ _ _ _ _ _ _ _ _ _ _ _ _ _ _ _ _ _ _ _ _ _ _ _ _ _ _ _ _ _ _ _ _ _ _ _ _ _ _ _ _ _ _ _ _ _ _ _ _ _ _ _ _ _ _ _ _ _ _ _ _ _ _ _ _ _ _ H.out BK.out B0.out
 have c1 := beq_eq_false_iff_ne.mpr k1
 by_cases k7 : t.f0 = 7
 ·have e : q = (t.f2, true) := by have h := HQ.out; unfold refText at h; rw [if_neg k1, if_pos k7] at h; exact (Option.some.inj h).symm
  subst e
  have c7 := beq_iff_eq.mpr k7
  clear k7 k1
  go_wp2
  exact hrest (t.f2) (true) _ _ _ _ _ _ _ _ _ _ _ _ _ _ _ _ _ _ _ _ _ _ _ _ _ _ _ _ _ _ _ _ _ _ _ _ _ _ _ _ _ _ _ _ _ _ _ _ _ _ _ _ _ _ _ _ _ _ _ _ _ _ _ _ _ _ _ _ _ _ _ _ _ _ _ _ _ _ _ _ _ _ _ _ _ _ _ _ _ _ _ _ _ _ H.out BK.out B0.out
 have c7 := beq_eq_false_iff_ne.mpr k7
 by_cases k2 : t.f0 = 2
 ·obtain ⟨s, hs, e⟩ : ∃ s, levyref4_Amount.f k t.f3 = some s ∧ q = (s, decide (0 ≤ t.f3)) := by
   have h := HQ.out
   unfold refText at h
   rw [if_neg k1, if_neg k7, if_pos k2] at h
   obtain ⟨s, h1, h2⟩ := Option.bind_eq_some_iff.1 h
   exact ⟨s, h1, (Option.some.inj h2).symm⟩
  subst e
  have HS := Aside0.mk hs
  clear hs
  have c2 := beq_iff_eq.mpr k2
  clear k2 k1 k7
  go_wp2_with (go_at_call 70; refine (levyref4_Amount.calls k t.f3 s _ HS.out).mono ?_; rintro e w2 ⟨rfl, hb2⟩; have y3 := (hb2.cell (blk_lt BK.out)).trans x3; have B2 := Aside0.mk (B0.out.trans (hb2.mono B0.out.size)); have K2 := Aside0.mk (blk_below BK.out hb2); clear hb2)
  exact hrest (s) (decide (0 ≤ t.f3)) _ _ _ _ _ _ _ _ _ _ _ _ _ _ _ _ _ _ _ _ _ _ _ _ _ _ _ _ _ _ _ _ _ _ _ _ _ _ _ _ _ _ _ _ _ _ _ _ _ _ _ _ _ _ _ _ _ _ _ _ _ _ _ _ _ _ _ _ _ _ _ _ _ _ _ _ _ _ _ _ _ _ _ _ _ _ _ _ _ _ _ _ _ _ H.out K2.out B2.out
 have c2 := beq_eq_false_iff_ne.mpr k2
 by_cases k3 : t.f0 = 3
 ·have c3 := beq_iff_eq.mpr k3
  by_cases g : 0 ≤ t.f3 ∧ t.f3 ≤ 1000000000
  ·obtain ⟨s, hs, e⟩ : ∃ s, levyref4_digitsOf.f k t.f3 = some s ∧ q = (s, true) := by
    have h := HQ.out
    unfold refText at h
    rw [if_neg k1, if_neg k7, if_neg k2, if_pos k3, if_pos g] at h
    obtain ⟨s, h1, h2⟩ := Option.bind_eq_some_iff.1 h
    exact ⟨s, h1, (Option.some.inj h2).symm⟩
   subst e
   have HS := Aside0.mk hs
   have g1 := decide_eq_true g.1
   have g2 := decide_eq_true g.2
   clear hs g k1 k7 k2 k3
   go_wp2_with (go_at_call 71; refine (levyref4_digitsOf.calls k t.f3 s _ HS.out).mono ?_; rintro e w2 ⟨rfl, hb2⟩; have B2 := Aside0.mk (B0.out.trans (hb2.mono B0.out.size)); have K2 := Aside0.mk (blk_below BK.out hb2); clear hb2)
   exact hrest (s) (true) _ _ _ _ _ _ _ _ _ _ _ _ _ _ _ _ _ _ _ _ _ _ _ _ _ _ _ _ _ _ _ _ _ _ _ _ _ _ _ _ _ _ _ _ _ _ _ _ _ _ _ _ _ _ _ _ _ _ _ _ _ _ _ _ _ _ _ _ _ _ _ _ _ _ _ _ _ _ _ _ _ _ _ _ _ _ _ _ _ _ _ _ _ _ H.out K2.out B2.out
  ·have e : q = (⟨#[]⟩, false) := by
    have h := HQ.out
    unfold refText at h
    rw [if_neg k1, if_neg k7, if_neg k2, if_pos k3, if_neg g] at h
    exact (Option.some.inj h).symm
   subst e
   clear k1 k7 k2 k3
   by_cases g1 : 0 ≤ t.f3
   ·have d1 := decide_eq_true g1
    have d2 : decide (t.f3 ≤ 1000000000) = false := decide_eq_false (fun h => g ⟨g1, h⟩)
    clear g g1
    go_wp2
    exact hrest (⟨#[]⟩) (false) _ _ _ _ _ _ _ _ _ _ _ _ _ _ _ _ _ _ _ _ _ _ _ _ _ _ _ _ _ _ _ _ _ _ _ _ _ _ _ _ _ _ _ _ _ _ _ _ _ _ _ _ _ _ _ _ _ _ _ _ _ _ _ _ _ _ _ _ _ _ _ _ _ _ _ _ _ _ _ _ _ _ _ _ _ _ _ _ _ _ _ _ _ _ H.out BK.out B0.out
   ·have d1 := decide_eq_false g1
    clear g g1
    go_wp2
    exact hrest (⟨#[]⟩) (false) _ _ _ _ _ _ _ _ _ _ _ _ _ _ _ _ _ _ _ _ _ _ _ _ _ _ _ _ _ _ _ _ _ _ _ _ _ _ _ _ _ _ _ _ _ _ _ _ _ _ _ _ _ _ _ _ _ _ _ _ _ _ _ _ _ _ _ _ _ _ _ _ _ _ _ _ _ _ _ _ _ _ _ _ _ _ _ _ _ _ _ _ _ _ H.out BK.out B0.out
 have c3 := beq_eq_false_iff_ne.mpr k3
 by_cases k4 : t.f0 = 4
 ·have hs : levyref4_Percent.f k t.f3 t.f4 = some (q.1, q.2) := by
   have h := HQ.out
   unfold refText at h
   rw [if_neg k1, if_neg k7, if_neg k2, if_neg k3, if_pos k4] at h
   exact h
  have HS := Aside0.mk hs
  clear hs
  have c4 := beq_iff_eq.mpr k4
  clear k4 k1 k7 k2 k3
  go_wp2_with (go_at_call 72; refine (levyref4_Percent.calls k t.f3 t.f4 q.1 q.2 _ HS.out).mono ?_; rintro e w2 ⟨rfl, hb2⟩; have B2 := Aside0.mk (B0.out.trans (hb2.mono B0.out.size)); have K2 := Aside0.mk (blk_below BK.out hb2); clear hb2)
  exact hrest (q.1) (q.2) _ _ _ _ _ _ _ _ _ _ _ _ _ _ _ _ _ _ _ _ _ _ _ _ _ _ _ _ _ _ _ _ _ _ _ _ _ _ _ _ _ _ _ _ _ _ _ _ _ _ _ _ _ _ _ _ _ _ _ _ _ _ _ _ _ _ _ _ _ _ _ _ _ _ _ _ _ _ _ _ _ _ _ _ _ _ _ _ _ _ _ _ _ _ H.out K2.out B2.out
 have c4 := beq_eq_false_iff_ne.mpr k4
 by_cases k5 : t.f0 = 5
 ·have c5 := beq_iff_eq.mpr k5
  by_cases g : t.f3 < 0 ∨ 1000000 < t.f3
  ·have e : q = (⟨#[]⟩, false) := by
    have h := HQ.out
    unfold refText at h
    rw [if_neg k1, if_neg k7, if_neg k2, if_neg k3, if_neg k4, if_pos k5, if_pos g] at h
    exact (Option.some.inj h).symm
   subst e
   have hr : (⟨#[]⟩ : ByteArray) = r1 ∧ false = r2 := by
    have h := H.out
    rw [if_neg (by decide)] at h
    simpa using h
   obtain ⟨rfl, rfl⟩ := hr
   clear k1 k7 k2 k3 k4 k5
   by_cases g1 : t.f3 < 0
   ·have d1 := decide_eq_true g1
    clear g g1
    go_wp2
    go_ret2
    exact ⟨by first | rfl | (simp; done), B0.out⟩
   ·have d1 := decide_eq_false g1
    have d2 : decide (1000000 < t.f3) = true := decide_eq_true (g.resolve_left g1)
    clear g g1
    go_wp2
    go_ret2
    exact ⟨by first | rfl | (simp; done), B0.out⟩
  ·obtain ⟨s, e0, hs, e⟩ : ∃ s e0, levyref2_Print.f k t.f3 = some (s, e0) ∧ q = (s, e0 == 0) := by
    have h := HQ.out
    unfold refText at h
    rw [if_neg k1, if_neg k7, if_neg k2, if_neg k3, if_neg k4, if_pos k5, if_neg g] at h
    obtain ⟨s, h1, h2⟩ := Option.bind_eq_some_iff.1 h
    exact ⟨s.1, s.2, h1, (Option.some.inj h2).symm⟩
   subst e
   have HS := Aside0.mk hs
   have d1 : decide (t.f3 < 0) = false := decide_eq_false (fun h => g (.inl h))
   have d2 : decide (1000000 < t.f3) = false := decide_eq_false (fun h => g (.inr h))
   clear hs g k1 k7 k2 k3 k4 k5
   go_wp2_with (go_at_call 73; refine (levyref2_Print.calls k t.f3 s e0 _ HS.out).mono ?_; rintro e w2 ⟨rfl, ⟨nd, rfl⟩⟩; have B2 := Aside0.mk (pw_below_drewN B0.out nd); have K2 := Aside0.mk (blk_below BK.out (pw_below_drewN (Below.refl W1.heap.size W1) nd)))
   exact hrest (s) (e0 == 0) _ _ _ _ _ _ _ _ _ _ _ _ _ _ _ _ _ _ _ _ _ _ _ _ _ _ _ _ _ _ _ _ _ _ _ _ _ _ _ _ _ _ _ _ _ _ _ _ _ _ _ _ _ _ _ _ _ _ _ _ _ _ _ _ _ _ _ _ _ _ _ _ _ _ _ _ _ _ _ _ _ _ _ _ _ _ _ _ _ _ _ _ _ _ H.out K2.out B2.out
 have c5 := beq_eq_false_iff_ne.mpr k5
 by_cases k6 : t.f0 = 6
 ·have hs : levyref4_Quote.f k t.f2 = some (q.1, q.2) := by
   have h := HQ.out
   unfold refText at h
   rw [if_neg k1, if_neg k7, if_neg k2, if_neg k3, if_neg k4, if_neg k5, if_pos k6] at h
   exact h
  have HS := Aside0.mk hs
  clear hs
  have c6 := beq_iff_eq.mpr k6
  clear k6 k1 k7 k2 k3 k4 k5
  go_wp2_with (go_at_call 74; refine (levyref4_Quote.calls k t.f2 q.1 q.2 _ HS.out).mono ?_; rintro e w2 ⟨rfl, ⟨nd, rfl⟩⟩; have B2 := Aside0.mk (pw_below_drewN B0.out nd); have K2 := Aside0.mk (blk_below BK.out (pw_below_drewN (Below.refl W1.heap.size W1) nd)))
  exact hrest (q.1) (q.2) _ _ _ _ _ _ _ _ _ _ _ _ _ _ _ _ _ _ _ _ _ _ _ _ _ _ _ _ _ _ _ _ _ _ _ _ _ _ _ _ _ _ _ _ _ _ _ _ _ _ _ _ _ _ _ _ _ _ _ _ _ _ _ _ _ _ _ _ _ _ _ _ _ _ _ _ _ _ _ _ _ _ _ _ _ _ _ _ _ _ _ _ _ _ H.out K2.out B2.out
 have c6 := beq_eq_false_iff_ne.mpr k6
 ·have e : q = (⟨#[]⟩, false) := by
   have h := HQ.out
   unfold refText at h
   rw [if_neg k1, if_neg k7, if_neg k2, if_neg k3, if_neg k4, if_neg k5, if_neg k6] at h
   exact (Option.some.inj h).symm
  subst e
  clear k1 k7 k2 k3 k4 k5 k6
  go_wp2
  exact hrest (⟨#[]⟩) (false) _ _ _ _ _ _ _ _ _ _ _ _ _ _ _ _ _ _ _ _ _ _ _ _ _ _ _ _ _ _ _ _ _ _ _ _ _ _ _ _ _ _ _ _ _ _ _ _ _ _ _ _ _ _ _ _ _ _ _ _ _ _ _ _ _ _ _ _ _ _ _ _ _ _ _ _ _ _ _ _ _ _ _ _ _ _ _ _ _ _ _ _ _ _ H.out BK.out B0.out
def levyref4_written.f (k : Nat) (x0 x1 : Int) (x2 : ByteArray) (x3 x4 : Int) : Option (ByteArray × Bool) := refWr k ⟨x0, x1, x2, x3, x4⟩
theorem levyref4_written.calls (k : Nat) (x0 x1 : Int) (x2 : ByteArray) (x3 x4 : Int) (r1 : ByteArray) (r2 : Bool) (w : World) (hT : Tabs w) (h : levyref4_written.f k x0 x1 x2 x3 x4 = some (r1, r2)) :
  Calls Tryz.prog 15 #[.agg #[.int .i64 x0, .int .i64 x1, .string x2, .int .i64 x3, .int .i64 x4]] w fun e w' => e = .returned (.tuple #[.string r1, .bool r2]) ∧ Below w.heap.size w w' :=
 refWr_calls k ⟨x0, x1, x2, x3, x4⟩ r1 r2 w hT h
end Go.Proofs.YtjlclkenfmbahaaGreatDoor.PA
