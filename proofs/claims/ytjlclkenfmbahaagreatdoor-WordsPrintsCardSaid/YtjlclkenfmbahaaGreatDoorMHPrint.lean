/- words.Print walked by hand: the text of a list of tokens. Conditions: the list is read only; the tables ('Tabs'); what 'words_Print.f' tells. -/
import Derived.Test.YtjlclkenfmbahaaGreatDoorMHWr
import Derived.Test.YtjlclkenfmbahaaGreatDoorMQ
import Derived.BigRegion
import Derived.RegionTactic
import Derived.ChangeAlike
import Derived.BigQuiet
import Derived.Deep.LoopGhost
import Derived.Test.YtjlclkenfmbahaaGreatDoorMPAx0
namespace Go.Proofs.YtjlclkenfmbahaaGreatDoor.PA
open Go.RowKit Go.Proofs.YtjlclkenfmbahaaGreatDoorW.PrintWords Go.Proofs.YtjlclkenfmbahaaGreatDoorW.PrintLast Go.Proofs.YtjlclkenfmbahaaGreatDoorW.PrintMore
set_option linter.unusedVariables false
set_option linter.unusedSimpArgs false
abbrev Bd (b : Nat) (acc : List UInt8) (W : World) : Prop := Lib.IsBuilderF 78 5 b b (Lib.byteCells acc) W
theorem Bd.below {b : Nat} {acc : List UInt8} {W W' : World} (h : Bd b acc W) (hb : Below W.heap.size W W') : Bd b acc W' := by
 have key : ∀ p, Lib.BuilderAtF 78 5 b b p (Lib.byteCells acc) W → Lib.BuilderAtF 78 5 b b p (Lib.byteCells acc) W' := by
  rintro p ⟨h0, v, h1, h2, h3⟩
  refine ⟨h0, v, (hb.block _ (Array.getElem?_eq_some_iff.1 h1).1).trans h1, ⟨h2.1, ?_⟩, h3⟩
  rcases h2.2 with h4 | ⟨g, cap, cur, fz, h4, h5, h6, h7⟩
  ·exact .inl h4
  ·exact .inr ⟨g, cap, cur, fz, h4, h5, (hb.block _ (Array.getElem?_eq_some_iff.1 h6).1).trans h6, h7⟩
 exact h.elim (fun x => .inl (key _ x)) (fun x => .inr (key _ x))
theorem Bd.lt {b : Nat} {acc : List UInt8} {W : World} (h : Bd b acc W) : b < W.heap.size := by
 rcases h with h | h <;> exact h.lt
theorem Bd.start (w : World) : Bd w.heap.size [] (w.alloc (.cells #[.pointer none, .slice none 0 0] 78)) :=
 .inl ⟨Nat.le_refl _, .slice none 0 0, heap_alloc_new w _, World.ownsRowF_nil _ _ _ _, by simp [Value.ownBlock]⟩
set_option maxRecDepth 100000 in
set_option maxHeartbeats 4000000 in
theorem words_Print.calls (A0 : Option Addr) (c0 : Nat) (l0 : List S57) (r1 : ByteArray) (r2 : Int) (w : World) (hT : Tabs w) (hr0 : Kd.C k57 w A0 l0.length l0) (hc0 : l0.length ≤ c0) (h : words_Print.f l0 = some (r1, r2)) :
  Calls Tryz.prog 7 #[.slice A0 l0.length c0] w fun e w' => e = .returned (.tuple #[.string r1, .int .i64 r2]) ∧ Below w.heap.size w w' := by
 have HT := Aside0.mk hT
 have HR0 := Aside0.mk hr0
 have HC0 := Aside0.mk hc0
 obtain ⟨R, hR, hr⟩ := Option.map_eq_some_iff.1 h
 have hlen : l0.length ≤ 1000000 := by
  by_cases hl : l0.length ≤ 1000000
  ·exact hl
  ·rw [if_neg hl] at hR
   cases hR
 rw [if_pos hlen] at hR
 have HL := Aside0.mk hlen
 have HG := Aside0.mk hR
 have HR := Aside0.mk hr
 clear hT hr0 hc0 h hR hr hlen
 go_enter Tryz.func7, Tryz.ntmps7
 go_wp2
 go_loopg [5, 12] (l0.length + 1) (fun kq v5 v12 w' => ∃ (g : Bool) (acc : List UInt8) (x : Int), v5 = .bool g ∧ v12 = .int .i64 x ∧ Aside0 (0 ≤ x ∧ x ≤ (l0.length : Int) ∧ (l0.length : Int) + 1 = kq + x) ∧ Aside0 (prGo g acc (l0.drop x.toNat) = some R) ∧ Aside0 (Bd w.heap.size acc w') ∧ Aside0 (Below w.heap.size w w'))
 case atStart => exact ⟨false, [], 0, rfl, rfl, ⟨by omega⟩, HG, ⟨Bd.start w⟩, ⟨below_alloc (Below.refl _ _) _⟩⟩
 case round =>
  clear HG
  obtain ⟨g, acc, x, rfl, rfl, HX, HGo, HBd, HB⟩ := hrel
  by_cases hi : x < (l0.length : Int)
  ·have c1 : decide (x < (l0.length : Int)) = true := decide_eq_true hi
   have px : 0 ≤ x := HX.out.1
   obtain ⟨t, ht⟩ : ∃ t, l0[x.toNat]? = some t := ⟨_, List.getElem?_eq_getElem (by omega)⟩
   have hdrop : l0.drop x.toNat = t :: l0.drop (x.toNat + 1) := by
    obtain ⟨hl, e⟩ := List.getElem?_eq_some_iff.1 ht
    rw [List.drop_eq_getElem_cons hl, e]
   have hrd : rd_T57 l0 x = t := by
    unfold rd_T57
    rw [List.getD_eq_getElem?_getD, ht]
    rfl
   obtain ⟨ad, e1, hx0, hx1, hx2, hx3, hx4⟩ := at_T57 HR0.out x px hi
   cases e1
   rw [hrd] at hx0 hx1 hx2 hx3 hx4
   replace hx0 := (HB.out.cell (World.block_lt_of_cell? w _ hx0)).trans hx0
   replace hx1 := (HB.out.cell (World.block_lt_of_cell? w _ hx1)).trans hx1
   replace hx2 := (HB.out.cell (World.block_lt_of_cell? w _ hx2)).trans hx2
   replace hx3 := (HB.out.cell (World.block_lt_of_cell? w _ hx3)).trans hx3
   replace hx4 := (HB.out.cell (World.block_lt_of_cell? w _ hx4)).trans hx4
   have HGo2 := HGo.out
   rw [hdrop] at HGo2
   obtain ⟨hin, hcase⟩ := prGo_cons HGo2
   have HIn := Aside0.mk hin
   have HC := Aside0.mk hcase
   have HI := Aside0.mk hi
   replace px := eq_true px
   have hi := eq_true hi
   clear HGo HGo2 hdrop hrd ht hin hcase
   cases hok : (wrR t).2
   ·have hRn : R = none := by
     rcases HC.out with ⟨_, h⟩ | ⟨h, _⟩
     ·exact h
     ·rw [hok] at h; cases h
    clear HC
    have hr := HR.out
    rw [hRn] at hr
    simp only [Prod.mk.injEq] at hr
    obtain ⟨rfl, rfl⟩ := hr
    go_wp2_with (first | (go_at_call 16; refine (written_calls t HIn.out _ ((HT.out.below HB.out).below (below_alloc (Below.refl _ _) _))).mono ?_; rw [hok]; rintro e w1 ⟨rfl, hb1⟩; have hB1 := Aside0.mk ((below_alloc HB.out _).trans (hb1.mono (by have := HB.out.size; simp; omega))); have hD1 := Aside0.mk (blk_below (heap_alloc_new wr _) hb1); have d0 := (blk_cell hD1.out 0).trans (show _ = some (Value.int .i64 t.f0) from rfl); have hBd1 := Aside0.mk ((HBd.out.below (below_alloc (Below.refl _ _) _)).below hb1); have hS1 := Aside0.mk hb1.size; clear hb1))
    go_ret2
    exact ⟨rfl, by repeat (first | exact hB1.out | apply pw_below_drewN | apply below_drew1)⟩
   ·by_cases h8 : t.f0 = 8
    ·have k8 : (t.f0 == 8) = true := beq_iff_eq.mpr h8
     have n8 : (t.f0 != 8) = false := bne_eq_false_iff_eq.mpr h8
     cases g
     ·have hRn : R = none := by
       rcases HC.out with ⟨_, h⟩ | ⟨_, h, _⟩
       ·exact h
       ·cases h h8
      clear HC
      clear h8
      have hr := HR.out
      rw [hRn] at hr
      simp only [Prod.mk.injEq] at hr
      obtain ⟨rfl, rfl⟩ := hr
      go_wp2_with (first | (go_at_call 16; refine (written_calls t HIn.out _ ((HT.out.below HB.out).below (below_alloc (Below.refl _ _) _))).mono ?_; rw [hok]; rintro e w1 ⟨rfl, hb1⟩; have hB1 := Aside0.mk ((below_alloc HB.out _).trans (hb1.mono (by have := HB.out.size; simp; omega))); have hD1 := Aside0.mk (blk_below (heap_alloc_new wr _) hb1); have d0 := (blk_cell hD1.out 0).trans (show _ = some (Value.int .i64 t.f0) from rfl); have hBd1 := Aside0.mk ((HBd.out.below (below_alloc (Below.refl _ _) _)).below hb1); have hS1 := Aside0.mk hb1.size; clear hb1))
      go_ret2
      exact ⟨rfl, by repeat (first | exact hB1.out | apply pw_below_drewN | apply below_drew1)⟩
     ·have hN : (Ls (wrR t).1).length ≤ 1000 ∧ acc.length ≤ 1000000000 ∧ prGo false (acc ++ Ls (wrR t).1) (l0.drop (x.toNat + 1)) = some R := by
       rcases HC.out with ⟨h, _⟩ | ⟨_, _, h3, h4, h5⟩
       ·rcases h with h | ⟨_, h⟩
        ·rw [hok] at h; cases h
        ·cases h
       ·rw [n8, if_neg (fun h => h.2 h8), List.nil_append] at h5
        exact ⟨h3, h4, h5⟩
      have HLB := Aside0.mk hN.1
      have HLA := Aside0.mk hN.2.1
      have HN := Aside0.mk hN.2.2
      clear HC hN h8
      go_wp2_with (first | (go_at_call 16; refine (written_calls t HIn.out _ ((HT.out.below HB.out).below (below_alloc (Below.refl _ _) _))).mono ?_; rw [hok]; rintro e w1 ⟨rfl, hb1⟩; have hB1 := Aside0.mk ((below_alloc HB.out _).trans (hb1.mono (by have := HB.out.size; simp; omega))); have hD1 := Aside0.mk (blk_below (heap_alloc_new wr _) hb1); have d0 := (blk_cell hD1.out 0).trans (show _ = some (Value.int .i64 t.f0) from rfl); have hBd1 := Aside0.mk ((HBd.out.below (below_alloc (Below.refl _ _) _)).below hb1); have hS1 := Aside0.mk hb1.size; clear hb1) | (go_at_call 18; refine (Bld.writeString w.heap.size w.heap.size (Lib.byteCells acc) (wrR t).1 _ hBd1.out (by rw [Lib.byteCells_length]; have := HLA.out; have := HLB.out; rw [Ls_len] at this; omega) hB1.out.size).mono ?_; rintro e w3 ⟨rfl, hA3, hb3, hk3⟩; have hB3 := Aside0.mk (hB1.out.trans hb3); have hBd3 := Aside0.mk (show Bd w.heap.size (acc ++ Ls (wrR t).1) w3 from .inr (by rw [Lib.byteCells_append]; exact hA3)); have hD3 := Aside0.mk (hk3 _ _ hD1.out (by intro h_; injection h_ with h_; have h2_ := HBd.out.lt; omega) (by intro c_ fz_ h_; injection h_ with _ h_ _; cases h_)); clear d0 hA3 hb3 hk3 hBd1 hD1; have d0 := (blk_cell hD3.out 0).trans (show _ = some (Value.int .i64 t.f0) from rfl)))
      go_roundg (gk - 1)
      case measure => have := HX.out; have := HI.out; omega
      case rel =>
       have h1 := HX.out
       have h2 := HI.out
       have h3 := HL.out
       have hw : wrap64 (x + 1) = x + 1 := by unfold wrap64; omega
       refine ⟨false, acc ++ Ls (wrR t).1, wrap64 (x + 1), (by first | rfl | (simp; done) | (simp [*]; done)), (by first | rfl | (simp; done) | (simp [*]; done)), ⟨?_⟩, ⟨?_⟩, ?_, ?_⟩
       ·rw [hw]; omega
       ·rw [hw, show (x + 1).toNat = x.toNat + 1 by omega]; exact HN.out
       ·exact hBd3
       ·exact hB3
    ·have k8 : (t.f0 == 8) = false := beq_eq_false_iff_ne.mpr h8
     have n8 : (t.f0 != 8) = true := bne_iff_ne.mpr h8
     cases g
     ·have hN : (Ls (wrR t).1).length ≤ 1000 ∧ acc.length ≤ 1000000000 ∧ prGo true (acc ++ Ls (wrR t).1) (l0.drop (x.toNat + 1)) = some R := by
       rcases HC.out with ⟨h, _⟩ | ⟨_, _, h3, h4, h5⟩
       ·rcases h with h | ⟨h, _⟩
        ·rw [hok] at h; cases h
        ·exact absurd h h8
       ·rw [n8, if_neg (fun h => by cases h.1), List.nil_append] at h5
        exact ⟨h3, h4, h5⟩
      have HLB := Aside0.mk hN.1
      have HLA := Aside0.mk hN.2.1
      have HN := Aside0.mk hN.2.2
      clear HC hN h8
      go_wp2_with (first | (go_at_call 16; refine (written_calls t HIn.out _ ((HT.out.below HB.out).below (below_alloc (Below.refl _ _) _))).mono ?_; rw [hok]; rintro e w1 ⟨rfl, hb1⟩; have hB1 := Aside0.mk ((below_alloc HB.out _).trans (hb1.mono (by have := HB.out.size; simp; omega))); have hD1 := Aside0.mk (blk_below (heap_alloc_new wr _) hb1); have d0 := (blk_cell hD1.out 0).trans (show _ = some (Value.int .i64 t.f0) from rfl); have hBd1 := Aside0.mk ((HBd.out.below (below_alloc (Below.refl _ _) _)).below hb1); have hS1 := Aside0.mk hb1.size; clear hb1) | (go_at_call 18; refine (Bld.writeString w.heap.size w.heap.size (Lib.byteCells acc) (wrR t).1 _ hBd1.out (by rw [Lib.byteCells_length]; have := HLA.out; have := HLB.out; rw [Ls_len] at this; omega) hB1.out.size).mono ?_; rintro e w3 ⟨rfl, hA3, hb3, hk3⟩; have hB3 := Aside0.mk (hB1.out.trans hb3); have hBd3 := Aside0.mk (show Bd w.heap.size (acc ++ Ls (wrR t).1) w3 from .inr (by rw [Lib.byteCells_append]; exact hA3)); have hD3 := Aside0.mk (hk3 _ _ hD1.out (by intro h_; injection h_ with h_; have h2_ := HBd.out.lt; omega) (by intro c_ fz_ h_; injection h_ with _ h_ _; cases h_)); clear d0 hA3 hb3 hk3 hBd1 hD1; have d0 := (blk_cell hD3.out 0).trans (show _ = some (Value.int .i64 t.f0) from rfl)))
      go_roundg (gk - 1)
      case measure => have := HX.out; have := HI.out; omega
      case rel =>
       have h1 := HX.out
       have h2 := HI.out
       have h3 := HL.out
       have hw : wrap64 (x + 1) = x + 1 := by unfold wrap64; omega
       refine ⟨true, acc ++ Ls (wrR t).1, wrap64 (x + 1), (by first | rfl | (simp; done) | (simp [*]; done)), (by first | rfl | (simp; done) | (simp [*]; done)), ⟨?_⟩, ⟨?_⟩, ?_, ?_⟩
       ·rw [hw]; omega
       ·rw [hw, show (x + 1).toNat = x.toNat + 1 by omega]; exact HN.out
       ·exact hBd3
       ·exact hB3
     ·have hN : (Ls (wrR t).1).length ≤ 1000 ∧ acc.length ≤ 1000000000 ∧ prGo true ((acc ++ [32]) ++ Ls (wrR t).1) (l0.drop (x.toNat + 1)) = some R := by
       rcases HC.out with ⟨h, _⟩ | ⟨_, _, h3, h4, h5⟩
       ·rcases h with h | ⟨h, _⟩
        ·rw [hok] at h; cases h
        ·exact absurd h h8
       ·rw [n8, if_pos ⟨rfl, h8⟩, ← List.append_assoc] at h5
        exact ⟨h3, h4, h5⟩
      have HLB := Aside0.mk hN.1
      have HLA := Aside0.mk hN.2.1
      have HN := Aside0.mk hN.2.2
      clear HC hN h8
      go_wp2_with (first | (go_at_call 16; refine (written_calls t HIn.out _ ((HT.out.below HB.out).below (below_alloc (Below.refl _ _) _))).mono ?_; rw [hok]; rintro e w1 ⟨rfl, hb1⟩; have hB1 := Aside0.mk ((below_alloc HB.out _).trans (hb1.mono (by have := HB.out.size; simp; omega))); have hD1 := Aside0.mk (blk_below (heap_alloc_new wr _) hb1); have d0 := (blk_cell hD1.out 0).trans (show _ = some (Value.int .i64 t.f0) from rfl); have hBd1 := Aside0.mk ((HBd.out.below (below_alloc (Below.refl _ _) _)).below hb1); have hS1 := Aside0.mk hb1.size; clear hb1) | (go_at_call 17; refine (Bld.writeByte w.heap.size w.heap.size (Lib.byteCells acc) 32 _ hBd1.out (by rw [Lib.byteCells_length]; have := HLA.out; omega) hB1.out.size).mono ?_; rintro e w2 ⟨rfl, hA2, hb2, hk2⟩; have hB2 := Aside0.mk (hB1.out.trans hb2); have hBd2 := Aside0.mk (show Bd w.heap.size (acc ++ [32]) w2 from .inr (by rw [Lib.byteCells_append]; exact hA2)); have hD2 := Aside0.mk (hk2 _ _ hD1.out (by intro h_; injection h_ with h_; have h2_ := HBd.out.lt; omega) (by intro c_ fz_ h_; injection h_ with _ h_ _; cases h_)); clear d0 hA2 hb2 hk2 hBd1 hD1; have d0 := (blk_cell hD2.out 0).trans (show _ = some (Value.int .i64 t.f0) from rfl)) | (go_at_call 18; refine (Bld.writeString w.heap.size w.heap.size (Lib.byteCells (acc ++ [32])) (wrR t).1 _ hBd2.out (by rw [Lib.byteCells_length, List.length_append, List.length_singleton]; have := HLA.out; have := HLB.out; rw [Ls_len] at this; omega) hB2.out.size).mono ?_; rintro e w3 ⟨rfl, hA3, hb3, hk3⟩; have hB3 := Aside0.mk (hB2.out.trans hb3); have hBd3 := Aside0.mk (show Bd w.heap.size ((acc ++ [32]) ++ Ls (wrR t).1) w3 from .inr (by rw [Lib.byteCells_append]; exact hA3)); have hD3 := Aside0.mk (hk3 _ _ hD2.out (by intro h_; injection h_ with h_; have h2_ := HBd.out.lt; omega) (by intro c_ fz_ h_; injection h_ with _ h_ _; cases h_)); clear d0 hA3 hb3 hk3 hBd2 hD2; have d0 := (blk_cell hD3.out 0).trans (show _ = some (Value.int .i64 t.f0) from rfl)))
      go_roundg (gk - 1)
      case measure => have := HX.out; have := HI.out; omega
      case rel =>
       have h1 := HX.out
       have h2 := HI.out
       have h3 := HL.out
       have hw : wrap64 (x + 1) = x + 1 := by unfold wrap64; omega
       refine ⟨true, (acc ++ [32]) ++ Ls (wrR t).1, wrap64 (x + 1), (by first | rfl | (simp; done) | (simp [*]; done)), (by first | rfl | (simp; done) | (simp [*]; done)), ⟨?_⟩, ⟨?_⟩, ?_, ?_⟩
       ·rw [hw]; omega
       ·rw [hw, show (x + 1).toNat = x.toNat + 1 by omega]; exact HN.out
       ·exact hBd3
       ·exact hB3
  ·have c1 : decide (x < (l0.length : Int)) = false := decide_eq_false hi
   have hR : R = some (acc, g) := by
    have h := HGo.out
    rw [List.drop_of_length_le (by have := HX.out; omega)] at h
    exact (Option.some.inj h).symm
   clear hi HGo
   have hr := HR.out
   rw [hR] at hr
   dsimp only at hr
   cases g
   ·by_cases h8 : 8000 < acc.length
    ·rw [if_pos (.inr h8)] at hr
     simp only [Prod.mk.injEq] at hr
     obtain ⟨rfl, rfl⟩ := hr
     have k8 : decide ((8000 : Int) < ((Lib.byteCells acc).length : Int)) = true := decide_eq_true (by rw [Lib.byteCells_length]; omega)
     clear h8
     go_wp2_with (first | (go_at_call 19; refine (Tryz.Builder_Len_f w.heap.size w.heap.size (Lib.byteCells acc) _ HBd.out).mono ?_; rintro e w' ⟨rfl, rfl⟩))
     go_ret2
     exact ⟨rfl, by repeat (first | exact HB.out | apply pw_below_drewN | apply below_drew1)⟩
    ·rw [if_neg (not_or.mpr ⟨by decide, h8⟩)] at hr
     simp only [Prod.mk.injEq] at hr
     obtain ⟨rfl, rfl⟩ := hr
     have k8 : decide ((8000 : Int) < ((Lib.byteCells acc).length : Int)) = false := decide_eq_false (by rw [Lib.byteCells_length]; omega)
     clear h8
     go_wp2_with (first | (go_at_call 19; refine (Tryz.Builder_Len_f w.heap.size w.heap.size (Lib.byteCells acc) _ HBd.out).mono ?_; rintro e w' ⟨rfl, rfl⟩) | (go_at_call 20; refine (Tryz.Builder_String_any_k w.heap.size w.heap.size acc _ HBd.out HB.out.size).mono ?_; rintro e w4 ⟨rfl, _, hb4, _⟩; have hB4 := Aside0.mk (HB.out.trans hb4); clear hb4))
     go_ret2
     exact ⟨rfl, by repeat (first | exact hB4.out | apply pw_below_drewN | apply below_drew1)⟩
   ·rw [if_pos (.inl rfl)] at hr
    simp only [Prod.mk.injEq] at hr
    obtain ⟨rfl, rfl⟩ := hr
    go_wp2
    go_ret2
    exact ⟨rfl, by repeat (first | exact HB.out | apply pw_below_drewN | apply below_drew1)⟩
end Go.Proofs.YtjlclkenfmbahaaGreatDoor.PA
