/- The room's Hold: true, where the lists of bytes, ints and files hold and the room has no others. Condition: so each of the three holds. -/
import Derived.Test.YtmpgldggjjmkmaaMDkHoldF
import Derived.Test.YtmpgldggjjmkmaaMDkHoldN
import Derived.Test.YtmpgldggjjmkmaaML
namespace Go.Proofs.Ytmpgldggjjmkmaa.PA
open Go.RowKit Go.Maps Go.Proofs.YtmpgldggjjmkmaaW.PrintWords Go.Proofs.YtmpgldggjjmkmaaW.PrintLast Go.Proofs.YtmpgldggjjmkmaaW.PrintMore
set_option linter.unusedVariables false
set_option linter.unusedSimpArgs false
abbrev Held (f G : Nat) (w : World) : Prop := ∀ W, Below w.heap.size w W → Calls Try.prog f #[.pointer (some ⟨G, 0, none⟩)] W fun e w' => e = .returned (.bool true) ∧ Below W.heap.size W w'
set_option maxRecDepth 100000 in
set_option maxHeartbeats 4000000 in
theorem hold_gen (G : Nat) (w : World) (hL : G < w.heap.size) (hC : ∀ j, j < 21 → j ≠ 0 → j ≠ 1 → j ≠ 13 → w.cell? ⟨G, j, none⟩ = some (.slice none 0 0)) (hB0 : Held 41 G w) (hI0 : Held 42 G w) (hF0 : Held 54 G w) :
    Calls Try.prog 12 #[.pointer (some ⟨G, 0, none⟩)] w fun e w' => e = .returned (.bool true) ∧ Below w.heap.size w w' := by
  have HL := Aside0.mk hL
  have HC := Aside0.mk hC
  have HBs := Aside0.mk hB0
  have HIs := Aside0.mk hI0
  have HFs := Aside0.mk hF0
  have HB := Aside0.mk (Below.refl w.heap.size w)
  clear hC hB0 hI0 hF0 hL
  go_enter Try.func12, Try.ntmps12
  go_wp2_with (first
    | (go_at_call 41; (with_reducible refine Calls.mono (HBs.out _ HB.out) ?_); rintro e w2 ⟨rfl, hb⟩; have n0_ := Aside0.mk (HB.out.trans (hb.mono HB.out.size)); clear HB hb; have HB := n0_; clear n0_)
    | (go_at_call 42; (with_reducible refine Calls.mono (HIs.out _ HB.out) ?_); rintro e w2 ⟨rfl, hb⟩; have n0_ := Aside0.mk (HB.out.trans (hb.mono HB.out.size)); clear HB hb; have HB := n0_; clear n0_)
    | (go_at_call 43; (with_reducible refine Calls.mono (holdCells_calls G _ ((HB.out.cell HL.out).trans (HC.out 2 (by decide) (by decide) (by decide) (by decide)))) ?_); rintro e w2 ⟨rfl, hb⟩; have n0_ := Aside0.mk (HB.out.trans (hb.mono HB.out.size)); clear HB hb; have HB := n0_; clear n0_)
    | (go_at_call 44; (with_reducible refine Calls.mono (holdBools_calls G _ ((HB.out.cell HL.out).trans (HC.out 3 (by decide) (by decide) (by decide) (by decide)))) ?_); rintro e w2 ⟨rfl, hb⟩; have n0_ := Aside0.mk (HB.out.trans (hb.mono HB.out.size)); clear HB hb; have HB := n0_; clear n0_)
    | (go_at_call 45; (with_reducible refine Calls.mono (holdTexts_calls G _ ((HB.out.cell HL.out).trans (HC.out 4 (by decide) (by decide) (by decide) (by decide)))) ?_); rintro e w2 ⟨rfl, hb⟩; have n0_ := Aside0.mk (HB.out.trans (hb.mono HB.out.size)); clear HB hb; have HB := n0_; clear n0_)
    | (go_at_call 46; (with_reducible refine Calls.mono (holdValues_calls G _ ((HB.out.cell HL.out).trans (HC.out 5 (by decide) (by decide) (by decide) (by decide)))) ?_); rintro e w2 ⟨rfl, hb⟩; have n0_ := Aside0.mk (HB.out.trans (hb.mono HB.out.size)); clear HB hb; have HB := n0_; clear n0_)
    | (go_at_call 47; (with_reducible refine Calls.mono (holdBands_calls G _ ((HB.out.cell HL.out).trans (HC.out 6 (by decide) (by decide) (by decide) (by decide)))) ?_); rintro e w2 ⟨rfl, hb⟩; have n0_ := Aside0.mk (HB.out.trans (hb.mono HB.out.size)); clear HB hb; have HB := n0_; clear n0_)
    | (go_at_call 48; (with_reducible refine Calls.mono (holdTokens_calls G _ ((HB.out.cell HL.out).trans (HC.out 7 (by decide) (by decide) (by decide) (by decide)))) ?_); rintro e w2 ⟨rfl, hb⟩; have n0_ := Aside0.mk (HB.out.trans (hb.mono HB.out.size)); clear HB hb; have HB := n0_; clear n0_)
    | (go_at_call 49; (with_reducible refine Calls.mono (holdReads_calls G _ ((HB.out.cell HL.out).trans (HC.out 8 (by decide) (by decide) (by decide) (by decide)))) ?_); rintro e w2 ⟨rfl, hb⟩; have n0_ := Aside0.mk (HB.out.trans (hb.mono HB.out.size)); clear HB hb; have HB := n0_; clear n0_)
    | (go_at_call 50; (with_reducible refine Calls.mono (holdConflicts_calls G _ ((HB.out.cell HL.out).trans (HC.out 9 (by decide) (by decide) (by decide) (by decide)))) ?_); rintro e w2 ⟨rfl, hb⟩; have n0_ := Aside0.mk (HB.out.trans (hb.mono HB.out.size)); clear HB hb; have HB := n0_; clear n0_)
    | (go_at_call 51; (with_reducible refine Calls.mono (holdPoints_calls G _ ((HB.out.cell HL.out).trans (HC.out 10 (by decide) (by decide) (by decide) (by decide)))) ?_); rintro e w2 ⟨rfl, hb⟩; have n0_ := Aside0.mk (HB.out.trans (hb.mono HB.out.size)); clear HB hb; have HB := n0_; clear n0_)
    | (go_at_call 52; (with_reducible refine Calls.mono (holdNodes_calls G _ ((HB.out.cell HL.out).trans (HC.out 11 (by decide) (by decide) (by decide) (by decide)))) ?_); rintro e w2 ⟨rfl, hb⟩; have n0_ := Aside0.mk (HB.out.trans (hb.mono HB.out.size)); clear HB hb; have HB := n0_; clear n0_)
    | (go_at_call 53; (with_reducible refine Calls.mono (holdRecords_calls G _ ((HB.out.cell HL.out).trans (HC.out 12 (by decide) (by decide) (by decide) (by decide)))) ?_); rintro e w2 ⟨rfl, hb⟩; have n0_ := Aside0.mk (HB.out.trans (hb.mono HB.out.size)); clear HB hb; have HB := n0_; clear n0_)
    | (go_at_call 54; (with_reducible refine Calls.mono (HFs.out _ HB.out) ?_); rintro e w2 ⟨rfl, hb⟩; have n0_ := Aside0.mk (HB.out.trans (hb.mono HB.out.size)); clear HB hb; have HB := n0_; clear n0_)
    | (go_at_call 55; (with_reducible refine Calls.mono (holdExprs_calls G _ ((HB.out.cell HL.out).trans (HC.out 14 (by decide) (by decide) (by decide) (by decide)))) ?_); rintro e w2 ⟨rfl, hb⟩; have n0_ := Aside0.mk (HB.out.trans (hb.mono HB.out.size)); clear HB hb; have HB := n0_; clear n0_)
    | (go_at_call 56; (with_reducible refine Calls.mono (holdClauses_calls G _ ((HB.out.cell HL.out).trans (HC.out 15 (by decide) (by decide) (by decide) (by decide)))) ?_); rintro e w2 ⟨rfl, hb⟩; have n0_ := Aside0.mk (HB.out.trans (hb.mono HB.out.size)); clear HB hb; have HB := n0_; clear n0_)
    | (go_at_call 57; (with_reducible refine Calls.mono (holdLines_calls G _ ((HB.out.cell HL.out).trans (HC.out 16 (by decide) (by decide) (by decide) (by decide)))) ?_); rintro e w2 ⟨rfl, hb⟩; have n0_ := Aside0.mk (HB.out.trans (hb.mono HB.out.size)); clear HB hb; have HB := n0_; clear n0_)
    | (go_at_call 58; (with_reducible refine Calls.mono (holdChecks_calls G _ ((HB.out.cell HL.out).trans (HC.out 17 (by decide) (by decide) (by decide) (by decide)))) ?_); rintro e w2 ⟨rfl, hb⟩; have n0_ := Aside0.mk (HB.out.trans (hb.mono HB.out.size)); clear HB hb; have HB := n0_; clear n0_)
    | (go_at_call 59; (with_reducible refine Calls.mono (holdOptions_calls G _ ((HB.out.cell HL.out).trans (HC.out 18 (by decide) (by decide) (by decide) (by decide)))) ?_); rintro e w2 ⟨rfl, hb⟩; have n0_ := Aside0.mk (HB.out.trans (hb.mono HB.out.size)); clear HB hb; have HB := n0_; clear n0_)
    | (go_at_call 60; (with_reducible refine Calls.mono (holdTables_calls G _ ((HB.out.cell HL.out).trans (HC.out 19 (by decide) (by decide) (by decide) (by decide)))) ?_); rintro e w2 ⟨rfl, hb⟩; have n0_ := Aside0.mk (HB.out.trans (hb.mono HB.out.size)); clear HB hb; have HB := n0_; clear n0_)
    | (go_at_call 61; (with_reducible refine Calls.mono (holdGroups_calls G _ ((HB.out.cell HL.out).trans (HC.out 20 (by decide) (by decide) (by decide) (by decide)))) ?_); rintro e w2 ⟨rfl, hb⟩; have n0_ := Aside0.mk (HB.out.trans (hb.mono HB.out.size)); clear HB hb; have HB := n0_; clear n0_))
  refine bodyPost_ret (results_tmp rfl _ _ _) rfl ⟨rfl, HB.out⟩
theorem nil_bytes {G : Nat} {w : World} (h : w.cell? ⟨G, 0, none⟩ = some (.slice none 0 0)) : Held 41 G w := fun W hb => holdBytes_calls G W ((hb.cell (World.block_lt_of_cell? _ _ h)).trans h)
theorem nil_ints {G : Nat} {w : World} (h : w.cell? ⟨G, 1, none⟩ = some (.slice none 0 0)) : Held 42 G w := fun W hb => holdInts_calls G W ((hb.cell (World.block_lt_of_cell? _ _ h)).trans h)
theorem nil_files {G : Nat} {w : World} (h : w.cell? ⟨G, 13, none⟩ = some (.slice none 0 0)) : Held 54 G w := fun W hb => holdFiles_calls G W ((hb.cell (World.block_lt_of_cell? _ _ h)).trans h)
theorem RmB.held {b G : Nat} {W : World} {col : RCol} {v0 : Value} {BL : List (Value × List Int)} {cg : Array Value} (h : RmB b W col v0 BL) (hbw : b ≤ W.heap.size) (hB : BL.length ≤ 5864062014001) (hl : ∀ p ∈ BL, p.2.length ≤ 140737488351232) (hG : W.heap[G]? = some (.cells cg 65 (0, 0))) (hg : cg[0]? = some v0) : Held 41 G W :=
  fun W1 hb => holdBytes_gen b G v0 BL col W1 hB hl ((blk_cell ((hb.block G (blk_lt hG)).trans hG) 0).trans hg) (h.ch (S := fun _ => False) (Ch.of_below hb hbw) (fun h => h))
theorem RmI.held {b G : Nat} {W : World} {col : RCol} {v0 : Value} {xs : List Int} {cg : Array Value} (h : RmI b W col v0 xs) (hbw : b ≤ W.heap.size) (hl : xs.length < 17592186044416) (hG : W.heap[G]? = some (.cells cg 65 (0, 0))) (hg : cg[1]? = some v0) : Held 42 G W :=
  fun W1 hb => by
    obtain ⟨B2, c2, F, cap, rfl, h1, h2⟩ := (h.ch (S := fun _ => False) (Ch.of_below hb hbw) (fun h => h)).at
    exact holdInts_one G B2 F xs.length c2 cap W1 hl ((blk_cell ((hb.block G (blk_lt hG)).trans hG) 1).trans hg) h1 h2
theorem FsR.held {b : Nat} {w W : World} {col col' : RCol} {G : Nat} {cg : Array Value} {fs : List Fl} {F cap : Nat} {v13 v0 : Value} {M : List (Fl × Value)} {BL : List (Value × List Int)} (h : FsR b w col W col' G cg fs F cap v13 v0 M BL) (hN : fs.length * 48 ≤ 140737488351232) (h13 : 13 < cg.size) {W' : World} (hb' : Below W.heap.size W W') : Held 54 G W' :=
  fun W1 hb1 => by
    have hb := hb'.trans (hb1.mono hb'.size)
    obtain ⟨B3, c3, hv, h1, h2⟩ := h.at
    refine holdFiles_one G B3 F fs.length c3 cap W1 hN ?_ ((hb.cell (World.block_lt_of_cell? _ _ h1)).trans h1) (fun k hk => (h2 k hk).below hb (World.block_lt_of_cell? _ _ (h2 k hk).c0))
    refine (blk_cell ((hb.block G (blk_lt h.blk)).trans h.blk) 13).trans ?_
    rw [Array.getElem?_setIfInBounds, if_pos rfl, if_pos (by simpa using h13), hv]
end Go.Proofs.Ytmpgldggjjmkmaa.PA
