/- The room's hold of files, where it handed out one list of files, and none. Condition: the marks stand behind the list. -/
import Derived.Test.YtmpgldggjjmkmaaMDkRoomFw
import Derived.Test.YtmpgldggjjmkmaaML
namespace Go.Proofs.Ytmpgldggjjmkmaa.PA
open Go.RowKit Go.Maps Go.Proofs.YtmpgldggjjmkmaaW.PrintWords Go.Proofs.YtmpgldggjjmkmaaW.PrintLast Go.Proofs.YtmpgldggjjmkmaaW.PrintMore
set_option linter.unusedVariables false
set_option linter.unusedSimpArgs false
structure FilAt (w : World) (F q : Nat) (n : Int) : Prop where
  c0 : w.cell? ⟨F, q, none⟩ = some (.string ⟨#[]⟩)
  c1 : w.cell? ⟨F, q + 1, none⟩ = some (.slice none 0 0)
  c2 : w.cell? ⟨F, q + 2, none⟩ = some (.int .i64 n)
theorem FilAt.below {B : Nat} {w w' : World} {F q : Nat} {n : Int} (h : FilAt w F q n) (hb : Below B w w') (hF : F < B) : FilAt w' F q n :=
  ⟨(hb.cell hF).trans h.c0, (hb.cell hF).trans h.c1, (hb.cell hF).trans h.c2⟩
abbrev marksFO : Obj := .cells #[.string ⟨#[]⟩, .slice none 0 0, .int .i64 (-7701), .string ⟨#[]⟩, .slice none 0 0, .int .i64 (-7702)] 74
theorem FsR.at {b : Nat} {w W : World} {col col' : RCol} {G : Nat} {cg : Array Value} {fs : List Fl} {F cap : Nat} {v13 v0 : Value} {M : List (Fl × Value)} {BL : List (Value × List Int)} (h : FsR b w col W col' G cg fs F cap v13 v0 M BL) :
    ∃ B3 c3, v13 = .slice (some ⟨B3, 0, none⟩) 1 c3 ∧ W.cell? ⟨B3, 0, none⟩ = some (.slice (some ⟨F, 0, none⟩) (fs.length + 40) cap) ∧ ∀ k, k < 40 → FilAt W F ((fs.length + k) * 3) (markS k) := by
  obtain ⟨B3, c3, hv⟩ := own_form2 h.row (by omega)
  have c1 := h.row.cells (g := B3) (by rw [hv]; rfl) 0 _ rfl
  rw [add_at] at c1
  refine ⟨B3, c3, hv, c1, fun k hk => ?_⟩
  have hM : M.length = fs.length := by rw [← h.fst, List.length_map]
  have hg : (M ++ marksF 40)[fs.length + k]? = some (markF k) := by
    rw [List.getElem?_append_right (by omega), show fs.length + k - M.length = k by omega]
    unfold marksF
    rw [List.getElem?_map, List.getElem?_range hk]; rfl
  obtain ⟨g0, g1, g2⟩ := flatL_get _ _ _ hg
  have hc := h.own.cells (g := F) rfl
  have d0 := hc _ _ g0
  have d1 := hc _ _ g1
  have d2 := hc _ _ g2
  rw [add_at] at d0 d1 d2
  exact ⟨d0, d1, d2⟩
set_option maxRecDepth 100000 in
set_option maxHeartbeats 4000000 in
theorem holdFiles_one (G B2 F N c2 cap : Nat) (w : World) (hN : N * 48 ≤ 140737488351232) (hG : w.cell? ⟨G, 13, none⟩ = some (.slice (some ⟨B2, 0, none⟩) 1 c2)) (hI : w.cell? ⟨B2, 0, none⟩ = some (.slice (some ⟨F, 0, none⟩) (N + 40) cap))
    (hF : ∀ k, k < 40 → FilAt w F ((N + k) * 3) (markS k)) :
    Calls Try.prog 54 #[.pointer (some ⟨G, 0, none⟩)] w fun e w' => e = .returned (.bool true) ∧ Below w.heap.size w w' := by
  have hb := below_alloc (Below.refl w.heap.size w) marksFO
  have hG1 := (hb.cell (World.block_lt_of_cell? _ _ hG)).trans hG
  have hI1 := (hb.cell (World.block_lt_of_cell? _ _ hI)).trans hI
  have hF1 : ∀ k, k < 40 → FilAt (w.alloc marksFO) F ((N + k) * 3) (markS k) := fun k hk => (hF k hk).below hb (World.block_lt_of_cell? _ _ (hF k hk).c0)
  have bM := blk_new w marksFO
  obtain ⟨W1, hW1⟩ : ∃ W1, w.alloc marksFO = W1 := ⟨_, rfl⟩
  rw [hW1] at hb hG1 hI1 hF1 bM
  have HW := Aside0.mk hW1
  have HB := Aside0.mk hb
  have HF := Aside0.mk hF1
  have HG := Aside0.mk hG1
  have HI := Aside0.mk hI1
  have HM := Aside0.mk bM
  have lG := World.block_lt_of_cell? _ _ hG1
  have lI := World.block_lt_of_cell? _ _ hI1
  have lM : w.heap.size < W1.heap.size := blk_lt bM
  clear hW1 hb hF1 hG hI hF hG1 hI1 bM
  go_enter Try.func54, Try.ntmps54
  go_wp2
  rw [HW.out]
  go_loopw [4] (fun v4 wr => ∃ i : Nat, i ≤ 1 ∧ v4 = .int .i64 i ∧ Hid (Below W1.heap.size W1 wr)) (fun v4 _ => 1 - (intOf v4).toNat)
  case atStart => exact ⟨0, by omega, rfl, Below.refl _ _⟩
  case round =>
    obtain ⟨i, hi, rfl, hbr⟩ := hrel
    have hG2 := (hbr.out.cell lG).trans HG.out
    by_cases h1 : i = 0
    · subst h1
      have hI2 := (hbr.out.cell lI).trans HI.out
      go_wp2
      go_loopw [6] (fun v6 wr2 => ∃ k : Nat, k ≤ 40 ∧ v6 = .int .i64 k ∧ Hid (Below W1.heap.size W1 wr2)) (fun v6 _ => 40 - (intOf v6).toNat)
      case atStart => exact ⟨0, by omega, rfl, hbr⟩
      case round =>
        clear hG2 hI2 hbr
        obtain ⟨k, hk, rfl, hbr⟩ := hrel
        have hG2 := (hbr.out.cell lG).trans HG.out
        have hI2 := (hbr.out.cell lI).trans HI.out
        by_cases h40 : k < 40
        · have c40 : (k : Int) < 40 := by omega
          obtain ⟨x0, x1, x2⟩ := (HF.out k h40).below hbr.out (World.block_lt_of_cell? _ _ (HF.out k h40).c0)
          have hbm := (hbr.out.block _ lM).trans HM.out
          have m0 := (blk_cell hbm 0).trans rfl
          have m1 := (blk_cell hbm 1).trans rfl
          have m2 := (blk_cell hbm 2).trans rfl
          have m3 := (blk_cell hbm 3).trans rfl
          have m4 := (blk_cell hbm 4).trans rfl
          have m5 := (blk_cell hbm 5).trans rfl
          have ma0 : ∀ o, (wr.alloc o).cell? _ = _ := fun o => ((below_alloc (Below.refl wr.heap.size wr) o).cell (World.block_lt_of_cell? _ _ m0)).trans m0
          have ma1 : ∀ o, (wr.alloc o).cell? _ = _ := fun o => ((below_alloc (Below.refl wr.heap.size wr) o).cell (World.block_lt_of_cell? _ _ m1)).trans m1
          have ma2 : ∀ o, (wr.alloc o).cell? _ = _ := fun o => ((below_alloc (Below.refl wr.heap.size wr) o).cell (World.block_lt_of_cell? _ _ m2)).trans m2
          have ma3 : ∀ o, (wr.alloc o).cell? _ = _ := fun o => ((below_alloc (Below.refl wr.heap.size wr) o).cell (World.block_lt_of_cell? _ _ m3)).trans m3
          have ma4 : ∀ o, (wr.alloc o).cell? _ = _ := fun o => ((below_alloc (Below.refl wr.heap.size wr) o).cell (World.block_lt_of_cell? _ _ m4)).trans m4
          have ma5 : ∀ o, (wr.alloc o).cell? _ = _ := fun o => ((below_alloc (Below.refl wr.heap.size wr) o).cell (World.block_lt_of_cell? _ _ m5)).trans m5
          clear hbm
          have e1 : wrap64 ((N : Int) + 40 - 40) = (N : Int) := by rw [show (N : Int) + 40 - 40 = (N : Int) by omega]; exact PA.wr (by omega) (by omega)
          have e2 : wrap64 ((N : Int) + (k : Int)) = (N : Int) + (k : Int) := PA.wr (by omega) (by omega)
          have e3 : ((N : Int) + (k : Int)).toNat = N + k := by omega
          have e4 : wrap64 ((k : Int) + 1) = (k : Int) + 1 := PA.wr (by omega) (by omega)
          have b1 : 0 ≤ (N : Int) + (k : Int) := by omega
          have b2 : (N : Int) + (k : Int) < (N : Int) + 40 := by omega
          by_cases hp : k % 2 = 0
          · have hm : Int.tmod (k : Int) 2 = 0 := by rw [Int.tmod_eq_emod_of_nonneg (by omega)]; omega
            have hs : markS k = -7701 := by unfold markS; rw [if_pos hp]
            rw [hs] at x2
            clear hs hp
            go_wp2
            exact ⟨⟨k + 1, by omega, congrArg (Value.int .i64) (by omega), (hbr.out.trans (Below.mono (below_alloc (below_alloc (Below.refl _ _) _) _) hbr.out.size))⟩, by simp [intOf]; omega⟩
          · have hm : Int.tmod (k : Int) 2 = 1 := by rw [Int.tmod_eq_emod_of_nonneg (by omega)]; omega
            have hs : markS k = -7702 := by unfold markS; rw [if_neg hp]
            rw [hs] at x2
            clear hs hp
            go_wp2
            exact ⟨⟨k + 1, by omega, congrArg (Value.int .i64) (by omega), (hbr.out.trans (Below.mono (below_alloc (below_alloc (Below.refl _ _) _) _) hbr.out.size))⟩, by simp [intOf]; omega⟩
        · obtain rfl : k = 40 := by omega
          go_wp2
          exact ⟨⟨1, by omega, rfl, hbr⟩, by simp [intOf]⟩
    · obtain rfl : i = 1 := by omega
      go_wp2
      refine bodyPost_ret (results_tmp rfl _ _ _) rfl ⟨rfl, HB.out.trans (hbr.out.mono HB.out.size)⟩
end Go.Proofs.Ytmpgldggjjmkmaa.PA
