/- The room's hold of bytes, over all lists that it handed out. Condition: the marks stand behind each. -/
import Derived.Test.YtmpgldggjjmkmaaMDkRoom
import Derived.Test.YtmpgldggjjmkmaaML
namespace Go.Proofs.Ytmpgldggjjmkmaa.PA
open Go.RowKit Go.Maps Go.Proofs.YtmpgldggjjmkmaaW.PrintWords Go.Proofs.YtmpgldggjjmkmaaW.PrintLast Go.Proofs.YtmpgldggjjmkmaaW.PrintMore
set_option linter.unusedVariables false
set_option linter.unusedSimpArgs false
theorem RmB.at {b : Nat} {W : World} {col : RCol} {v0 : Value} {BL : List (Value × List Int)} (h : RmB b W col v0 BL) {i : Nat} {p : Value × List Int} (hp : BL[i]? = some p) :
    ∃ B2 c F cap, v0 = .slice (some ⟨B2, 0, none⟩) BL.length c ∧ W.cell? ⟨B2, i, none⟩ = some (.slice (some ⟨F, 0, none⟩) (p.2.length + 600) cap) ∧ ∀ k, k < 600 → W.cell? ⟨F, p.2.length + k, none⟩ = some (.int .u8 (markB k)) := by
  have hi : i < BL.length := (List.getElem?_eq_some_iff.1 hp).1
  obtain ⟨B2, c, hv⟩ := own_form2 h.own (by omega)
  obtain ⟨F, cap, e, ho, _⟩ := h.rows p (List.mem_of_getElem? hp)
  have c1 := h.own.cells (g := B2) (by rw [hv]; rfl) i p.1 (by rw [List.getElem?_map, hp]; rfl)
  rw [add_at, e] at c1
  refine ⟨B2, c, F, cap, hv, c1, fun k hk => ?_⟩
  have c2 := ho.cells (g := F) (by rw [e]; rfl) (p.2.length + k) (.int .u8 (markB k)) (by
    unfold nums
    rw [List.getElem?_map, List.getElem?_append_right (by omega), show p.2.length + k - p.2.length = k by omega]
    unfold marksB
    rw [List.getElem?_map, List.getElem?_range hk]; rfl)
  rwa [add_at] at c2
set_option maxRecDepth 100000 in
set_option maxHeartbeats 2000000 in
theorem holdBytes_gen (b G : Nat) (v0 : Value) (BL : List (Value × List Int)) (col : RCol) (w : World) (hB : BL.length ≤ 5864062014001) (hl : ∀ p ∈ BL, p.2.length ≤ 140737488351232) (hG : w.cell? ⟨G, 0, none⟩ = some v0) (hR : RmB b w col v0 BL) :
    Calls Try.prog 41 #[.pointer (some ⟨G, 0, none⟩)] w fun e w' => e = .returned (.bool true) ∧ Below w.heap.size w w' := by
  have hb := below_alloc (Below.refl w.heap.size w) (.cells #[.int .u8 165, .int .u8 90] 5)
  have hG1 := (hb.cell (World.block_lt_of_cell? _ _ hG)).trans hG
  have hF1 : ∀ i p, BL[i]? = some p → ∃ B2 c F cap, v0 = .slice (some ⟨B2, 0, none⟩) BL.length c ∧ (w.alloc (.cells #[.int .u8 165, .int .u8 90] 5)).cell? ⟨B2, i, none⟩ = some (.slice (some ⟨F, 0, none⟩) (p.2.length + 600) cap) ∧ ∀ k, k < 600 → (w.alloc (.cells #[.int .u8 165, .int .u8 90] 5)).cell? ⟨F, p.2.length + k, none⟩ = some (.int .u8 (markB k)) := fun i p hp => by
    obtain ⟨B2, c, F, cap, h1, h2, h3⟩ := hR.at hp
    exact ⟨B2, c, F, cap, h1, (hb.cell (World.block_lt_of_cell? _ _ h2)).trans h2, fun k hk => (hb.cell (World.block_lt_of_cell? _ _ (h3 k hk))).trans (h3 k hk)⟩
  have bM := blk_new w (.cells #[.int .u8 165, .int .u8 90] 5)
  obtain ⟨W1, hW1⟩ : ∃ W1, w.alloc (.cells #[.int .u8 165, .int .u8 90] 5) = W1 := ⟨_, rfl⟩
  rw [hW1] at hb hG1 hF1 bM
  have cM0 := (blk_cell bM 0).trans rfl
  have cM1 := (blk_cell bM 1).trans rfl
  have HW := Aside0.mk hW1
  have HBe := Aside0.mk hb
  have HF := Aside0.mk hF1
  have HL := Aside0.mk hl
  obtain ⟨A0, C0, hv0, _, _⟩ := own_form hR.own
  subst hv0
  clear hW1 hb hF1 hG bM hl hR
  go_enter Try.func41, Try.ntmps41
  go_wp2
  rw [HW.out]
  go_loopw [4] (fun v4 wr => ∃ i : Nat, i ≤ BL.length ∧ v4 = .int .i64 i ∧ wr = W1) (fun v4 _ => BL.length - (intOf v4).toNat)
  case atStart => exact ⟨0, by omega, rfl, rfl⟩
  case round =>
    obtain ⟨i, hi, rfl, rfl⟩ := hrel
    by_cases h1 : i < BL.length
    · obtain ⟨B2, c, F, cap, hv, cI, hk⟩ := HF.out i BL[i] (List.getElem?_eq_getElem h1)
      injection hv with hv1 hv2 hv3
      subst hv1 hv3
      have hn : BL[i].2.length ≤ 140737488351232 := HL.out _ (List.getElem_mem h1)
      obtain ⟨N, hN⟩ : ∃ N, N = BL[i].2.length := ⟨_, rfl⟩
      rw [← hN] at cI hk hn
      have HK := Aside0.mk hk
      have ci : (i : Int) < (BL.length : Int) := by omega
      have HI1 := Aside0.mk h1
      clear hN hk
      go_wp2
      go_loopw [6] (fun v6 wr2 => ∃ k : Nat, k ≤ 600 ∧ v6 = .int .i64 k ∧ wr2 = wr) (fun v6 _ => 600 - (intOf v6).toNat)
      case atStart => exact ⟨0, by omega, rfl, rfl⟩
      case round =>
        obtain ⟨k, hk, rfl, rfl⟩ := hrel
        by_cases h40 : k < 600
        · have c40 : (k : Int) < 600 := by omega
          have cF := HK.out k h40
          have e1 : wrap64 ((N : Int) + 600 - 600) = (N : Int) := by rw [show (N : Int) + 600 - 600 = (N : Int) by omega]; exact PA.wr (by omega) (by omega)
          have e2 : wrap64 ((N : Int) + (k : Int)) = (N : Int) + (k : Int) := PA.wr (by omega) (by omega)
          have e3 : ((N : Int) + (k : Int)).toNat = N + k := by omega
          have e4 : wrap64 ((k : Int) + 1) = (k : Int) + 1 := PA.wr (by omega) (by omega)
          have b1 : 0 ≤ (N : Int) + (k : Int) := by omega
          have b2 : (N : Int) + (k : Int) < (N : Int) + 600 := by omega
          by_cases hp : k % 2 = 0
          · have hm : Int.tmod (k : Int) 2 = 0 := by rw [Int.tmod_eq_emod_of_nonneg (by omega)]; omega
            have hs : markB k = 165 := by unfold markB; rw [if_pos hp]
            rw [hs] at cF
            clear hs hp
            go_wp2
            exact ⟨⟨k + 1, by omega, congrArg (Value.int .i64) (by omega), trivial⟩, by simp [intOf]; omega⟩
          · have hm : Int.tmod (k : Int) 2 = 1 := by rw [Int.tmod_eq_emod_of_nonneg (by omega)]; omega
            have hs : markB k = 90 := by unfold markB; rw [if_neg hp]
            rw [hs] at cF
            clear hs hp
            go_wp2
            exact ⟨⟨k + 1, by omega, congrArg (Value.int .i64) (by omega), trivial⟩, by simp [intOf]; omega⟩
        · obtain rfl : k = 600 := by omega
          have e5 : wrap64 ((i : Int) + 1) = (i : Int) + 1 := PA.wr (by omega) (by omega)
          go_wp2
          exact ⟨⟨i + 1, HI1.out, congrArg (Value.int .i64) (by omega), trivial⟩, by have := HI1.out; simp [intOf]; omega⟩
    · obtain rfl : i = BL.length := by omega
      go_wp2
      refine bodyPost_ret (results_tmp rfl _ _ _) rfl ⟨rfl, HBe.out⟩
end Go.Proofs.Ytmpgldggjjmkmaa.PA
