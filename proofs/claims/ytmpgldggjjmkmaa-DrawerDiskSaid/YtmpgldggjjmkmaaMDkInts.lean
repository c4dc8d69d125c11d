/- The room's Ints and its hold of ints, where it handed out one list. Conditions: the room's list of int lists is empty before, the list fits into memory. -/
import Derived.Test.YtmpgldggjjmkmaaMDkHoldB
import Derived.Test.YtmpgldggjjmkmaaML
namespace Go.Proofs.Ytmpgldggjjmkmaa.PA
open Go.RowKit Go.Maps Go.Proofs.YtmpgldggjjmkmaaW.PrintWords Go.Proofs.YtmpgldggjjmkmaaW.PrintLast Go.Proofs.YtmpgldggjjmkmaaW.PrintMore
set_option linter.unusedVariables false
set_option linter.unusedSimpArgs false
def markS (k : Nat) : Int := if k % 2 = 0 then -7701 else -7702
set_option maxRecDepth 100000 in
set_option maxHeartbeats 2000000 in
theorem holdInts_one (G B2 F N c2 cap : Nat) (w : World) (hN : N < 17592186044416) (hG : w.cell? ⟨G, 1, none⟩ = some (.slice (some ⟨B2, 0, none⟩) 1 c2)) (hI : w.cell? ⟨B2, 0, none⟩ = some (.slice (some ⟨F, 0, none⟩) (N + 40) cap))
    (hF : ∀ k, k < 40 → w.cell? ⟨F, N + k, none⟩ = some (.int .i64 (markS k))) :
    Calls Try.prog 42 #[.pointer (some ⟨G, 0, none⟩)] w fun e w' => e = .returned (.bool true) ∧ Below w.heap.size w w' := by
  have hb := below_alloc (Below.refl w.heap.size w) (.cells #[.int .i64 (-7701), .int .i64 (-7702)] 3)
  have hG1 := (hb.cell (World.block_lt_of_cell? _ _ hG)).trans hG
  have hI1 := (hb.cell (World.block_lt_of_cell? _ _ hI)).trans hI
  have hF1 : ∀ k, k < 40 → (w.alloc (.cells #[.int .i64 (-7701), .int .i64 (-7702)] 3)).cell? ⟨F, N + k, none⟩ = some (.int .i64 (markS k)) := fun k hk => (hb.cell (World.block_lt_of_cell? _ _ (hF k hk))).trans (hF k hk)
  have bM := blk_new w (.cells #[.int .i64 (-7701), .int .i64 (-7702)] 3)
  obtain ⟨W1, hW1⟩ : ∃ W1, w.alloc (.cells #[.int .i64 (-7701), .int .i64 (-7702)] 3) = W1 := ⟨_, rfl⟩
  rw [hW1] at hb hG1 hI1 hF1 bM
  have cM0 := (blk_cell bM 0).trans rfl
  have cM1 := (blk_cell bM 1).trans rfl
  have HW := Aside0.mk hW1
  have HB := Aside0.mk hb
  have HF := Aside0.mk hF1
  clear hW1 hb hF1 hG hI hF bM
  go_enter Try.func42, Try.ntmps42
  go_wp2
  rw [HW.out]
  go_loopw [4] (fun v4 wr => ∃ i : Nat, i ≤ 1 ∧ v4 = .int .i64 i ∧ wr = W1) (fun v4 _ => 1 - (intOf v4).toNat)
  case atStart => exact ⟨0, by omega, rfl, rfl⟩
  case round =>
    obtain ⟨i, hi, rfl, rfl⟩ := hrel
    by_cases h1 : i = 0
    · subst h1
      go_wp2
      go_loopw [6] (fun v6 wr2 => ∃ k : Nat, k ≤ 40 ∧ v6 = .int .i64 k ∧ wr2 = wr) (fun v6 _ => 40 - (intOf v6).toNat)
      case atStart => exact ⟨0, by omega, rfl, rfl⟩
      case round =>
        obtain ⟨k, hk, rfl, rfl⟩ := hrel
        by_cases h40 : k < 40
        · have c40 : (k : Int) < 40 := by omega
          have cF := HF.out k h40
          have e1 : wrap64 ((N : Int) + 40 - 40) = (N : Int) := by rw [show (N : Int) + 40 - 40 = (N : Int) by omega]; exact PA.wr (by omega) (by omega)
          have e2 : wrap64 ((N : Int) + (k : Int)) = (N : Int) + (k : Int) := PA.wr (by omega) (by omega)
          have e3 : ((N : Int) + (k : Int)).toNat = N + k := by omega
          have e4 : wrap64 ((k : Int) + 1) = (k : Int) + 1 := PA.wr (by omega) (by omega)
          have b1 : 0 ≤ (N : Int) + (k : Int) := by omega
          have b2 : (N : Int) + (k : Int) < (N : Int) + 40 := by omega
          by_cases hp : k % 2 = 0
          · have hm : Int.tmod (k : Int) 2 = 0 := by rw [Int.tmod_eq_emod_of_nonneg (by omega)]; omega
            have hs : markS k = -7701 := by unfold markS; rw [if_pos hp]
            rw [hs] at cF
            clear hs hp
            go_wp2
            exact ⟨⟨k + 1, by omega, congrArg (Value.int .i64) (by omega), trivial⟩, by simp [intOf]; omega⟩
          · have hm : Int.tmod (k : Int) 2 = 1 := by rw [Int.tmod_eq_emod_of_nonneg (by omega)]; omega
            have hs : markS k = -7702 := by unfold markS; rw [if_neg hp]
            rw [hs] at cF
            clear hs hp
            go_wp2
            exact ⟨⟨k + 1, by omega, congrArg (Value.int .i64) (by omega), trivial⟩, by simp [intOf]; omega⟩
        · obtain rfl : k = 40 := by omega
          go_wp2
          exact ⟨⟨1, by omega, rfl, trivial⟩, by simp [intOf]⟩
    · obtain rfl : i = 1 := by omega
      go_wp2
      refine bodyPost_ret (results_tmp rfl _ _ _) rfl ⟨rfl, HB.out⟩
def marksL (n : Nat) : List Int := (List.range n).map markS
theorem marksL_two (j : Nat) : marksL (2 * j + 2) = marksL (2 * j) ++ [-7701, -7702] := by
  unfold marksL
  rw [List.range_succ, List.range_succ]
  simp only [List.map_append, List.map_cons, List.map_nil, List.append_assoc, List.cons_append, List.nil_append]
  have h1 : markS (2 * j) = -7701 := by unfold markS; rw [if_pos (by omega)]
  have h2 : markS (2 * j + 1) = -7702 := by unfold markS; rw [if_neg (by omega)]
  rw [h1, h2]
theorem marksL_len (n : Nat) : (marksL n).length = n := by simp [marksL]
theorem infoInt : (Try.prog.info? 3).map (fun i => (i.zero, i.size, i.bytes)) = some (some (.int .i64 0), 1, 8) := by kernel_rfl
theorem infoRow : (Try.prog.info? 35).map (fun i => (i.zero, i.size, i.bytes)) = some (some (.slice none 0 0), 1, 24) := by kernel_rfl
section
variable {P : Program} {ops : Array Oper} {rest : List Oper} {o : Oper} {a : Act} {Q : Exit → Act → World → Prop}
theorem append_two {w0 W : World} (base : Nat) (hgd : o.guard = none) (s x : Operand) (t e : TypeId) (bytes : Nat)
    (ho : o.op = .call { callee := .builtin .append, args := #[s, x], argTypes := #[t, t] })
    (ht : P.underlying t = some (.slice e)) (hinfo : (P.info? e).map (fun i => (i.zero, i.size, i.bytes)) = some (some (.int .i64 0), 1, bytes)) (hb0 : 0 < bytes)
    (v : Value) (n : Nat) (xs : List Value) (y1 y2 : Int) (hs : a.eval s = v) (hx : a.eval x = .slice (some ⟨W.heap.size, 0, none⟩) 2 2)
    (HO : W.ownsRow base e 1 v n xs) (HB : Below base w0 W) (hbase : base ≤ W.heap.size) (hl : (n + 2) * bytes ≤ 140737488355328)
    (h : ∀ v1 w1, w1.ownsRow base e 1 v1 (n + 2) (xs ++ [.int .i64 y1, .int .i64 y2]) → Below base w0 w1 → wpList P ops Q rest (a.put o.dst v1) w1) :
    wpList P ops Q (o :: rest) a (W.alloc (.cells #[.int .i64 y1, .int .i64 y2] e)) := by
  obtain ⟨i0, hi, hzz⟩ := Option.map_eq_some_iff.1 hinfo
  simp only [Prod.mk.injEq] at hzz
  obtain ⟨hz0, hz1, hz2⟩ := hzz
  have hlen : n + 2 ≤ 140737488355328 := Nat.le_trans (Nat.le_mul_of_pos_right _ hb0) hl
  refine wpList_append_own_at (W.alloc (.cells #[.int .i64 y1, .int .i64 y2] e)) hgd s x t ho base e i0 (.int .i64 0) 1 bytes ht hi hz0 hz1 hz2 rfl (by omega) v n xs hs (HO.alloc _) ⟨W.heap.size, 0, none⟩ 2 2 [.int .i64 y1, .int .i64 y2] hx rfl
    (World.news_of_block (cs := #[.int .i64 y1, .int .i64 y2]) (t := e) (fr := (0, 0)) (heap_alloc_new W _)) (by simp [Value.oneCell']) (by simp only [maxLen]; omega) hl (by simp; omega) ?_
  intro v1 w1 hown hg _ hat
  exact h v1 w1 hown ((HB.alloc hbase _).grown hg (by simp; omega) (own_base HO))
end
set_option maxRecDepth 100000 in
set_option maxHeartbeats 4000000 in
theorem ints_calls (G : Nat) (cg : Array Value) (A : Option Addr) (c : Nat) (xs : List Int) (w : World) (hN : xs.length < 17592186044000) (hG : w.heap[G]? = some (.cells cg 65 (0, 0))) (hg1 : cg[1]? = some (.slice none 0 0)) (hrd : ReadsInt w .i64 A xs.length xs) :
    Calls Try.prog 32 #[.pointer (some ⟨G, 0, none⟩), .slice A xs.length c] w fun e w' => ∃ F cap B2 c2 wf,
      e = .returned (.slice (some ⟨F, 0, none⟩) xs.length (xs.length + 40)) ∧ wf.ownsRow w.heap.size 3 1 (.slice (some ⟨F, 0, none⟩) (xs.length + 40) cap) (xs ++ marksL 40).length (nums .i64 (xs ++ marksL 40)) ∧
      wf.ownsRow w.heap.size 35 1 (.slice (some ⟨B2, 0, none⟩) 1 c2) 1 [.slice (some ⟨F, 0, none⟩) (xs.length + 40) cap] ∧ Below w.heap.size w wf ∧ w' = wf.setCell ⟨G, 1, none⟩ (.slice (some ⟨B2, 0, none⟩) 1 c2) := by
  have HN := Aside0.mk hN
  have HG := Aside0.mk hG
  have HG1 := Aside0.mk hg1
  have HRD := Aside0.mk hrd
  clear hN hG hg1 hrd
  go_enter Try.func32, Try.ntmps32
  go_wp2
  have ho0 : (w.alloc (.cells #[] 3)).ownsRow w.heap.size 3 1 (.slice (some ⟨w.heap.size, 0, none⟩) 0 0) ([] : List Int).length (nums .i64 []) := World.ownsRow_made w #[] 0 (Nat.le_refl _) (by simp [maxLen]) rfl
  have hb0 := below_alloc (Below.refl w.heap.size w) (.cells #[] 3)
  go_loopw [5, 6] (fun v5 v6 wr => ∃ (F cap : Nat) (pre post : List Int), xs = pre ++ post ∧ v5 = .slice (some ⟨F, 0, none⟩) pre.length cap ∧ v6 = .int .i64 pre.length ∧ Hid (wr.ownsRow w.heap.size 3 1 (.slice (some ⟨F, 0, none⟩) pre.length cap) pre.length (nums .i64 pre)) ∧ Hid (Below w.heap.size w wr)) (fun _ v6 _ => xs.length - (intOf v6).toNat)
  case atStart => exact ⟨_, _, [], xs, rfl, rfl, rfl, ho0, hb0⟩
  case round =>
    clear ho0 hb0
    obtain ⟨F, cap, pre, post, hx, rfl, rfl, ho, hb⟩ := hrel
    cases post with
    | cons x post =>
      have hlx : xs.length = pre.length + (post.length + 1) := by rw [hx]; simp
      have cin : (pre.length : Int) < (xs.length : Int) := by omega
      obtain ⟨ad, hA, hc⟩ := (HRD.out.below hb.out).at_ (pre.length : Int) (by omega) (by omega)
      have hrdx : rd xs (pre.length : Int) = x := by
        unfold rd
        rw [Int.toNat_natCast, List.getD_eq_getElem?_getD, hx, List.getElem?_append_right (Nat.le_refl _), Nat.sub_self]; rfl
      rw [hrdx, Int.toNat_natCast] at hc
      subst hA
      have hi1 : wrap64 ((pre.length : Int) + 1) = (pre.length : Int) + 1 := by have := HN.out; exact PA.wr (by omega) (by omega)
      have HX := Aside0.mk hx
      have HLX := Aside0.mk hlx
      clear hrdx hx hlx
      go_wp2_with ((with_reducible refine gate_builtin (b := .append) (xs := #[.tmp 15, .tmp 20]) rfl ?_); at_builtin; refine print_append_num (w0 := w) w.heap.size rfl (.tmp 15) (.tmp 20) 35 3 .i64 8 rfl Try.underlying35 infoInt (by decide) (.slice (some ⟨F, 0, none⟩) pre.length cap) pre x rfl rfl ?aO ?aB ?aS ?aL ?_; (case aO => exact ho.out); (case aB => exact hb.out); (case aS => exact hb.out.size); (case aL => have := HN.out; have := HLX.out; omega); intro v1 w1 ho1 hb1 hg1 hat1; obtain ⟨F1, cap1, rfl⟩ := own_form2 ho1 (by simp); have HO1 := Aside0.mk ho1; have HB1 := Aside0.mk hb1; clear ho1 hb1 hg1 hat1)
      rw [hi1]
      exact ⟨⟨F1, cap1, pre ++ [x], post, by rw [HX.out]; simp, by simp, congrArg (Value.int .i64) (by simp), HO1.out, HB1.out⟩, by have := HLX.out; simp [intOf]; omega⟩
    | nil =>
      have hx2 : xs = pre := by rw [hx]; simp
      subst hx2
      clear hx
      have cnn : ¬ ((xs.length : Int) < (xs.length : Int)) := by omega
      have HO := Aside0.mk ho.out
      have HB := Aside0.mk hb.out
      clear ho hb
      go_wp2
      go_loopw [5, 7] (fun v5 v7 wr2 => ∃ F cap j : Nat, j ≤ 20 ∧ v5 = .slice (some ⟨F, 0, none⟩) (xs.length + 2 * j) cap ∧ v7 = .int .i64 (2 * (j : Int)) ∧ Hid (wr2.ownsRow w.heap.size 3 1 (.slice (some ⟨F, 0, none⟩) (xs.length + 2 * j) cap) (xs.length + 2 * j) (nums .i64 (xs ++ marksL (2 * j)))) ∧ Hid (Below w.heap.size w wr2)) (fun _ v7 _ => 40 - (intOf v7).toNat)
      case atStart => exact ⟨F, cap, 0, by omega, rfl, rfl, show _ from (by simpa [marksL] using HO.out : wr.ownsRow w.heap.size 3 1 (.slice (some ⟨F, 0, none⟩) (xs.length + 2 * 0) cap) (xs.length + 2 * 0) (nums .i64 (xs ++ marksL (2 * 0)))), HB.out⟩
      case round =>
        clear HO HB
        obtain ⟨F, cap, j, hj, rfl, rfl, ho, hb⟩ := hrel
        by_cases h20 : j < 20
        · have c40 : 2 * (j : Int) < 40 := by omega
          have hi2 : wrap64 (2 * (j : Int) + 2) = 2 * (j : Int) + 2 := PA.wr (by omega) (by omega)
          go_wp2_with ((with_reducible refine gate_builtin (b := .append) (xs := #[.tmp 26, .tmp 27]) rfl ?_); at_builtin; refine append_two (w0 := w) w.heap.size rfl (.tmp 26) (.tmp 27) 35 3 8 rfl Try.underlying35 infoInt (by decide) (.slice (some ⟨F, 0, none⟩) (xs.length + 2 * j) cap) (xs.length + 2 * j) (nums .i64 (xs ++ marksL (2 * j))) (-7701) (-7702) rfl rfl ?aO ?aB ?aS ?aL ?_; (case aO => exact ho.out); (case aB => exact hb.out); (case aS => exact hb.out.size); (case aL => have := HN.out; omega); intro v1 w1 ho1 hb1; obtain ⟨F1, cap1, rfl⟩ := own_form2 ho1 (by omega); have HO1 := Aside0.mk ho1; have HB1 := Aside0.mk hb1; clear ho1 hb1)
          have hnm : nums .i64 (xs ++ marksL (2 * (j + 1))) = nums .i64 (xs ++ marksL (2 * j)) ++ [.int .i64 (-7701), .int .i64 (-7702)] := by
            rw [show 2 * (j + 1) = 2 * j + 2 by omega, marksL_two, ← List.append_assoc, nums_append (xs := xs ++ marksL (2 * j))]; rfl
          have HO2 : w1.ownsRow w.heap.size 3 1 (.slice (some ⟨F1, 0, none⟩) (xs.length + 2 * (j + 1)) cap1) (xs.length + 2 * (j + 1)) (nums .i64 (xs ++ marksL (2 * (j + 1)))) := by
            rw [hnm, show xs.length + 2 * (j + 1) = xs.length + 2 * j + 2 by omega]
            exact HO1.out
          exact ⟨⟨F1, cap1, j + 1, by omega, by rw [show xs.length + 2 * (j + 1) = xs.length + 2 * j + 2 by omega], congrArg (Value.int .i64) (by omega), HO2, HB1.out⟩, by simp [intOf]; omega⟩
        · obtain rfl : j = 20 := by omega
          have hGb := blk_below HG.out hb.out
          have cG := (blk_cell hGb 1).trans HG1.out
          have HOF := Aside0.mk ho.out
          have HBF := Aside0.mk hb.out
          have HGB := Aside0.mk hGb
          have hcap0 := own_cap ho.out
          have hcap : xs.length + 40 ≤ cap := by omega
          have hcapI : (xs.length : Int) + 40 ≤ (cap : Int) := by omega
          have hx0 : (0 : Int) ≤ (xs.length : Int) + 40 := by omega
          clear ho hb hGb hcap0
          go_wp2_with ((with_reducible refine gate_builtin (b := .append) (xs := #[.tmp 33, .tmp 35]) rfl ?_); at_builtin; refine print_append (w0 := w) w.heap.size rfl (.tmp 33) (.tmp 35) 44 35 (.slice none 0 0) 24 rfl Try.underlying44 infoRow rfl (by decide) (.slice none 0 0) [] (.slice (some ⟨F, 0, none⟩) (xs.length + 2 * 20) cap) rfl rfl rfl ?aO ?aB ?aS ?aL ?_; (case aO => exact own_nil _ _ _ _); (case aB => exact HBF.out); (case aS => exact HBF.out.size); (case aL => decide); intro v1 w1 ho1 hb1 hg1 hat1; obtain ⟨B2, c2, rfl⟩ := own_form2 ho1 (by simp); have HO2 := Aside0.mk ho1; have HB2 := Aside0.mk hb1; have HOF2 := Aside0.mk (own_other HOF.out hg1 (.inr (by simp [Value.ownBlock]))); have cG2 := (blk_cell (blk_below HG.out hb1) 1).trans HG1.out; have fG2 := blk_frozen (blk_below HG.out hb1) 1; clear ho1 hb1 hg1 hat1)
          refine bodyPost_ret (results_tmp rfl _ _ _) rfl ⟨F, cap, B2, c2, w1, rfl, ?_, HO2.out, HB2.out, rfl⟩
          have hl : (xs ++ marksL 40).length = xs.length + 2 * 20 := by rw [List.length_append, marksL_len]
          rw [hl]
          exact HOF2.out
structure RmI (b : Nat) (W : World) (col : RCol) (v0 : Value) (xs : List Int) : Prop where
  ex : ∃ B2 c2 F cap, v0 = .slice (some ⟨B2, 0, none⟩) 1 c2 ∧ W.ownsRow b 35 1 v0 1 [.slice (some ⟨F, 0, none⟩) (xs.length + 40) cap] ∧ W.ownsRow b 3 1 (.slice (some ⟨F, 0, none⟩) (xs.length + 40) cap) (xs ++ marksL 40).length (nums .i64 (xs ++ marksL 40)) ∧ col B2 = .rm ∧ col F = .rm
theorem RmI.ch {b : Nat} {W W' : World} {col col' : RCol} {S : Role → Prop} {v0 : Value} {xs : List Int} (h : RmI b W col v0 xs) (m : Ch b W col W' col' S) (hS : ¬ S .rm) : RmI b W' col' v0 xs := by
  obtain ⟨B2, c2, F, cap, rfl, h1, h2, h3, h4⟩ := h.ex
  refine ⟨B2, c2, F, cap, rfl, own_move h1 fun k hk => m.block k (own_lt h1 k hk) ?_, own_move h2 fun k hk => m.block k (own_lt h2 k hk) ?_, (m.same B2 (own_lt h1 B2 rfl)).trans h3, (m.same F (own_lt h2 F rfl)).trans h4⟩
  · cases hk; rw [h3]; exact hS
  · cases hk; rw [h4]; exact hS
theorem RmI.at {b : Nat} {W : World} {col : RCol} {v0 : Value} {xs : List Int} (h : RmI b W col v0 xs) :
    ∃ B2 c2 F cap, v0 = .slice (some ⟨B2, 0, none⟩) 1 c2 ∧ W.cell? ⟨B2, 0, none⟩ = some (.slice (some ⟨F, 0, none⟩) (xs.length + 40) cap) ∧ ∀ k, k < 40 → W.cell? ⟨F, xs.length + k, none⟩ = some (.int .i64 (markS k)) := by
  obtain ⟨B2, c2, F, cap, rfl, h1, h2, _, _⟩ := h.ex
  have c1 := h1.cells (g := B2) rfl 0 _ rfl
  refine ⟨B2, c2, F, cap, rfl, by rwa [add_at] at c1, fun k hk => ?_⟩
  have c2 := h2.cells (g := F) rfl (xs.length + k) (.int .i64 (markS k)) (by
    unfold nums
    rw [List.getElem?_map, List.getElem?_append_right (by omega), show xs.length + k - xs.length = k by omega]
    unfold marksL
    rw [List.getElem?_map, List.getElem?_range hk]; rfl)
  rwa [add_at] at c2
theorem room_ints (b G : Nat) (cg : Array Value) (col : RCol) (A : Option Addr) (c : Nat) (xs : List Int) (w : World) (hN : xs.length < 17592186044000) (hG : w.heap[G]? = some (.cells cg 65 (0, 0))) (hgt : col G = .rm) (hbG : b ≤ G)
    (hg1 : cg[1]? = some (.slice none 0 0)) (hrd : ReadsInt w .i64 A xs.length xs) :
    Calls Try.prog 32 #[.pointer (some ⟨G, 0, none⟩), .slice A xs.length c] w fun e w' => ∃ F v1 col', e = .returned (.slice (some ⟨F, 0, none⟩) xs.length (xs.length + 40)) ∧
      Ch b w col w' col' isM ∧ RmI b w' col' v1 xs ∧ w'.heap[G]? = some (.cells (cg.setIfInBounds 1 v1) 65 (0, 0)) ∧ w.heap.size ≤ F ∧ ReadsInt w' .i64 (some ⟨F, 0, none⟩) xs.length xs ∧ col' F = .rm := by
  have hgl := blk_lt hG
  have hbw : b ≤ w.heap.size := Nat.le_trans hbG (Nat.le_of_lt hgl)
  refine (ints_calls G cg A c xs w hN hG hg1 hrd).mono ?_
  rintro e w' ⟨F, cap, B2, c2, wf, rfl, ho, ho2, hb, rfl⟩
  have hF := own_base ho F rfl
  have hB2 := own_base ho2 B2 rfl
  have hc1 : Ch b w col wf (colN col w.heap.size fun _ => .rm) isM := Ch.of_new hb hbw _
  have htG : (colN col w.heap.size fun _ => .rm) G = .rm := (colN_lt hgl).trans hgt
  have hGf : wf.heap[G]? = _ := (hb.block G hgl).trans hG
  have hc2 := hc1.set (p := ⟨G, 0 + 1, none⟩) hbG htG (.slice (some ⟨B2, 0, none⟩) 1 c2)
  have hm : ∀ k, k ≠ G → (wf.setCell ⟨G, 1, none⟩ (.slice (some ⟨B2, 0, none⟩) 1 c2)).heap[k]? = wf.heap[k]? := fun k hk => Below.heap_setCell wf _ _ k hk
  have hoF := own_move (own_lower ho hbw) (fun k hk => hm k (by cases hk; simp only; omega))
  refine ⟨F, _, _, rfl, hc2, ⟨B2, c2, F, cap, rfl, own_move (own_lower ho2 hbw) (fun k hk => hm k (by cases hk; simp only; omega)), hoF, colN_ge hB2, colN_ge hF⟩, blk_set hGf 1 _, hF, ?_, colN_ge hF⟩
  have hl : (xs ++ marksL 40).length = xs.length + 40 := by rw [List.length_append, marksL_len]
  rw [hl] at hoF
  have hoT := own_take (m := xs.length) hoF (by omega)
  rw [Nat.mul_one, show (nums .i64 (xs ++ marksL 40)).take xs.length = nums .i64 xs by
    unfold nums; rw [List.map_append, List.take_left' (List.length_map _)]] at hoT
  exact own_reads' hoT
end Go.Proofs.Ytmpgldggjjmkmaa.PA
