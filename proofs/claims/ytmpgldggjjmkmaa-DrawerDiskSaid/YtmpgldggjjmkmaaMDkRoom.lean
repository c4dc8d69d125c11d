/- The room's Bytes walked: a copy of a list of bytes with six hundred marks behind it. Condition: the list is one that can be. -/
import Derived.Test.YtmpgldggjjmkmaaMDkPapp
import Derived.Maps.AppendAt
import Derived.Test.YtmpgldggjjmkmaaML
namespace Go.Proofs.Ytmpgldggjjmkmaa.PA
open Go.RowKit Go.Maps Go.Proofs.YtmpgldggjjmkmaaW.PrintWords Go.Proofs.YtmpgldggjjmkmaaW.PrintLast Go.Proofs.YtmpgldggjjmkmaaW.PrintMore
set_option linter.unusedVariables false
set_option linter.unusedSimpArgs false
def markB (k : Nat) : Int := if k % 2 = 0 then 165 else 90
def marksB (n : Nat) : List Int := (List.range n).map markB
theorem marksB_len (n : Nat) : (marksB n).length = n := by simp [marksB]
theorem marksB_two (j : Nat) : marksB (2 * j + 2) = marksB (2 * j) ++ [165, 90] := by
  unfold marksB
  rw [List.range_succ, List.range_succ]
  simp only [List.map_append, List.map_cons, List.map_nil, List.append_assoc, List.cons_append, List.nil_append]
  have h1 : markB (2 * j) = 165 := by unfold markB; rw [if_pos (by omega)]
  have h2 : markB (2 * j + 1) = 90 := by unfold markB; rw [if_neg (by omega)]
  rw [h1, h2]
def isM : Role → Prop := fun r => r = .rm
structure RmB (b : Nat) (W : World) (col : RCol) (v0 : Value) (BL : List (Value × List Int)) : Prop where
  own : W.ownsRow b 34 1 v0 BL.length (BL.map (·.1))
  tag : ∀ k, v0.ownBlock = some k → col k = .rm
  rows : ∀ p ∈ BL, ∃ F cap, p.1 = .slice (some ⟨F, 0, none⟩) (p.2.length + 600) cap ∧ W.ownsRow b 5 1 p.1 (p.2.length + 600) (nums .u8 (p.2 ++ marksB 600)) ∧ col F = .rm
theorem RmB.nil (b : Nat) (W : World) (col : RCol) : RmB b W col (.slice none 0 0) [] := ⟨own_nil _ _ _ _, fun k hk => by simp [Value.ownBlock] at hk, fun p hp => by cases hp⟩
theorem RmB.ch {b : Nat} {W W' : World} {col col' : RCol} {S : Role → Prop} {v0 : Value} {BL : List (Value × List Int)} (h : RmB b W col v0 BL) (m : Ch b W col W' col' S) (hS : ¬ S .rm) : RmB b W' col' v0 BL := by
  refine ⟨own_move h.own fun k hk => m.block k (own_lt h.own k hk) (by rw [h.tag k hk]; exact hS), fun k hk => (m.same k (own_lt h.own k hk)).trans (h.tag k hk), fun p hp => ?_⟩
  obtain ⟨F, cap, e, ho, ht⟩ := h.rows p hp
  have hF : p.1.ownBlock = some F := by rw [e]; rfl
  refine ⟨F, cap, e, own_move ho fun k hk => ?_, (m.same F (own_lt ho F hF)).trans ht⟩
  rw [hF] at hk
  injection hk with hk
  subst hk
  exact m.block F (own_lt ho F hF) (by rw [ht]; exact hS)
theorem infoRB : (Try.prog.info? 34).map (fun i => (i.zero, i.size, i.bytes)) = some (some (.slice none 0 0), 1, 24) := by kernel_rfl
theorem own_form2 {W : World} {base n size : Nat} {e : TypeId} {v : Value} {xs : List Value} (h : W.ownsRow base e size v n xs) (hn : 0 < n) : ∃ g cap, v = .slice (some ⟨g, 0, none⟩) n cap := by
  rcases h.2 with ⟨_, h0⟩ | ⟨g, cap, cur, e1, _⟩
  · omega
  · exact ⟨g, cap, e1⟩
section
variable {P : Program} {ops : Array Oper} {rest : List Oper} {o : Oper} {a : Act} {Q : Exit → Act → World → Prop}
theorem append_twoB {w0 W : World} (base : Nat) (hgd : o.guard = none) (s x : Operand) (t e : TypeId) (y z : Int)
    (ho : o.op = .call { callee := .builtin .append, args := #[s, x], argTypes := #[t, t] })
    (ht : P.underlying t = some (.slice e)) (hinfo : (P.info? e).map (fun i => (i.zero, i.size, i.bytes)) = some (some (.int .u8 0), 1, 1))
    (v : Value) (n : Nat) (xs : List Int) (hn : xs.length = n) (hs : a.eval s = v) (hx : a.eval x = .slice (some ⟨W.heap.size, 0, none⟩) 2 2)
    (HO : W.ownsRow base e 1 v n (nums .u8 xs)) (HB : Below base w0 W) (hbase : base ≤ W.heap.size) (hl : n + 2 ≤ 140737488355328)
    (h : ∀ v1 w1, w1.ownsRow base e 1 v1 (n + 2) (nums .u8 (xs ++ [y, z])) → Below base w0 w1 → wpList P ops Q rest (a.put o.dst v1) w1) :
    wpList P ops Q (o :: rest) a (W.alloc (.cells #[.int .u8 y, .int .u8 z] e)) := by
  obtain ⟨i0, hi, hzz⟩ := Option.map_eq_some_iff.1 hinfo
  simp only [Prod.mk.injEq] at hzz
  obtain ⟨hz0, hz1, hz2⟩ := hzz
  refine wpList_append_own_at (W.alloc (.cells #[.int .u8 y, .int .u8 z] e)) hgd s x t ho base e i0 _ 1 1 ht hi hz0 hz1 hz2 rfl (by omega) v n (nums .u8 xs) hs (HO.alloc _) ⟨W.heap.size, 0, none⟩ 2 2 [.int .u8 y, .int .u8 z] hx rfl
    (World.news_of_block (cs := #[.int .u8 y, .int .u8 z]) (t := e) (fr := (0, 0)) (heap_alloc_new W _)) (by simp [Value.oneCell']) (by simp only [maxLen]; omega) (by omega) (by simp; omega) ?_
  intro v1 w1 hown1 hg1 _ _
  exact h v1 w1 (by simpa [nums] using hown1) ((HB.alloc hbase _).grown hg1 (by simp; omega) (own_base HO))
end
set_option maxRecDepth 100000 in
set_option maxHeartbeats 4000000 in
theorem room_bytes (b G : Nat) (cg : Array Value) (v0 : Value) (BL : List (Value × List Int)) (col : RCol) (A : Option Addr) (c : Nat) (xs : List Int) (w : World) (hN : xs.length ≤ 140737488351232) (hBL : BL.length ≤ 5864062014000) (hG : w.heap[G]? = some (.cells cg 65 (0, 0))) (hgt : col G = .rm) (hbG : b ≤ G)
    (hg0 : cg[0]? = some v0) (hR : RmB b w col v0 BL) (hrd : ReadsInt w .u8 A xs.length xs) :
    Calls Try.prog 13 #[.pointer (some ⟨G, 0, none⟩), .slice A xs.length c] w fun e w' => ∃ F cap v1 col', e = .returned (.slice (some ⟨F, 0, none⟩) xs.length (xs.length + 600)) ∧
      Ch b w col w' col' isM ∧ RmB b w' col' v1 (BL ++ [(.slice (some ⟨F, 0, none⟩) (xs.length + 600) cap, xs)]) ∧ w'.heap[G]? = some (.cells (cg.setIfInBounds 0 v1) 65 (0, 0)) ∧ w.heap.size ≤ F := by
  have HN := Aside0.mk hN
  have HG := Aside0.mk hG
  have HRD := Aside0.mk hrd
  have hgl := blk_lt hG
  have hbw : b ≤ w.heap.size := Nat.le_trans hbG (Nat.le_of_lt hgl)
  have HR := Aside0.mk hR
  have HBW := Aside0.mk hbw
  have HL := Aside0.mk hBL
  have HCG : Aside0 (∀ W, Below w.heap.size w W → W.cell? ⟨G, 0, none⟩ = some v0 ∧ W.frozen? ⟨G, 0, none⟩ = false) := ⟨fun W h => ⟨(h.cell (p := ⟨G, 0, none⟩) hgl).trans ((blk_cell hG 0).trans hg0), blk_frozen ((h.block G hgl).trans hG) 0⟩⟩
  have HFin : Aside0 (∀ W F cap v1 W1, Below w.heap.size w W → w.heap.size ≤ F → W.ownsRow w.heap.size 5 1 (.slice (some ⟨F, 0, none⟩) (xs.length + 600) cap) (xs.length + 600) (nums .u8 (xs ++ marksB 600)) → W.grownBy W1 v0.ownBlock → (v1.ownBlock = v0.ownBlock ∨ ∃ k, v1.ownBlock = some k ∧ W.heap.size ≤ k) →
      W1.ownsRow b 34 1 v1 (BL.length + 1) (BL.map (·.1) ++ [.slice (some ⟨F, 0, none⟩) (xs.length + 600) cap]) → ∃ col', Ch b w col (W1.setCell ⟨G, 0, none⟩ v1) col' isM ∧ RmB b (W1.setCell ⟨G, 0, none⟩ v1) col' v1 (BL ++ [(.slice (some ⟨F, 0, none⟩) (xs.length + 600) cap, xs)]) ∧ (W1.setCell ⟨G, 0, none⟩ v1).heap[G]? = some (.cells (cg.setIfInBounds 0 v1) 65 (0, 0)) ∧ w.heap.size ≤ F) := ⟨fun W F cap v1 W1 hB hF hrow hg hat ho => by
    have hc1 : Ch b w col W (colN col w.heap.size fun _ => .rm) (fun _ => False) := Ch.of_new hB hbw _
    have hbW := hc1.le'
    have hc2 : Ch b W (colN col w.heap.size fun _ => .rm) W1 (colN col w.heap.size fun _ => .rm) isM := ⟨(Below.refl b W).grown hg hbW (fun j hj => own_base hR.own j hj), hbW, fun _ _ => rfl, fun k hk hn => hg.block k hk (fun e => hn (by
      have e' : v0.ownBlock = some k := e.symm
      rw [colN_lt (own_lt hR.own k e')]
      exact hR.tag k e'))⟩
    have hnG : ∀ k, v0.ownBlock = some k → k ≠ G := fun k hk e => own_ne hR.own hG (by decide) (by rw [hk, e])
    have hGW : W.heap[G]? = _ := (hB.block G hgl).trans hG
    have hGW1 : W1.heap[G]? = _ := (hg.block G (blk_lt hGW) (fun e => hnG G e.symm rfl)).trans hGW
    have htG : (colN col w.heap.size fun _ => .rm) G = .rm := (colN_lt hgl).trans hgt
    have hc3 := hc2.set (p := ⟨G, 0, none⟩) hbG htG v1
    refine ⟨colN col w.heap.size fun _ => .rm, (hc1.mono fun _ h => h.elim).trans hc3, ⟨?_, ?_, ?_⟩, blk_set hGW1 0 v1, hF⟩
    · rw [List.length_append, List.map_append]
      refine own_move ho fun k hk => Below.heap_setCell W1 _ v1 k (fun e => ?_)
      have e' : k = G := e
      rcases hat with e2 | ⟨q, e2, hq⟩
      · exact hnG k (by rw [← e2]; exact hk) e'
      · rw [e2] at hk; injection hk with hk; have := blk_lt hGW; omega
    · intro k hk
      rcases hat with e2 | ⟨q, e2, hq⟩
      · rw [e2] at hk
        exact (colN_lt (own_lt hR.own k hk)).trans (hR.tag k hk)
      · rw [e2] at hk; injection hk with hk
        exact colN_ge (by have := hB.size; omega)
    · have hkeep : ∀ (k : Nat) (cs : Array Value), W.heap[k]? = some (.cells cs 5 (0, 0)) → (W1.setCell ⟨G, 0, none⟩ v1).heap[k]? = some (.cells cs 5 (0, 0)) := fun k cs h => by
        have hk1 : k ≠ G := fun e => by rw [e, hGW] at h; injection h with h; injection h with _ h; exact absurd h (by decide)
        have hk2 : v0.ownBlock ≠ some k := fun e => by
          have hRW := own_move hR.own (fun k hk => hB.block _ (own_lt hR.own k hk))
          obtain ⟨cs2, h2⟩ := own_typed hRW k e
          rw [h] at h2; injection h2 with h2; injection h2 with _ h2; exact absurd h2 (by decide)
        exact (Below.heap_setCell W1 _ v1 k hk1).trans ((hg.block k (blk_lt h) (fun e => hk2 e.symm)).trans h)
      intro p hp
      rw [List.mem_append, List.mem_singleton] at hp
      rcases hp with hp | rfl
      · obtain ⟨F1, cap1, e1, ho1, ht1⟩ := hR.rows p hp
        have hF1 : p.1.ownBlock = some F1 := by rw [e1]; rfl
        have hoW := own_move ho1 (fun k hk => hB.block _ (own_lt ho1 k hk))
        refine ⟨F1, cap1, e1, own_move hoW fun k hk => ?_, (colN_lt (own_lt ho1 F1 hF1)).trans ht1⟩
        obtain ⟨cs, hcs⟩ := own_typed hoW k hk
        rw [hkeep k cs hcs, hcs]
      · refine ⟨F, cap, rfl, own_move (own_lower hrow hbw) fun k hk => ?_, colN_ge hF⟩
        obtain ⟨cs, hcs⟩ := own_typed hrow k hk
        rw [hkeep k cs hcs, hcs]⟩
  have HGo : Aside0 (∀ W W1, Below w.heap.size w W → W.grownBy W1 v0.ownBlock → W1.cell? ⟨G, 0, none⟩ = some v0 ∧ W1.frozen? ⟨G, 0, none⟩ = false) := ⟨fun W W1 hB hg => by
    have hGW : W.heap[G]? = _ := (hB.block G hgl).trans hG
    have hGW1 : W1.heap[G]? = _ := (hg.block G (blk_lt hGW) (own_ne hR.own hG (by decide))).trans hGW
    exact ⟨(blk_cell hGW1 0).trans hg0, blk_frozen hGW1 0⟩⟩
  clear hN hG hg0 hR hrd hBL
  go_enter Try.func13, Try.ntmps13
  go_wp2
  have ho0 : (w.alloc (.cells #[] 5)).ownsRow w.heap.size 5 1 (.slice (some ⟨w.heap.size, 0, none⟩) 0 0) 0 (nums .u8 []) := World.ownsRow_made w #[] 0 (Nat.le_refl _) (by simp [maxLen]) rfl
  have hb0 := below_alloc (Below.refl w.heap.size w) (.cells #[] 5)
  go_loopw [5, 6] (fun v5 v6 wr => ∃ (F cap i : Nat), i ≤ xs.length ∧ v5 = .slice (some ⟨F, 0, none⟩) i cap ∧ v6 = .int .i64 i ∧ Hid (wr.ownsRow w.heap.size 5 1 (.slice (some ⟨F, 0, none⟩) i cap) i (nums .u8 (xs.take i))) ∧ Hid (Below w.heap.size w wr)) (fun _ v6 _ => xs.length - (intOf v6).toNat)
  case atStart => exact ⟨_, _, 0, by omega, rfl, rfl, ho0, hb0⟩
  case round =>
    clear ho0 hb0
    obtain ⟨F, cap, i, hi, rfl, rfl, ho, hb⟩ := hrel
    by_cases h1 : i < xs.length
    · obtain ⟨ad, hA, x0⟩ := (HRD.out.below hb.out).at_ (i : Int) (by omega) (by omega)
      subst hA
      rw [Int.toNat_natCast] at x0
      have hrdx : rd xs (i : Int) = xs.getD i 0 := by unfold rd; rw [Int.toNat_natCast]
      have cin : (i : Int) < (xs.length : Int) := by omega
      have HK3 : Aside0 (wrap64 ((i : Int) + 1) = ((i : Int) + 1)) := ⟨PA.wr (by have := HN.out; omega) (by have := HN.out; omega)⟩
      have HEQ := Aside0.mk (congrArg (Value.int .i64) (show wrap64 ((i : Int) + 1) = ((i + 1 : Nat) : Int) from HK3.out))
      have HMS := Aside0.mk (meas_lt h1 HK3.out)
      have HEQ2 := Aside0.mk (show Value.int .i64 ((i : Int) + 1) = Value.int .i64 ((i + 1 : Nat) : Int) from rfl)
      have HMS2 := Aside0.mk (meas_lt2 h1)
      have H1 := Aside0.mk (Nat.succ_le_of_lt h1)
      obtain ⟨ts, hts⟩ : ∃ ts, ts = xs.take i := ⟨_, rfl⟩
      have HTl : Aside0 (ts.length = i) := ⟨by rw [hts, List.length_take]; omega⟩
      have HTn : Aside0 (ts ++ [rd xs (i : Int)] = xs.take (i + 1)) := ⟨by rw [hts, hrdx, List.take_add_one, List.getD_eq_getElem?_getD, List.getElem?_eq_getElem h1]; rfl⟩
      have HO := Aside0.mk (show wr.ownsRow w.heap.size 5 1 (.slice (some ⟨F, 0, none⟩) i cap) ts.length (nums .u8 ts) by rw [HTl.out, hts]; exact ho.out)
      have hlx : xs.length ≤ 140737488351232 := HN.out
      clear hrdx hts ho h1 hi
      go_wp2_with ((with_reducible refine gate_builtin (b := .append) (xs := #[.tmp 15, .tmp 20]) rfl ?_); at_builtin; refine print_append_num (w0 := w) w.heap.size rfl (.tmp 15) (.tmp 20) 34 5 .u8 1 rfl Try.underlying34 infoB (by decide) _ ts (rd xs (i : Int)) rfl rfl HO.out hb.out hb.out.size (by have := HN.out; have := HTl.out; have := H1.out; omega) ?_; intro v1 w1 ho1 hb1 _ _; rw [HTn.out] at ho1; rw [show (xs.take (i + 1)).length = i + 1 by (rw [List.length_take]; have := H1.out; omega)] at ho1; obtain ⟨F1, cap1, rfl⟩ := own_form2 ho1 (by omega); have HO1 := Aside0.mk ho1; have HB1 := Aside0.mk hb1; clear ho1 hb1)
      exact ⟨⟨F1, cap1, i + 1, H1.out, rfl, by first | exact HEQ.out | exact HEQ2.out, HO1.out, HB1.out⟩, by first | exact HMS.out | exact HMS2.out⟩
    · obtain rfl : i = xs.length := by omega
      have k5 : decide (xs.length < xs.length) = false := decide_eq_false h1
      have HO := Aside0.mk (show wr.ownsRow w.heap.size 5 1 (.slice (some ⟨F, 0, none⟩) xs.length cap) xs.length (nums .u8 xs) by have := ho.out; rwa [List.take_length] at this)
      have HB := Aside0.mk hb.out
      clear ho hb h1 hi
      go_wp2
      go_loopw [5, 7] (fun v5 v7 wr2 => ∃ F cap j : Nat, j ≤ 300 ∧ v5 = .slice (some ⟨F, 0, none⟩) (xs.length + 2 * j) cap ∧ v7 = .int .i64 (2 * (j : Int)) ∧ Hid (wr2.ownsRow w.heap.size 5 1 (.slice (some ⟨F, 0, none⟩) (xs.length + 2 * j) cap) (xs.length + 2 * j) (nums .u8 (xs ++ marksB (2 * j)))) ∧ Hid (Below w.heap.size w wr2)) (fun _ v7 _ => 600 - (intOf v7).toNat)
      case atStart => exact ⟨F, cap, 0, by omega, rfl, rfl, show _ from (by simpa [marksB] using HO.out : wr.ownsRow w.heap.size 5 1 (.slice (some ⟨F, 0, none⟩) (xs.length + 2 * 0) cap) (xs.length + 2 * 0) (nums .u8 (xs ++ marksB (2 * 0)))), HB.out⟩
      case round =>
        clear HO HB
        obtain ⟨F, cap, j, hj, rfl, rfl, ho, hb⟩ := hrel
        by_cases h20 : j < 300
        · have c40 : 2 * (j : Int) < 600 := by omega
          have HW2 : Aside0 (wrap64 (2 * (j : Int) + 2) = 2 * (j : Int) + 2) := ⟨PA.wr (by omega) (by omega)⟩
          have hjj : j < 300 := h20
          go_wp2_with ((with_reducible refine gate_builtin (b := .append) (xs := #[.tmp 26, .tmp 27]) rfl ?_); at_builtin; refine append_twoB (w0 := w) w.heap.size rfl (.tmp 26) (.tmp 27) 34 5 165 90 rfl Try.underlying34 infoB _ (xs.length + 2 * j) (xs ++ marksB (2 * j)) (by rw [List.length_append, marksB_len]) rfl rfl ho.out hb.out hb.out.size (by have := HN.out; omega) ?_; intro v1 w1 ho1 hb1; obtain ⟨F1, cap1, rfl⟩ := own_form2 ho1 (by omega); have HO1 := Aside0.mk ho1; have HB1 := Aside0.mk hb1; clear ho1 hb1)
          have HO2 : w1.ownsRow w.heap.size 5 1 (.slice (some ⟨F1, 0, none⟩) (xs.length + 2 * (j + 1)) cap1) (xs.length + 2 * (j + 1)) (nums .u8 (xs ++ marksB (2 * (j + 1)))) := by
            rw [show 2 * (j + 1) = 2 * j + 2 by omega, marksB_two, ← List.append_assoc]
            exact HO1.out
          exact ⟨⟨F1, cap1, j + 1, by omega, rfl, congrArg (Value.int .i64) (by first | (rw [HW2.out]; omega) | omega), HO2, HB1.out⟩, by first | (rw [HW2.out]; simp only [intOf]; omega) | (simp only [intOf]; omega)⟩
        · obtain rfl : j = 300 := by omega
          have HOF := Aside0.mk ho.out
          have HBF := Aside0.mk hb.out
          have hcap0 := own_cap ho.out
          have hFb := own_base ho.out F rfl
          have HFb := Aside0.mk hFb
          have hcap : xs.length + 600 ≤ cap := by omega
          have hcapI : (xs.length : Int) + 600 ≤ (cap : Int) := by omega
          have hx0 : (0 : Int) ≤ (xs.length : Int) + 600 := by omega
          have hR2 := HR.out.ch (Ch.of_below (S := fun _ => False) hb.out HBW.out) (fun h => h)
          have HR2 := Aside0.mk hR2
          obtain ⟨cG, fG⟩ := HCG.out _ hb.out
          obtain ⟨A0, C0, hv0, _, _⟩ := own_form hR2.own
          subst hv0
          clear ho hb hcap0 hFb hR2
          go_wp2_with ((with_reducible refine gate_builtin (b := .append) (xs := #[.tmp 33, .tmp 35]) rfl ?_); at_builtin; refine print_append (w0 := wr) (W := wr) b rfl (.tmp 33) (.tmp 35) 43 34 (.slice none 0 0) 24 rfl Try.underlying43 infoRB rfl (by decide) _ (BL.map (·.1)) (.slice (some ⟨F, 0, none⟩) (xs.length + 2 * 300) cap) rfl rfl rfl ?aO (Below.refl _ _) (Nat.le_trans HBW.out HBF.out.size) ?aL ?_; (case aO => rw [List.length_map]; exact HR2.out.own); (case aL => have := HL.out; rw [List.length_map]; omega); intro v1 w1 ho1 hb1 hg1 hat1; rw [List.length_append, List.length_map] at ho1; obtain ⟨A1, C1, rfl, _⟩ := own_form ho1; obtain ⟨cG1, fG1⟩ := HGo.out _ w1 HBF.out hg1; have HO1 := Aside0.mk ho1; have HG1 := Aside0.mk hg1; have HAt := Aside0.mk hat1; clear ho1 hb1 hg1 hat1)
          go_ret
          obtain ⟨col', q1, q2, q3, q4⟩ := HFin.out wr F cap _ w1 HBF.out HFb.out HOF.out HG1.out HAt.out HO1.out
          exact ⟨F, cap, _, col', rfl, q1, q2, q3, q4⟩
end Go.Proofs.Ytmpgldggjjmkmaa.PA
