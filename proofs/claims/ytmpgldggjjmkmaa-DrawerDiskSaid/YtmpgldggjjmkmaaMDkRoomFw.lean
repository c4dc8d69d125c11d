/- The room's Files walked: a copy of a list of files, every list with its marks. Condition: the list is one that can be. -/
import Derived.Test.YtmpgldggjjmkmaaMDkRoomF
import Derived.Maps.AppendAt
import Derived.Test.YtmpgldggjjmkmaaML
namespace Go.Proofs.Ytmpgldggjjmkmaa.PA
open Go.RowKit Go.Maps Go.Proofs.YtmpgldggjjmkmaaW.PrintWords Go.Proofs.YtmpgldggjjmkmaaW.PrintLast Go.Proofs.YtmpgldggjjmkmaaW.PrintMore
set_option linter.unusedVariables false
set_option linter.unusedSimpArgs false
theorem infoRF : (Try.prog.info? 22).map (fun i => (i.zero, i.size, i.bytes)) = some (some (.slice none 0 0), 1, 24) := by kernel_rfl
section
variable {P : Program} {ops : Array Oper} {rest : List Oper} {o : Oper} {a : Act} {Q : Exit → Act → World → Prop}
theorem append_twoF {w0 W : World} (base : Nat) (hgd : o.guard = none) (s x : Operand) (t e : TypeId) (cs : List Value) (hcs : cs.length = 6) (h1 : ∀ u ∈ cs, u.oneCell' = true)
    (ho : o.op = .call { callee := .builtin .append, args := #[s, x], argTypes := #[t, t] })
    (ht : P.underlying t = some (.slice e)) (hinfo : (P.info? e).map (fun i => (i.zero, i.size, i.bytes)) = some (some (.agg #[.string ⟨#[]⟩, .slice none 0 0, .int .i64 0]), 3, 48))
    (v : Value) (n : Nat) (xs : List Value) (hs : a.eval s = v) (hx : a.eval x = .slice (some ⟨W.heap.size, 0, none⟩) 2 2)
    (HO : W.ownsRow base e 3 v n xs) (HB : Below base w0 W) (hbase : base ≤ W.heap.size) (hl : (n + 2) * 48 ≤ 140737488355328)
    (h : ∀ v1 w1, w1.ownsRow base e 3 v1 (n + 2) (xs ++ cs) → Below base w0 w1 → W.grownBy w1 v.ownBlock → (v1.ownBlock = v.ownBlock ∨ ∃ k, v1.ownBlock = some k ∧ W.heap.size ≤ k) → wpList P ops Q rest (a.put o.dst v1) w1) :
    wpList P ops Q (o :: rest) a (W.alloc (.cells cs.toArray e)) := by
  obtain ⟨i0, hi, hzz⟩ := Option.map_eq_some_iff.1 hinfo
  simp only [Prod.mk.injEq] at hzz
  obtain ⟨hz0, hz1, hz2⟩ := hzz
  have hg0 := World.grownBy_alloc W (.cells cs.toArray e) v.ownBlock
  refine wpList_append_own_at (W.alloc (.cells cs.toArray e)) hgd s x t ho base e i0 _ 3 48 ht hi hz0 hz1 hz2 rfl (by omega) v n xs hs (HO.alloc _) ⟨W.heap.size, 0, none⟩ 2 2 cs hx (by rw [hcs])
    (by simpa using World.news_of_block (cs := cs.toArray) (t := e) (fr := (0, 0)) (heap_alloc_new W _)) h1 (by simp only [maxLen]; omega) hl (by simp; omega) ?_
  intro v1 w1 hown1 hg1 _ hat
  refine h v1 w1 hown1 ((HB.alloc hbase _).grown hg1 (by simp; omega) (own_base HO)) (hg0.trans hg1) ?_
  rcases hat with e1 | e1
  · exact .inl e1
  · exact .inr ⟨_, e1, by simp⟩
end
theorem set_first {cg : Array Value} {u : Value} (h : cg[0]? = some u) (v : Value) : (cg.setIfInBounds 0 v)[0]? = some v := by
  rw [Array.getElem?_setIfInBounds, if_pos rfl, if_pos]
  exact (Array.getElem?_eq_some_iff.1 h).1
theorem set_other13 {cg : Array Value} {u : Value} (h : cg[13]? = some u) (v : Value) : (cg.setIfInBounds 0 v)[13]? = some u := by
  rw [Array.getElem?_setIfInBounds, if_neg (by decide)]; exact h
theorem below_of_none {W W1 : World} (h : W.grownBy W1 none) : Below W.heap.size W W1 := (Below.refl _ W).grown h (Nat.le_refl _) (fun j hj => by cases hj)
theorem FsI.moved {b : Nat} {w wr w3 : World} {col col' col1 : RCol} {G : Nat} {cg : Array Value} {fs : List Fl} {i : Nat} {v5 v0 : Value} {M : List (Fl × Value)} {BL : List (Value × List Int)} (h : FsI b w col wr col' G cg fs i 0 v5 v0 M BL) (hc : Ch b wr col' w3 col1 isM) : w3.ownsRow w.heap.size 74 3 v5 i (flatL M) :=
  own_move h.own0 fun k hk => hc.block k (own_lt h.own0 k hk) (by rw [h.tag k hk]; exact fun h => by cases h)
set_option maxRecDepth 100000 in
set_option maxHeartbeats 4000000 in
theorem room_files (b G : Nat) (cg : Array Value) (col : RCol) (A : Option Addr) (c : Nat) (fs : List Fl) (w0 w : World) (hw0 : Below b w0 w) (hb0 : b = w0.heap.size) (hK : Kd.C k74 w0 A fs.length fs) (hN : ∀ f ∈ fs, f.f1.length ≤ 140737488351232) (hfl : fs.length * 48 ≤ 140737488351232)
    (hG : w.heap[G]? = some (.cells cg 65 (0, 0))) (hgt : col G = .rm) (hbG : b ≤ G) (hg0 : cg[0]? = some (.slice none 0 0)) (hg13 : cg[13]? = some (.slice none 0 0)) :
    Calls Try.prog 9 #[.pointer (some ⟨G, 0, none⟩), .slice A fs.length c] w fun e w' => FsPost b w col G cg fs e w' := by
  have hgl := blk_lt hG
  have hbw : b ≤ w.heap.size := Nat.le_trans hbG (Nat.le_of_lt hgl)
  have hIn : ∀ (i : Nat) (f : Fl), fs[i]? = some f → ∃ ad Ab cb, A = some ad ∧ ∀ W, Below b w0 W → (W.cell? (ad.add (i * 3)) = some (.string f.f0) ∧ W.cell? ⟨(ad.add (i * 3)).block, (ad.add (i * 3)).off + 1, none⟩ = some (.slice Ab f.f1.length cb) ∧ W.cell? ⟨(ad.add (i * 3)).block, (ad.add (i * 3)).off + 2, none⟩ = some (.int .i64 f.f2)) ∧ ReadsInt W .u8 Ab f.f1.length f.f1 := fun i f hf => by
    obtain ⟨ad, Ab, cb, hA, x0, x1, x2, _, hr⟩ := in_reads hK hf w0 (Below.refl _ _)
    have l0 := World.block_lt_of_cell? _ _ x0
    have l1 := World.block_lt_of_cell? _ _ x1
    have l2 := World.block_lt_of_cell? _ _ x2
    subst hb0
    exact ⟨ad, Ab, cb, hA, fun W hB => ⟨⟨(hB.cell l0).trans x0, (hB.cell l1).trans x1, (hB.cell l2).trans x2⟩, hr.below hB⟩⟩
  have hcg : cg.setIfInBounds 0 (.slice none 0 0) = cg := by
    apply Array.ext_getElem?
    intro j
    rw [Array.getElem?_setIfInBounds]
    split
    · rename_i h
      subst h
      rw [hg0]
      split
      · rfl
      · rename_i h2
        rw [Array.getElem?_eq_none (by omega)] at hg0
        cases hg0
    · rfl
  have hI0 : FsI b w col (w.alloc (.cells #[] 74)) (colN col w.heap.size fun _ => .tm) G cg fs 0 0 (.slice (some ⟨w.heap.size, 0, none⟩) 0 0) (.slice none 0 0) [] [] := by
    have hb1 := below_alloc (Below.refl w.heap.size w) (.cells #[] 74)
    exact ⟨rfl, rfl, World.ownsRow_made w #[] 0 (Nat.le_refl _) (by simp [maxLen]) rfl, fun k hk => by cases hk; exact colN_ge (Nat.le_refl _), RmB.nil _ _ _, rfl, fun j p hp => by simp at hp, by rw [hcg]; exact (hb1.block G hgl).trans hG, (colN_lt hgl).trans hgt, Ch.of_new hb1 hbw _⟩
  have HIN := Aside0.mk hIn
  have HN := Aside0.mk hN
  have HFL := Aside0.mk hfl
  have HW0 := Aside0.mk hw0
  have HI0 := Aside0.mk hI0
  have HGL := Aside0.mk hgl
  have HBG := Aside0.mk hbG
  have HG13 := Aside0.mk hg13
  have HG0 := Aside0.mk hg0
  clear hIn hN hfl hw0 hI0 hK hG hgt hg0 hcg hgl hbw hb0 hbG hg13
  go_enter Try.func9, Try.ntmps9
  go_wp2
  go_loopw [5, 6] (fun v5 v6 wr => ∃ (i : Nat) (v0 : Value) (M : List (Fl × Value)) (BL : List (Value × List Int)) (col' : RCol), i ≤ fs.length ∧ v6 = .int .i64 i ∧ FsI b w col wr col' G cg fs i 0 v5 v0 M BL) (fun _ v6 _ => fs.length - (intOf v6).toNat)
  case atStart => exact ⟨0, _, _, _, _, by omega, rfl, HI0.out⟩
  case round =>
    clear HI0
    obtain ⟨i, v0, M, BL, col', hi, rfl, hI⟩ := hrel
    obtain ⟨A5, C5, rfl, _⟩ := own_form hI.own0
    by_cases h1 : i < fs.length
    · obtain ⟨f, hf⟩ : ∃ f, fs[i]? = some f := ⟨_, List.getElem?_eq_getElem h1⟩
      obtain ⟨ad, Ab, cb, rfl, hin⟩ := HIN.out i f hf
      obtain ⟨⟨x0, x1, x2⟩, hr⟩ := hin _ (HW0.out.trans hI.ch.below)
      have HCells := Aside0.mk (fun W hB => (hin W hB).1)
      have k2 : (i : Int) < (fs.length : Int) := by omega
      have hfl1 : f.f1.length ≤ 140737488351232 := HN.out f (List.mem_of_getElem? hf)
      have HK3 : Aside0 (wrap64 ((i : Int) + 1) = ((i : Int) + 1)) := ⟨PA.wr (by omega) (by have := HFL.out; omega)⟩
      have H1 := Aside0.mk (Nat.succ_le_of_lt h1)
      have HEQ := Aside0.mk (congrArg (Value.int .i64) (show wrap64 ((i : Int) + 1) = ((i + 1 : Nat) : Int) from HK3.out))
      have HMS := Aside0.mk (meas_lt h1 HK3.out)
      have HEQ2 := Aside0.mk (show Value.int .i64 ((i : Int) + 1) = Value.int .i64 ((i + 1 : Nat) : Int) from rfl)
      have HMS2 := Aside0.mk (meas_lt2 h1)
      have HI := Aside0.mk hI
      have HZ : Aside0 ((cg.setIfInBounds 0 v0)[0]? = some v0) := ⟨set_first HG0.out v0⟩
      have HR := Aside0.mk hr
      have HF1 := Aside0.mk hfl1
      have HF := Aside0.mk hf
      have HH := Aside0.mk h1
      have HLen : Aside0 ((i + 1) * 48 ≤ 140737488355328) := ⟨by have := HFL.out; omega⟩
      clear hf h1 hi hI hr hfl1 hin
      go_upto_region 4 with fail
      go_region_held3 (fun w' => w'.cell? (ad.add (i * 3)) = some (.string f.f0) ∧ w'.cell? ⟨(ad.add (i * 3)).block, (ad.add (i * 3)).off + 1, none⟩ = some (.slice Ab f.f1.length cb) ∧ w'.cell? ⟨(ad.add (i * 3)).block, (ad.add (i * 3)).off + 2, none⟩ = some (.int .i64 f.f2))
        (first | go_keep | exact HCells.out _ HB3.out | exact HCells.out _ (HB3.out.alloc (Nat.le_trans HI.out.ch.le' HCH3.out.size) _) | exact HCells.out _ HB5.out)
        (first
          | (go_at_call 13; refine Calls.mono (room_bytes b G (cg.setIfInBounds 0 v0) v0 BL col' Ab cb f.f1 wr.drew HF1.out (by rw [HI.out.len]; have := HFL.out; have := H1.out; omega) HI.out.blk HI.out.gtag HBG.out HZ.out (HI.out.go ((Drawn0.refl wr).step 1).below).rm HR.out) ?_; rintro e w3 ⟨F, cp, v1, col1, rfl, hch3, hrm3, hblk3, hF3⟩; have HCH3 := Aside0.mk ((Ch.of_below ((Drawn0.refl wr).step 1).below HI.out.ch.le').trans hch3); have HB3 := Aside0.mk (HW0.out.trans (HI.out.ch.below.trans HCH3.out.below)); have HOW3 := Aside0.mk (HI.out.moved HCH3.out); have HS3 := Aside0.mk (Nat.le_trans HI.out.ch.size HCH3.out.size); have HRM3 := Aside0.mk hrm3; have HBLK3 := Aside0.mk hblk3; clear hch3 hrm3 hblk3)
          | (refine step_append_cells (w0 := w3) (W := w3) w.heap.size (by rfl) (.tmp 15) (.tmp 34) 22 74 (.agg #[.string ⟨#[]⟩, .slice none 0 0, .int .i64 0]) 3 48 rfl Try.underlying22 infoF rfl (by decide) (by decide) _ i (flatL M) [.string f.f0, .slice (some ⟨F, 0, none⟩) f.f1.length (f.f1.length + 600), .int .i64 f.f2] rfl rfl rfl ?b1 ?b2 ?b3 ?b4 HLen.out ?_; (case b1 => intro u hu; simp only [List.mem_cons, List.not_mem_nil, or_false] at hu; rcases hu with rfl | rfl | rfl <;> rfl); (case b2 => exact HOW3.out); (case b3 => exact Below.refl _ _); (case b4 => exact HS3.out); intro v5 w5 ho5 hb5 hg5 hat5; obtain ⟨A6, C6, rfl, _⟩ := own_form ho5; have HI5 := Aside0.mk (HI.out.step HF.out HH.out HCH3.out HRM3.out HBLK3.out hg5 hat5 ho5); have HB5 := Aside0.mk (HW0.out.trans HI5.out.ch.below); clear ho5 hb5 hg5 hat5))
      go_wp2
      exact ⟨⟨i + 1, _, _, _, _, H1.out, by first | exact HEQ.out | exact HEQ2.out, HI5.out⟩, by first | exact HMS.out | exact HMS2.out⟩
    · obtain rfl : i = fs.length := by omega
      have k5 : decide (fs.length < fs.length) = false := decide_eq_false h1
      have HI := Aside0.mk hI
      clear h1 hi hI
      go_wp2
      go_loopw [5, 7] (fun v5 v7 wr2 => ∃ (j : Nat) (col2 : RCol) (F cap : Nat), j ≤ 20 ∧ v7 = .int .i64 (2 * (j : Int)) ∧ (v5 = .slice (some ⟨F, 0, none⟩) (fs.length + 2 * j) cap ∨ j = 0) ∧ FsI b w col wr2 col2 G cg fs fs.length (2 * j) v5 v0 M BL) (fun _ v7 _ => 40 - (intOf v7).toNat)
      case atStart => exact ⟨0, _, 0, 0, by omega, rfl, .inr rfl, HI.out⟩
      case round =>
        clear HI
        obtain ⟨j, col2, F, cap, hj, rfl, hv5, hI⟩ := hrel
        by_cases h20 : j < 20
        · have c40 : 2 * (j : Int) < 40 := by omega
          have HW2 : Aside0 (wrap64 (2 * (j : Int) + 2) = 2 * (j : Int) + 2) := ⟨PA.wr (by omega) (by omega)⟩
          have hjj : j < 20 := h20
          have HI := Aside0.mk hI
          have HLen : Aside0 ((fs.length + 2 * j + 2) * 48 ≤ 140737488355328) := ⟨by have := HFL.out; omega⟩
          clear hI hv5
          go_wp2_with ((with_reducible refine gate_builtin (b := .append) (xs := #[.tmp 40, .tmp 43]) rfl ?_); at_builtin; refine append_twoF (w0 := wr) w.heap.size rfl (.tmp 40) (.tmp 43) 22 74 [.string ⟨#[]⟩, .slice none 0 0, .int .i64 (-7701), .string ⟨#[]⟩, .slice none 0 0, .int .i64 (-7702)] rfl ?b1 rfl Try.underlying22 infoF _ (fs.length + 2 * j) (flatL (M ++ marksF (2 * j))) rfl rfl HI.out.own (Below.refl _ _) HI.out.ch.size HLen.out ?_; (case b1 => intro u hu; simp only [List.mem_cons, List.not_mem_nil, or_false] at hu; rcases hu with rfl | rfl | rfl | rfl | rfl | rfl <;> rfl); intro v1 w1 ho1 hb1 hg1 hat1; obtain ⟨F1, cap1, rfl⟩ := own_form2 ho1 (by omega); have HI1 := Aside0.mk (HI.out.mark hg1 hat1 ho1); clear ho1 hb1 hg1 hat1)
          exact ⟨⟨j + 1, _, F1, cap1, by omega, congrArg (Value.int .i64) (by first | (rw [HW2.out]; omega) | omega), .inl (by rw [show fs.length + 2 * j + 2 = fs.length + 2 * (j + 1) by omega]), HI1.out⟩, by first | (rw [HW2.out]; simp only [intOf]; omega) | (simp only [intOf]; omega)⟩
        · obtain rfl : j = 20 := by omega
          rcases hv5 with rfl | h
          · have HI := Aside0.mk hI
            have hcap0 := own_cap hI.own
            have hcap : fs.length + 40 ≤ cap := by omega
            have hcapI : (fs.length : Int) + 40 ≤ (cap : Int) := by omega
            have hx0 : (0 : Int) ≤ (fs.length : Int) + 40 := by omega
            have HS := Aside0.mk hI.ch.size
            have hGW : wr.cell? ⟨G, 13, none⟩ = some (.slice none 0 0) := (blk_cell hI.blk 13).trans (set_other13 HG13.out v0)
            have hcG : ∀ W, Below wr.heap.size wr W → W.cell? ⟨G, 13, none⟩ = some (.slice none 0 0) ∧ W.frozen? ⟨G, 13, none⟩ = false := fun W hB => ⟨(hB.cell (p := ⟨G, 13, none⟩) (blk_lt hI.blk)).trans hGW, blk_frozen ((hB.block G (blk_lt hI.blk)).trans hI.blk) 13⟩
            have HCG := Aside0.mk hcG
            clear hI hcap0 hcG
            go_wp2_with ((with_reducible refine gate_builtin (b := .append) (xs := #[.tmp 49, .tmp 51]) rfl ?_); at_builtin; refine print_append (w0 := wr) (W := wr) w.heap.size rfl (.tmp 49) (.tmp 51) 56 22 (.slice none 0 0) 24 rfl Try.underlying56 infoRF rfl (by decide) (.slice none 0 0) [] (.slice (some ⟨F, 0, none⟩) (fs.length + 2 * 20) cap) rfl rfl rfl ?aO (Below.refl _ _) HS.out ?aL ?_; (case aO => exact own_nil _ _ _ _); (case aL => decide); intro v1 w1 ho1 hb1 hg1 hat1; obtain ⟨A1, C1, rfl, _⟩ := own_form ho1; have HB1 := Aside0.mk (below_of_none hg1); obtain ⟨cG1, fG1⟩ := HCG.out w1 HB1.out; have HFR := Aside0.mk (HI.out.fin HGL.out HBG.out HB1.out ho1); clear ho1 hb1 hg1 hat1)
            go_ret
            exact ⟨F, cap, _, v0, M, BL, col2, rfl, HFR.out⟩
          · omega
end Go.Proofs.Ytmpgldggjjmkmaa.PA
