/- The book's growTokens, walked by hand: every list that was written is laid on behind its end, and stays as it is. Condition: the book is as KpSt has it. -/
import Derived.Test.YtjlclkenfmbahaaGreatDoorVK
import Derived.Test.YtjlclkenfmbahaaGreatDoorVScAll
import Derived.BigRegion
import Derived.RegionTactic
import Derived.BigQuiet
namespace Go.Proofs.YtjlclkenfmbahaaGreatDoor.PA
open Go.RowKit Go.Maps Go.Proofs.YtjlclkenfmbahaaGreatDoorW.PrintWords Go.Proofs.YtjlclkenfmbahaaGreatDoorW.PrintLast Go.Proofs.YtjlclkenfmbahaaGreatDoorW.PrintMore
set_option linter.unusedVariables false
set_option linter.unusedSimpArgs false
set_option maxRecDepth 100000
set_option maxHeartbeats 8000000
variable {PS : List (Value × List S57)}
theorem growT_calls {b : Nat} {W : World} {col : Col} {G : Nat} {cg : Array Value} {deep turn seen : Int} {os : List Ot} {ws fs : List Wt} (h : RB b W col G cg deep turn seen (stdR os ws fs)) (hc : Ct PS b W col os ws fs) (hlo : os.length + fs.length ≤ 1000) :
  Calls Tryz.prog 167 #[.pointer (some ⟨G, 0, none⟩)] W fun e w' => e = .returned (.tuple #[]) ∧ ∃ os' col' cg', os'.length ≤ os.length + fs.length ∧ RB b w' col' G cg' deep turn seen (stdR os' ws []) ∧ Ct PS b w' col' os' ws [] ∧ Below b W w' := by
 have H := Aside0.mk h
 have HCt := Aside0.mk hc
 clear h hc
 go_enter Tryz.func167, Tryz.ntmps167
 go_wp2_with fail
 go_loopw [2] (fun v2 wr => ∃ (k : Nat) (osk : List Ot) (col' : Col) (cg' : Array Value), k ≤ fs.length ∧ v2 = .int .i64 k ∧ Hid (osk.length = os.length + k) ∧ Hid (RB b wr col' G cg' deep turn seen (stdR osk ws fs)) ∧ Hid (Ct PS b wr col' osk ws (fs.drop k)) ∧ Hid (Below b W wr)) (fun v2 _ => fs.length - (intOf v2).toNat)
 case atStart => exact ⟨0, os, col, cg, by omega, rfl, rfl, H.out, HCt.out, Below.refl _ _⟩
 case round =>
  clear H HCt
  obtain ⟨k, osk, col', cg', hk, rfl, hol, hR, hC, hBW⟩ := hrel
  have HOL := Aside0.mk hol.out
  have HR := Aside0.mk hR.out
  have HC := Aside0.mk hC.out
  have HBW := Aside0.mk hBW.out
  clear hol hR hC hBW
  obtain ⟨v4, a4, r4⟩ := HR.out.row 4 (by omega)
  obtain ⟨A4, c4, rfl, f4⟩ := r4.form
  obtain ⟨v7, a7, r7⟩ := HR.out.row 7 (by omega)
  obtain ⟨A7, c7, rfl, f7⟩ := r7.form
  have e4 : (stdR osk ws fs 4).length = fs.length := by simp [stdR]
  have e7 : (stdR osk ws fs 7).length = fs.length := by simp [stdR]
  rw [e4] at a4 r4 f4
  rw [e7] at a7 r7 f7
  have x71 : wr.cell? ⟨G, 71, none⟩ = _ := HR.out.bo.cell a4
  have x74 : wr.cell? ⟨G, 74, none⟩ = _ := HR.out.bo.cell a7
  by_cases hin : k < fs.length
  ·have cin : (k : Int) < (fs.length : Int) := by omega
   have ck0 : (0 : Int) ≤ (k : Int) := by omega
   have hk1 : wrap64 ((k : Int) + 1) = (k : Int) + 1 := Go.Proofs.YtjlclkenfmbahaaGreatDoor.Days.wr (by omega) (by omega)
   obtain ⟨g4, rfl⟩ := f4 (by omega)
   obtain ⟨g7, rfl⟩ := f7 (by omega)
   obtain ⟨x, hx⟩ : ∃ x, fs[k]? = some x := ⟨_, List.getElem?_eq_getElem hin⟩
   have y4 : wr.cell? ⟨g4, k, none⟩ = some x.v := r4.cell (by simp [stdR, hx])
   have y7 : wr.cell? ⟨g7, k, none⟩ = some (.int .i64 x.mr) := r7.cell (by simp [stdR, hx])
   have hd : fs.drop k = x :: fs.drop (k + 1) := by
    obtain ⟨hl, e⟩ := List.getElem?_eq_some_iff.1 hx
    rw [List.drop_eq_getElem_cons hl, e]
   have hC2 := HC.out
   rw [hd] at hC2
   have HC := Aside0.mk hC2
   obtain ⟨hx1, hx2, hx3⟩ := hC2.fresh x (by simp)
   have HX1 := Aside0.mk hx1
   have HX2 := Aside0.mk hx2
   have HX3 := Aside0.mk hx3
   have HK := Aside0.mk hk
   have HD := Aside0.mk hd
   clear hC2 hx1 hx2 hx3 hd hx r4 r7 a4 a7 e4 e7 f4 f7 hk
   go_wp2_with fail
   go_loopw [4, 5] (fun v4 v5 wr2 => ∃ (i : Nat) (zs : List S57) (col2 : Col), i ≤ 30 ∧ v5 = .int .i64 i ∧ Hid (zs.length = x.xs.length + i) ∧ Hid (GS b wr col' wr2 col2 x.tg x.v x.xs v4 zs)) (fun _ v5 _ => 30 - (intOf v5).toNat)
   case atStart => exact ⟨0, x.xs, col', by omega, rfl, rfl, GS.start HX1.out HR.out.le⟩
   case round =>
    obtain ⟨i, zs, col2, hi, rfl, hzl, hgs⟩ := hrel
    have HZL := Aside0.mk hzl.out
    have HGS := Aside0.mk hgs.out
    clear hzl hgs
    by_cases h30 : i < 30
    ·have ci : (i : Int) < 30 := by omega
     have hi1 : wrap64 ((i : Int) + 1) = (i : Int) + 1 := Go.Proofs.YtjlclkenfmbahaaGreatDoor.Days.wr (by omega) (by omega)
     obtain ⟨gA, gc, hgv⟩ := Kd.R_slice HGS.out.tk
     clear hgv
     go_wp2_with ((with_reducible refine gate_builtin (b := .append) (xs := #[.tmp 33, .tmp 40]) rfl ?_); at_builtin; refine tok_append (W := wr) b _ rfl (.tmp 33) (.tmp 40) rfl Tryz.underlying22 info57 _ zs ⟨0, _, ⟨#[]⟩, 0, 0⟩ rfl rfl HGS.out.tk ?aS ?aL ?_; (case aS => exact Nat.le_trans HR.out.le HGS.out.mv.size); (case aL => have := HZL.out; have := HX2.out; omega); intro v1 w1 ho1 hg1 hm1; have n0_ := Aside0.mk (HGS.out.step ho1 hg1 hm1); clear HGS ho1 hg1 hm1; have HGS := n0_; clear n0_)
     first | rw [hi1] | skip
     refine ⟨⟨i + 1, _, _, by omega, congrArg (Value.int .i64) (by omega), ?_, HGS.out⟩, by simp [intOf]; omega⟩
     have := HZL.out
     show (zs ++ [_]).length = _
     rw [List.length_append, List.length_singleton]
     omega
    ·obtain rfl : i = 30 := by omega
     obtain ⟨gA, gc, hgv⟩ := Kd.R_slice HGS.out.tk
     subst hgv
     have hset : ∀ j, j < 10 → settle x.tg j = j := fun j hj => settle_ne (by have := HX3.out; omega)
     have hR2 := (HR.out.mv HGS.out.mv (by have := HX3.out; omega)).paint (settle x.tg) hset
     obtain ⟨hC2, hD2⟩ := HC.out.grown HGS.out
     have hB2 := HBW.out.trans HGS.out.mv.below
     clear HR HC HBW
     have HR := Aside0.mk hR2
     have HC := Aside0.mk hC2
     have HRd := Aside0.mk hD2
     have HBW := Aside0.mk hB2
     have HZ : Aside0 (zs.length ≤ 100000) := ⟨by have := HZL.out; have := HX2.out; omega⟩
     clear hR2 hC2 hD2 hB2 hset HGS HZL
     obtain ⟨v0, a0, r0⟩ := HR.out.row 0 (by omega)
     obtain ⟨A0, k0, rfl, -⟩ := r0.form
     have xf : wr.cell? ⟨G, 67, none⟩ = _ := HR.out.bo.cell a0
     have hlim : ((stdR osk ws fs) 0).length ≤ 100000 := by have := HOL.out; simp [stdR]; omega
     have HLIM := Aside0.mk hlim
     have HA0 := Aside0.mk a0
     have HR0 := Aside0.mk r0
     clear hlim a0 r0
     go_upto_region 10 with ((with_reducible refine gate_builtin (b := .append) (xs := #[.tmp 46, .tmp 48]) rfl ?_); at_builtin; refine print_append (w0 := wr) b rfl (.tmp 46) (.tmp 48) 33 22 (.slice none 0 0) 24 rfl Tryz.underlying33 info22k rfl (by decide) (.slice A0 ((stdR osk ws fs) 0).length k0) ((stdR osk ws fs) 0) (.slice gA zs.length gc) rfl rfl rfl ?aO ?aB ?aS ?aL ?_; (case aO => exact HR0.out.own); (case aB => exact Below.refl _ _); (case aS => exact HR.out.le); (case aL => have := HLIM.out; omega); intro v1 w1 ho1 hb1 hg1 hat1; obtain ⟨gq1, nq1, kq1, rfl⟩ := own_some ho1 (by simp); have hBl := HR.out.late (i := 0) (by omega) HA0.out (Below.refl _ _) hg1; have yf := (blk_cell hBl 67).trans HA0.out; have zf := blk_frozen hBl 67; obtain ⟨col1, (HR1 : RB b (w1.setCell ⟨G, 67, none⟩ _) _ G _ deep turn seen _), (HM1 : Ms b wr _ (w1.setCell ⟨G, 67, none⟩ _) _)⟩ := HR.out.pushed (i := 0) (by omega) HA0.out (Below.refl _ _) ho1 hg1 hat1; have n0_ := Aside0.mk HR1; have n1_ := Aside0.mk HM1; clear HR1 HM1 ho1 hb1 hg1 hat1 hBl; have HR1 := n0_; have HM1 := n1_; clear n0_ n1_)
     obtain ⟨W3, hW3⟩ : ∃ W3, w1.setCell ⟨G, 67, none⟩ (.slice (some ⟨gq1, 0, none⟩) nq1 kq1) = W3 := ⟨_, rfl⟩
     rw [hW3] at HR1 HM1 ⊢
     have HRa := HR1
     have HMa := HM1
     have hC3 := HC.out.ms HMa.out
     have hD3 := HRd.out.ms HMa.out (by omega)
     have hB3 := HBW.out.trans HMa.out.below
     clear HR HC HRd HBW HR1 HM1 HMa hW3 yf zf xf HLIM HA0 HR0
     have HR := HRa
     have HC := Aside0.mk hC3
     have HRd := Aside0.mk hD3
     have HBW := Aside0.mk hB3
     clear HRa hC3 hD3 hB3
     have RL : Aside0 (∀ w', Below W3.heap.size W3 w' → Kd.C k57 w' gA zs.length zs) := ⟨fun w' hb => Kd.C_below HRd.out.reads.2 hb⟩
     obtain ⟨v0, a0, r0⟩ := HR.out.row 1 (by omega)
     obtain ⟨A0, k0, rfl, -⟩ := r0.form
     have hlim : ((upd (stdR osk ws fs) 0 (stdR osk ws fs 0 ++ [.slice gA zs.length gc])) 1).length ≤ 100000 := by rw [upd_ne _ _ (by decide)]; have := HOL.out; simp [stdR]; omega
     have HLIM := Aside0.mk hlim
     have HA0 := Aside0.mk a0
     have HR0 := Aside0.mk r0
     have FA : Aside0 (∀ w', Below W3.heap.size W3 w' → w'.cell? ⟨G, 68, none⟩ = _) := ⟨fun w' hb => (hb.cell (World.block_lt_of_cell? _ _ (HR.out.bo.cell a0))).trans (HR.out.bo.cell a0)⟩
     clear hlim a0 r0
     refine start_ (n := 13) (S := fun w' => w'.cell? ⟨G, 68, none⟩ = some (.slice A0 ((upd (stdR osk ws fs) 0 (stdR osk ws fs 0 ++ [.slice gA zs.length gc])) 1).length k0) ∧ Below W3.heap.size W3 w') (ds := [9, 12]) #[false, false, false, false, false, false, false, false, false, false, false, false, false] (by kernel_rfl) rfl rfl ⟨(FA.out _ (below_drew (Below.refl _ _))), (below_drew (Below.refl _ _))⟩ (fun hHeld => ?_)
     refine pure_ (i := 0) (N := some 52) (v := ?_) (a' := ?_) #[true, false, false, false, false, false, false, false, false, false, false, false, false] rfl rfl (by kernel_rfl) (fun _ _ _ h => h) (Or.inl ⟨by rfl, ?_⟩) ?_ ?_
     rotate_left
     ·intro w'
      go_simp
      with_reducible rfl
     rotate_left
     ·simp only [Act.put, List.setIfInBounds_toArray, List.set_cons_zero, List.set_cons_succ, i64_w, i32_w]
      rfl
     refine pure_ (i := 1) (N := some 53) (v := ?_) (a' := ?_) #[true, true, false, false, false, false, false, false, false, false, false, false, false] rfl rfl (by kernel_rfl) (fun _ _ _ h => h) (Or.inl ⟨by rfl, ?_⟩) ?_ ?_
     rotate_left
     ·intro w'
      go_simp
      with_reducible rfl
     rotate_left
     ·simp only [Act.put, List.setIfInBounds_toArray, List.set_cons_zero, List.set_cons_succ, i64_w, i32_w]
      rfl
     refine pure_ (i := 2) (N := some 54) (v := ?_) (a' := ?_) #[true, true, true, false, false, false, false, false, false, false, false, false, false] rfl rfl (by kernel_rfl) (fun _ _ _ h => h) (Or.inl ⟨by rfl, ?_⟩) ?_ ?_
     rotate_left
     ·intro w'
      go_simp
      with_reducible rfl
     rotate_left
     ·simp only [Act.put, List.setIfInBounds_toArray, List.set_cons_zero, List.set_cons_succ, i64_w, i32_w]
      rfl
     refine pure_ (i := 3) (N := some 55) (v := ?_) (a' := ?_) #[true, true, true, true, false, false, false, false, false, false, false, false, false] rfl rfl (by kernel_rfl) (fun _ _ _ h => h) (Or.inl ⟨by rfl, ?_⟩) ?_ ?_
     rotate_left
     ·intro w'
      go_simp
      with_reducible rfl
     rotate_left
     ·simp only [Act.put, List.setIfInBounds_toArray, List.set_cons_zero, List.set_cons_succ, i64_w, i32_w]
      rfl
     refine pure_ (i := 6) (N := some 58) (v := ?_) (a' := ?_) #[true, true, true, true, false, false, true, false, false, false, false, false, false] rfl rfl (by kernel_rfl) (fun _ _ _ h => h) (Or.inl ⟨by rfl, ?_⟩) ?_ ?_
     rotate_left
     ·intro w'
      go_simp
      with_reducible rfl
     rotate_left
     ·simp only [Act.put, List.setIfInBounds_toArray, List.set_cons_zero, List.set_cons_succ, i64_w, i32_w]
      rfl
     refine take_ (i := 4) (N := some 56) (v := ?_) (a' := ?_) #[true, true, true, true, true, false, true, false, false, false, false, false, false] rfl rfl (by kernel_rfl) (fun _ _ _ h => h) (Or.inl ⟨by rfl, ?_⟩) hHeld ?_ ?_
     rotate_left
     ·rintro w' ⟨s0, s1⟩
      go_simp
      with_reducible rfl
     rotate_left
     ·simp only [Act.put, List.setIfInBounds_toArray, List.set_cons_zero, List.set_cons_succ, i64_w, i32_w]
      rfl
     refine one_ (i := 5) (N := some 57) #[true, true, true, true, true, true, true, false, false, false, false, false, false] rfl rfl (by kernel_rfl) (by decide) (fun K hK => ?_)
     refine value_ (w1 := ?_) (v := ?_) (by rfl) rfl ?_ ?_
     rotate_left 2
     ·go_simp
      constructor
      ·rfl
      ·rfl
     refine hK.out _ _ ⟨(FA.out _ (below_alloc hHeld.2 _)), (below_alloc hHeld.2 _)⟩ (fun hHeld => ?_)
     clear hK K
     refine norm_ (a' := ?_) ?_ ?_
     rotate_left
     ·show Act.put _ (some 57) _ = _
      simp only [Act.put, List.setIfInBounds_toArray, List.set_cons_zero, List.set_cons_succ, i64_w, i32_w]
      rfl
     refine one_ (i := 7) (N := some 59) #[true, true, true, true, true, true, true, true, false, false, false, false, false] rfl rfl (by kernel_rfl) (by decide) (fun K hK => ?_)
     refine Kd.R_append_rows_step k57 (Rr := k57.K (W3.drew.alloc (.cells #[] 57))) (w0 := W3) W3.heap.size (by first | rfl | simp [Region.wanted]) (.tmp 57) (.tmp 58) 22 57 (.agg #[(.int .i64 0), (.int .i64 0), (.string ⟨#[]⟩), (.int .i64 0), (.int .i64 0)]) 48 rfl Tryz.underlying22 info57 rfl (by decide) (by decide) (.slice (some ⟨W3.heap.size, 0, none⟩) 0 0) [] zs gA zs.length gc (fun _ => True) (fun _ => False) rfl rfl ?aO ?aR ?aK (fun _ hk => hk.elim) (fun _ _ => trivial) ?aB ?aS ?aL ?_
     case aO => exact made_empty (W := W3) (Wc := W3.drew) (below_drew (Below.refl _ _))
     case aR => exact RL.out _ hHeld.2
     case aK => intro x_ cs_ hp_; rw [k57_open hp_]; exact k57_mkM _ _ _ x_
     case aB => exact hHeld.2
     case aS => exact hHeld.2.size
     case aL => have := HZ.out; simp; omega
     intro v1 w1 ho1 hb1 hg1 hat1
     rw [List.nil_append] at ho1
     obtain ⟨gc2, nc2, kc2, rfl⟩ := tok_some ho1
     have HO1 := Aside0.mk ho1
     have HB1 := Aside0.mk hb1
     clear ho1 hb1 hg1 hat1
     refine hK.out _ _ ⟨(FA.out _ HB1.out), HB1.out⟩ (fun hHeld => ?_)
     clear hK K
     refine norm_ (a' := ?_) ?_ ?_
     rotate_left
     ·show Act.put _ (some 59) _ = _
      simp only [Act.put, List.setIfInBounds_toArray, List.set_cons_zero, List.set_cons_succ, i64_w, i32_w]
      rfl
     refine one_ (i := 8) (N := some 60) #[true, true, true, true, true, true, true, true, true, false, false, false, false] rfl rfl (by kernel_rfl) (by decide) (fun K hK => ?_)
     refine value_ (w1 := ?_) (v := ?_) (by rfl) rfl ?_ ?_
     rotate_left 2
     ·go_simp
      constructor
      ·rfl
      ·rfl
     refine hK.out _ _ ⟨(FA.out _ (below_alloc hHeld.2 _)), (below_alloc hHeld.2 _)⟩ (fun hHeld => ?_)
     clear hK K
     refine norm_ (a' := ?_) ?_ ?_
     rotate_left
     ·show Act.put _ (some 60) _ = _
      simp only [Act.put, List.setIfInBounds_toArray, List.set_cons_zero, List.set_cons_succ, i64_w, i32_w]
      rfl
     refine last_ (i := 9) (N := some 61) #[true, true, true, true, true, true, true, true, true, true, false, false, false] rfl rfl (by kernel_rfl) (by decide) (fun K hK => ?_)
     refine step_row (Wc := w1.alloc (.cells #[(.slice gc2 nc2 kc2)] 22)) b rfl (.tmp 56) (.tmp 60) 33 22 (.slice none 0 0) 24 rfl Tryz.underlying33 info22k rfl (.slice A0 ((upd (stdR osk ws fs) 0 (stdR osk ws fs 0 ++ [.slice gA zs.length gc])) 1).length k0) ((upd (stdR osk ws fs) 0 (stdR osk ws fs 0 ++ [.slice gA zs.length gc])) 1) (.slice gc2 nc2 kc2) w1.heap.size rfl rfl rfl (heap_alloc_new w1 _) ?aO ?aS ?aL ?aM ?_
     case aO => exact pw_own_below HR0.out.own (below_alloc HB1.out _)
     case aS => exact Nat.le_trans HR.out.le (below_alloc HB1.out _).size
     case aL => have := HLIM.out; omega
     case aM => have := HLIM.out; omega
     intro v2 w2 ho2 hg2 hat2
     obtain ⟨gq2, nq2, kq2, rfl⟩ := own_some ho2 (by simp)
     have hBl := HR.out.late (i := 1) (by omega) HA0.out (below_alloc HB1.out _) hg2
     have yf := (blk_cell hBl 68).trans HA0.out
     have zf := blk_frozen hBl 68
     have hRc := HR.out.mv (Mv.of_new (s := 20) (t := 30) HB1.out HR.out.le) (by omega)
     obtain ⟨col2, (HR2 : RB b (w2.setCell ⟨G, 68, none⟩ _) _ G _ deep turn seen _), (HMc2 : Ms b w1 _ (w2.setCell ⟨G, 68, none⟩ _) _)⟩ := hRc.pushed (i := 1) (by omega) HA0.out (below_alloc (Below.refl w1.heap.size w1) _) ho2 hg2 (hat2.imp_right (fun ⟨k_, e_, h_⟩ => ⟨k_, e_, Nat.le_trans (below_alloc (Below.refl w1.heap.size w1) _).size h_⟩))
     have HM2 := (Ms.of_new HB1.out HR.out.le 20).trans HMc2
     have HW2 := Aside0.mk (Rd.ms (fresh_rd HO1.out _) HMc2 (by omega))
     have n0_ := Aside0.mk HR2
     have n1_ := Aside0.mk HM2
     clear HR2 HM2 HMc2 hRc ho2 hg2 hat2 hBl
     have HR2 := n0_
     have HM2 := n1_
     clear n0_ n1_
     refine hK.out _ _ ?_
     clear hK K
     refine norm_ (a' := ?_) ?_ ?_
     rotate_left
     ·show Act.put _ (some 61) _ = _
      simp only [Act.put, List.setIfInBounds_toArray, List.set_cons_zero, List.set_cons_succ, i64_w, i32_w]
      rfl
     refine pure_ (i := 10) (N := some 62) (v := ?_) (a' := ?_) #[true, true, true, true, true, true, true, true, true, true, true, false, false] rfl rfl (by kernel_rfl) (fun _ _ _ h => h) (Or.inl ⟨by rfl, ?_⟩) ?_ ?_
     rotate_left
     ·intro w'
      go_simp
      with_reducible rfl
     rotate_left
     ·simp only [Act.put, List.setIfInBounds_toArray, List.set_cons_zero, List.set_cons_succ, i64_w, i32_w]
      rfl
     refine pure_ (i := 11) (N := some 63) (v := ?_) (a' := ?_) #[true, true, true, true, true, true, true, true, true, true, true, true, false] rfl rfl (by kernel_rfl) (fun _ _ _ h => h) (Or.inl ⟨by rfl, ?_⟩) ?_ ?_
     rotate_left
     ·intro w'
      go_simp
      with_reducible rfl
     rotate_left
     ·simp only [Act.put, List.setIfInBounds_toArray, List.set_cons_zero, List.set_cons_succ, i64_w, i32_w]
      rfl
     refine last_ (i := 12) (N := none) #[true, true, true, true, true, true, true, true, true, true, true, true, true] rfl rfl (by kernel_rfl) (by decide) (fun K hK => ?_)
     refine skip_ (w1 := ?_) (by rfl) rfl ?_ ?_
     rotate_left
     ·go_simp
      rfl
     refine hK.out _ _ ?_
     clear hK K
     refine done_ (by kernel_rfl) ?_
     obtain ⟨W4, hW4⟩ : ∃ W4, w2.setCell ⟨G, 68, none⟩ (.slice (some ⟨gq2, 0, none⟩) nq2 kq2) = W4 := ⟨_, rfl⟩
     rw [hW4] at HR2 HM2 HW2 ⊢
     have hR4 := HR2.out.congr (rs' := stdR (osk.map (Ot.settle x.tg) ++ [⟨.slice gA zs.length gc, .slice gc2 nc2 kc2, zs, 20⟩]) ws fs) (fun i hi => by
      rw [upd_ne (stdR osk ws fs) _ (show (1 : Nat) ≠ 0 by decide)]
      exact stdR_add osk ws fs x.tg _ _ zs i hi)
     have hC4 := (HC.out.ms HM2.out).add (HRd.out.ms HM2.out (by omega)) HW2.out HZ.out
     have hB4 := HBW.out.trans HM2.out.below
     have HR4 := Aside0.mk hR4
     have HC4 := Aside0.mk hC4
     have HB4 := Aside0.mk hB4
     clear HR HC HRd HBW HR2 HM2 HW2 hR4 hC4 hB4 hW4 yf zf HLIM HA0 HR0 RL FA hHeld HB1 HO1
     go_wp2_with fail
     first | rw [hk1] | skip
     refine ⟨⟨k + 1, _, _, _, by omega, congrArg (Value.int .i64) (by omega), ?_, HR4.out, HC4.out, HB4.out⟩, by simp [intOf]; omega⟩
     have := HOL.out
     show (osk.map _ ++ [_]).length = _
     rw [List.length_append, List.length_map, List.length_singleton]
     omega
  ·obtain rfl : k = fs.length := by omega
   have cin : ¬ ((fs.length : Int) < (fs.length : Int)) := by omega
   have hC5 := HC.out
   rw [List.drop_length] at hC5
   obtain ⟨cg5, hR5, hM5⟩ := HR.out.clear2
   have fr1 := blk_frozen HR.out.bo.blk 71
   have fr2 := blk_frozen (blk_set HR.out.bo.blk 71 (.slice none 0 0)) 74
   have z74 : (wr.setCell ⟨G, 71, none⟩ (.slice none 0 0)).cell? ⟨G, 74, none⟩ = some _ := (blk_cell (blk_set HR.out.bo.blk 71 (.slice none 0 0)) 74).trans (set_ne a7 (by omega))
   have HR5 := Aside0.mk hR5
   have HC5 := Aside0.mk (hC5.ms hM5)
   have HB5 := Aside0.mk (HBW.out.trans hM5.below)
   clear hR5 hC5 hM5 r4 r7 f4 f7 a4 a7 e4 e7
   go_wp2_with fail
   exact bodyPost_end rfl rfl ⟨rfl, osk, by have := HOL.out; omega, _, ⟨_, HR5.out⟩, HC5.out, HB5.out⟩
end Go.Proofs.YtjlclkenfmbahaaGreatDoor.PA
