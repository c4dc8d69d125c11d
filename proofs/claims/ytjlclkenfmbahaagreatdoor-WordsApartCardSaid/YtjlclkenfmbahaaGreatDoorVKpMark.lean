/- The book's markTokens, walked by hand: the lists that are due are written over and stand with their notes, the others wait on. Condition: the book is as KpSt has it. -/
import Derived.Test.YtjlclkenfmbahaaGreatDoorVK
import Derived.Test.YtjlclkenfmbahaaGreatDoorVScAll
import Derived.BigRegion
import Derived.RegionTactic
import Derived.BigQuiet
namespace Go.Proofs.YtjlclkenfmbahaaGreatDoor.PA
open Go.RowKit Go.Maps Go.Proofs.YtjlclkenfmbahaaGreatDoorW.PrintWords Go.Proofs.YtjlclkenfmbahaaGreatDoorW.PrintLast Go.Proofs.YtjlclkenfmbahaaGreatDoorW.PrintMore
set_option linter.unusedVariables false
set_option linter.unusedSimpArgs false
set_option maxRecDepth 100000
set_option maxHeartbeats 8000000
variable {PS : List (Value × List S57)}
theorem markT_calls {b : Nat} {W : World} {col : Col} {G : Nat} {cg : Array Value} {deep turn seen : Int} {os : List Ot} {ws : List Wt} (h : RB b W col G cg deep turn seen (stdR os ws [])) (hc : Ct PS b W col os ws []) (hlo : os.length + ws.length ≤ 1000) :
  Calls Tryz.prog 143 #[.pointer (some ⟨G, 0, none⟩)] W fun e w' => e = .returned (.tuple #[]) ∧ MkPost PS b W G deep turn seen os ws w' := by
 obtain ⟨v2, a2, r2⟩ := h.row 2 (by omega)
 obtain ⟨v3, a3, r3⟩ := h.row 3 (by omega)
 obtain ⟨v5, a5, r5⟩ := h.row 5 (by omega)
 obtain ⟨v6, a6, r6⟩ := h.row 6 (by omega)
 obtain ⟨A2, k2, rfl, f2⟩ := r2.form
 obtain ⟨A3, k3, rfl, f3⟩ := r3.form
 obtain ⟨A5, k5, rfl, f5⟩ := r5.form
 obtain ⟨A6, k6, rfl, f6⟩ := r6.form
 have e2 : (stdR os ws [] 2).length = ws.length := by simp [stdR]
 have e3 : (stdR os ws [] 3).length = ws.length := by simp [stdR]
 have e5 : (stdR os ws [] 5).length = ws.length := by simp [stdR]
 have e6 : (stdR os ws [] 6).length = ws.length := by simp [stdR]
 rw [e2] at a2 f2
 rw [e3] at a3 f3
 rw [e5] at a5 f5
 rw [e6] at a6 f6
 have x2 : W.cell? ⟨G, 69, none⟩ = _ := h.bo.cell a2
 have x3 : W.cell? ⟨G, 70, none⟩ = _ := h.bo.cell a3
 have x5 : W.cell? ⟨G, 72, none⟩ = _ := h.bo.cell a5
 have x6 : W.cell? ⟨G, 73, none⟩ = _ := h.bo.cell a6
 have H := Aside0.mk h
 have HCt := Aside0.mk hc
 clear r2 r3 r5 r6 e2 e3 e5 e6
 by_cases hz : ws.length = 0
 ·have cz : ((ws.length : Int) == 0) = true := beq_iff_eq.mpr (by omega)
  have hP : Aside0 (MkPost PS b W G deep turn seen os ws W) := ⟨⟨os, ws, [], col, cg, by simp, by simp, h, hc, Below.refl _ _⟩⟩
  clear h hc
  go_enter Tryz.func143, Tryz.ntmps143
  go_wp2
  refine bodyPost_ret (results_nil rfl _ _) rfl ⟨rfl, hP.out⟩
 ·have cz : ((ws.length : Int) == 0) = false := beq_eq_false_iff_ne.mpr (by omega)
  have hG0 := h.bo.blk
  have g0 := blk_frozen hG0 69
  have hG1 := blk_set hG0 69 (.slice none 0 0)
  have g1 := blk_frozen hG1 70
  have c1 : (W.setCell ⟨G, 69, none⟩ (.slice none 0 0)).cell? ⟨G, 70, none⟩ = some _ := (blk_cell hG1 70).trans (set_ne a3 (by omega))
  have hG2 := blk_set hG1 70 (.slice none 0 0)
  have g2 := blk_frozen hG2 72
  have c2 : ((W.setCell ⟨G, 69, none⟩ (.slice none 0 0)).setCell ⟨G, 70, none⟩ (.slice none 0 0)).cell? ⟨G, 72, none⟩ = some _ := (blk_cell hG2 72).trans (set_ne (set_ne a5 (by omega)) (by omega))
  have hG3 := blk_set hG2 72 (.slice none 0 0)
  have g3 := blk_frozen hG3 73
  have c3 : (((W.setCell ⟨G, 69, none⟩ (.slice none 0 0)).setCell ⟨G, 70, none⟩ (.slice none 0 0)).setCell ⟨G, 72, none⟩ (.slice none 0 0)).cell? ⟨G, 73, none⟩ = some _ := (blk_cell hG3 73).trans (set_ne (set_ne (set_ne a6 (by omega)) (by omega)) (by omega))
  clear hG0 hG1 hG2 hG3
  obtain ⟨gw, hgw⟩ := f2 (by omega)
  obtain ⟨gn, hgn⟩ := f3 (by omega)
  obtain ⟨gm, hgm⟩ := f5 (by omega)
  obtain ⟨gd, hgd⟩ := f6 (by omega)
  subst hgw hgn hgm hgd
  have H4 := Aside0.mk (fun W4 => RB.open4 (W4 := W4) h a2 a3 a5 a6)
  clear f2 f3 f5 f6 h hc a2 a3 a5 a6
  go_enter Tryz.func143, Tryz.ntmps143
  go_upto_region 6 with fail
  obtain ⟨W4, hW4⟩ : ∃ W4, (((W.setCell ⟨G, 69, none⟩ (.slice none 0 0)).setCell ⟨G, 70, none⟩ (.slice none 0 0)).setCell ⟨G, 72, none⟩ (.slice none 0 0)).setCell ⟨G, 73, none⟩ (.slice none 0 0) = W4 := ⟨_, rfl⟩
  rw [hW4]
  obtain ⟨cg4, hR4, hM4, q2, q3, q5, q6⟩ := H4.out W4 hW4
  have HC4 := Aside0.mk ((HCt.out.ms hM4).paint aside9 (fun c hc => aside9_id (by omega)))
  have HL4 := Aside0.mk (Loc.mk q2 q3 q5 q6)
  have HB4 := Aside0.mk hM4.below
  have HR4 := Aside0.mk hR4
  clear hR4 hM4 q2 q3 q5 q6 hW4 H4 H HCt x2 x3 x5 x6 g0 g1 g2 g3 c1 c2 c3
  go_wp2_with fail
  go_loopw [6] (fun v6 wr => ∃ (k : Nat) (osk : List Ot) (wk fk : List Wt) (col' : Col) (cg' : Array Value), k ≤ ws.length ∧ v6 = .int .i64 k ∧ Hid (osk.length = os.length + fk.length ∧ wk.length + fk.length = k) ∧ Hid (RB b wr col' G cg' deep turn seen (stdR osk wk fk)) ∧ Hid (Ct PS b wr col' osk (wk ++ ws.drop k) fk) ∧ Hid (Loc b wr col' (.slice (some ⟨gw, 0, none⟩) ws.length k2) (.slice (some ⟨gn, 0, none⟩) ws.length k3) (.slice (some ⟨gm, 0, none⟩) ws.length k5) (.slice (some ⟨gd, 0, none⟩) ws.length k6) ws) ∧ Hid (Below b W wr)) (fun v6 _ => ws.length - (intOf v6).toNat)
  case atStart => exact ⟨0, os, [], [], _, cg4, by omega, rfl, ⟨by simp, by simp⟩, HR4.out, HC4.out, HL4.out, HB4.out⟩
  case round =>
   clear HR4 HC4 HL4 HB4
   obtain ⟨k, osk, wk, fk, col', cg', hk, rfl, hlen, hR, hC, hL, hB⟩ := hrel
   have HLN := Aside0.mk hlen.out
   have HR := Aside0.mk hR.out
   have HC := Aside0.mk hC.out
   have HL := Aside0.mk hL.out
   have HBW := Aside0.mk hB.out
   have HK := Aside0.mk hk
   clear hlen hR hC hL hB
   by_cases hin : k < ws.length
   ·have cin : (k : Int) < (ws.length : Int) := by omega
    have ck0 : (0 : Int) ≤ (k : Int) := by omega
    have hk1 : wrap64 ((k : Int) + 1) = (k : Int) + 1 := Go.Proofs.YtjlclkenfmbahaaGreatDoor.Days.wr (by omega) (by omega)
    obtain ⟨x, hx⟩ : ∃ x, ws[k]? = some x := ⟨_, List.getElem?_eq_getElem hin⟩
    have hC2 := HC.out
    rw [rest_cons hx] at hC2
    obtain ⟨t1, t2, t3, t4⟩ := hC2.wait x (by simp)
    obtain ⟨lA, lc, hlv⟩ := Kd.R_slice t1
    obtain ⟨nA, nc, hnv, -⟩ := t2.ex
    have yl : wr.cell? ⟨gw, k, none⟩ = some (.slice lA x.xs.length lc) := by rw [← hlv]; exact HL.out.l.cell (by simp [hx])
    have ym : wr.cell? ⟨gm, k, none⟩ = some (.int .i64 x.mr) := HL.out.m.cell (by simp [hx])
    have HC := Aside0.mk hC2
    have HT1 := Aside0.mk t1
    have HT2 := Aside0.mk t2
    have HT3 := Aside0.mk t3
    have HT4 := Aside0.mk t4
    have HLV := Aside0.mk hlv
    have HNV := Aside0.mk hnv
    have HX := Aside0.mk hx
    clear hC2 t1 t2 t3 t4 hlv hnv hx
    go_upto_region 11 with fail
    have yd : wr.cell? ⟨gd, k, none⟩ = some (.int .i64 x.du) := HL.out.d.cell (by simp [HX.out])
    have FD : Aside0 (∀ w', Below wr.heap.size wr w' → w'.cell? ⟨gd, k, none⟩ = some (.int .i64 x.du) ∧ w'.cell? ⟨G, 2, none⟩ = some (.int .i64 turn)) := ⟨fun w' hb => ⟨(hb.cell (World.block_lt_of_cell? _ _ yd)).trans yd, (hb.cell (World.block_lt_of_cell? _ _ (HR.out.bo.cell HR.out.c2))).trans (HR.out.bo.cell HR.out.c2)⟩⟩
    refine start_ (n := 9) (S := fun w' => w'.cell? ⟨gd, k, none⟩ = some (.int .i64 x.du) ∧ w'.cell? ⟨G, 2, none⟩ = some (.int .i64 turn)) (ds := []) #[false, false, false, false, false, false, false, false, false] (by kernel_rfl) rfl rfl ⟨(FD.out _ (below_drew (Below.refl _ _))).1, (FD.out _ (below_drew (Below.refl _ _))).2⟩ (fun hHeld => ?_)
    refine pure_ (i := 0) (N := some 55) (v := ?_) (a' := ?_) #[true, false, false, false, false, false, false, false, false] rfl rfl (by kernel_rfl) (fun _ _ _ h => h) (Or.inl ⟨by rfl, ?_⟩) ?_ ?_
    rotate_left
    ·intro w'
     go_simp
     with_reducible rfl
    rotate_left
    ·simp only [Act.put, List.setIfInBounds_toArray, List.set_cons_zero, List.set_cons_succ, i64_w, i32_w]
     rfl
    refine pure_ (i := 1) (N := some 56) (v := ?_) (a' := ?_) #[true, true, false, false, false, false, false, false, false] rfl rfl (by kernel_rfl) (fun _ _ _ h => h) (Or.inl ⟨by rfl, ?_⟩) ?_ ?_
    rotate_left
    ·intro w'
     go_simp
     with_reducible rfl
    rotate_left
    ·simp only [Act.put, List.setIfInBounds_toArray, List.set_cons_zero, List.set_cons_succ, i64_w, i32_w]
     rfl
    refine pure_ (i := 2) (N := some 57) (v := ?_) (a' := ?_) #[true, true, true, false, false, false, false, false, false] rfl rfl (by kernel_rfl) (fun _ _ _ h => h) (Or.inl ⟨by rfl, ?_⟩) ?_ ?_
    rotate_left
    ·intro w'
     go_simp
     with_reducible rfl
    rotate_left
    ·simp only [Act.put, List.setIfInBounds_toArray, List.set_cons_zero, List.set_cons_succ, i64_w, i32_w]
     rfl
    refine pure_ (i := 4) (N := some 59) (v := ?_) (a' := ?_) #[true, true, true, false, true, false, false, false, false] rfl rfl (by kernel_rfl) (fun _ _ _ h => h) (Or.inl ⟨by rfl, ?_⟩) ?_ ?_
    rotate_left
    ·intro w'
     go_simp
     with_reducible rfl
    rotate_left
    ·simp only [Act.put, List.setIfInBounds_toArray, List.set_cons_zero, List.set_cons_succ, i64_w, i32_w]
     rfl
    refine pure_ (i := 5) (N := some 60) (v := ?_) (a' := ?_) #[true, true, true, false, true, true, false, false, false] rfl rfl (by kernel_rfl) (fun _ _ _ h => h) (Or.inl ⟨by rfl, ?_⟩) ?_ ?_
    rotate_left
    ·intro w'
     go_simp
     with_reducible rfl
    rotate_left
    ·simp only [Act.put, List.setIfInBounds_toArray, List.set_cons_zero, List.set_cons_succ, i64_w, i32_w]
     rfl
    refine pure_ (i := 6) (N := some 61) (v := ?_) (a' := ?_) #[true, true, true, false, true, true, true, false, false] rfl rfl (by kernel_rfl) (fun _ _ _ h => h) (Or.inl ⟨by rfl, ?_⟩) ?_ ?_
    rotate_left
    ·intro w'
     go_simp
     with_reducible rfl
    rotate_left
    ·simp only [Act.put, List.setIfInBounds_toArray, List.set_cons_zero, List.set_cons_succ, i64_w, i32_w]
     rfl
    refine take_ (i := 3) (N := some 58) (v := ?_) (a' := ?_) #[true, true, true, true, true, true, true, false, false] rfl rfl (by kernel_rfl) (fun _ _ _ h => h) (Or.inl ⟨by rfl, ?_⟩) hHeld ?_ ?_
    rotate_left
    ·rintro w' ⟨s0, s1⟩
     go_simp
     with_reducible rfl
    rotate_left
    ·simp only [Act.put, List.setIfInBounds_toArray, List.set_cons_zero, List.set_cons_succ, i64_w, i32_w]
     rfl
    refine take_ (i := 7) (N := some 62) (v := ?_) (a' := ?_) #[true, true, true, true, true, true, true, true, false] rfl rfl (by kernel_rfl) (fun _ _ _ h => h) (Or.inl ⟨by rfl, ?_⟩) hHeld ?_ ?_
    rotate_left
    ·rintro w' ⟨s0, s1⟩
     go_simp
     with_reducible rfl
    rotate_left
    ·simp only [Act.put, List.setIfInBounds_toArray, List.set_cons_zero, List.set_cons_succ, i64_w, i32_w]
     rfl
    refine pure_ (i := 8) (N := some 63) (v := ?_) (a' := ?_) #[true, true, true, true, true, true, true, true, true] rfl rfl (by kernel_rfl) (fun _ _ _ h => h) (Or.inl ⟨by rfl, ?_⟩) ?_ ?_
    rotate_left
    ·intro w'
     go_simp
     with_reducible rfl
    rotate_left
    ·simp only [Act.put, List.setIfInBounds_toArray, List.set_cons_zero, List.set_cons_succ, i64_w, i32_w]
     rfl
    refine done_ (by kernel_rfl) ?_
    obtain ⟨W5, hW5⟩ : ∃ W5, wr.drew = W5 := ⟨_, rfl⟩
    have hb5 : Below wr.heap.size wr W5 := by rw [← hW5]; exact below_drew (Below.refl _ _)
    rw [hW5]
    have HR5 := Aside0.mk (HR.out.go HR.out.le hb5)
    have m5 := Ms.of_below (col := col') hb5 HR.out.le
    have HC5 := Aside0.mk (HC.out.ms m5)
    have HL5 := Aside0.mk (HL.out.ms m5)
    have HB5 := Aside0.mk (HBW.out.trans m5.below)
    have HT5 := Aside0.mk (tk_ms HT1.out m5 (by have := HT4.out; omega))
    have HU5 := Aside0.mk (HT2.out.ms m5 (by omega))
    clear HR HC HL HBW HT1 HT2 hW5 hb5 m5 yl ym yd FD
    have HR := HR5
    have HC := HC5
    have HL := HL5
    have HBW := HB5
    have HT1 := HT5
    have HT2 := HU5
    clear HR5 HC5 HL5 HB5 HT5 HU5
    by_cases hdue : turn < x.du
    ·have cdue : decide (turn < x.du) = true := decide_eq_true hdue
     rw [cdue]
     clear hdue cdue
     go_upto_region 12 with fail
     obtain ⟨v0, a0, r0⟩ := HR.out.row 2 (by omega)
     obtain ⟨A0, k0, rfl, -⟩ := r0.form
     have xf : W5.cell? ⟨G, 69, none⟩ = _ := HR.out.bo.cell a0
     have hlim : ((stdR osk wk fk) 2).length ≤ 100000 := by have := HLN.out; simp [stdR]; omega
     have HLIM := Aside0.mk hlim
     have HA0 := Aside0.mk a0
     have HR0 := Aside0.mk r0
     clear hlim a0 r0
     go_upto_region 13 with ((with_reducible refine gate_builtin (b := .append) (xs := #[.tmp 68, .tmp 70]) rfl ?_); at_builtin; refine print_append (w0 := W5) b rfl (.tmp 68) (.tmp 70) 33 22 (.slice none 0 0) 24 rfl Tryz.underlying33 info22k rfl (by decide) (.slice A0 ((stdR osk wk fk) 2).length k0) ((stdR osk wk fk) 2) (.slice lA x.xs.length lc) rfl rfl rfl ?aO ?aB ?aS ?aL ?_; (case aO => exact HR0.out.own); (case aB => exact Below.refl _ _); (case aS => exact HR.out.le); (case aL => have := HLIM.out; omega); intro v1 w1 ho1 hb1 hg1 hat1; obtain ⟨gq1, nq1, kq1, rfl⟩ := own_some ho1 (by simp); have hBl := HR.out.late (i := 2) (by omega) HA0.out (Below.refl _ _) hg1; have yf := (blk_cell hBl 69).trans HA0.out; have zf := blk_frozen hBl 69; obtain ⟨col1, (HR1 : RB b (w1.setCell ⟨G, 69, none⟩ _) _ G _ deep turn seen _), (HM1 : Ms b W5 _ (w1.setCell ⟨G, 69, none⟩ _) _)⟩ := HR.out.pushed (i := 2) (by omega) HA0.out (Below.refl _ _) ho1 hg1 hat1; have n0_ := Aside0.mk HR1; have n1_ := Aside0.mk HM1; clear HR1 HM1 ho1 hb1 hg1 hat1 hBl; have HR1 := n0_; have HM1 := n1_; clear n0_ n1_)
     obtain ⟨W6, hW6⟩ : ∃ W6, w1.setCell ⟨G, 69, none⟩ (.slice (some ⟨gq1, 0, none⟩) nq1 kq1) = W6 := ⟨_, rfl⟩
     rw [hW6] at HR1 HM1 ⊢
     obtain ⟨rs1, hrs1⟩ : ∃ r_, upd (stdR osk wk fk) 2 ((stdR osk wk fk) 2 ++ [.slice lA x.xs.length lc]) = r_ := ⟨_, rfl⟩
     rw [hrs1] at HR1
     have RS1 := Aside0.mk hrs1.symm
     have HC_ := Aside0.mk (HC.out.ms HM1.out)
     have HL_ := Aside0.mk (HL.out.ms HM1.out)
     have HBW_ := Aside0.mk (HBW.out.trans HM1.out.below)
     have HT1_ := Aside0.mk (tk_ms HT1.out HM1.out (by have := HT4.out; omega))
     have HT2_ := Aside0.mk (HT2.out.ms HM1.out (by omega))
     clear HR hW6 hrs1 HC HL HBW HT1 HT2
     have HR := HR1
     have HC := HC_
     have HL := HL_
     have HBW := HBW_
     have HT1 := HT1_
     have HT2 := HT2_
     clear HR1 HM1 yf zf HLIM HA0 HR0 HC_ HL_ HBW_ HT1_ HT2_
     have yn : W6.cell? ⟨gn, k, none⟩ = some (.slice nA x.xs.length nc) := by rw [← HNV.out]; exact HL.out.n.cell (by simp [HX.out])
     have FN : Aside0 (∀ w', Below W6.heap.size W6 w' → w'.cell? ⟨gn, k, none⟩ = some (.slice nA x.xs.length nc)) := ⟨fun w' hb => (hb.cell (World.block_lt_of_cell? _ _ yn)).trans yn⟩
     clear yn
     obtain ⟨v0, a0, r0⟩ := HR.out.row 3 (by omega)
     obtain ⟨A0, k0, rfl, -⟩ := r0.form
     have hlim : (rs1 3).length ≤ 100000 := by rw [RS1.out, upd_ne _ _ (by decide)]; have := HLN.out; simp [stdR]; omega
     have HLIM := Aside0.mk hlim
     have HA0 := Aside0.mk a0
     have HR0 := Aside0.mk r0
     have FA : Aside0 (∀ w', Below W6.heap.size W6 w' → w'.cell? ⟨G, 70, none⟩ = _) := ⟨fun w' hb => (hb.cell (World.block_lt_of_cell? _ _ (HR.out.bo.cell a0))).trans (HR.out.bo.cell a0)⟩
     clear hlim a0 r0
     refine start_ (n := 14) (S := fun w' => w'.cell? ⟨G, 70, none⟩ = some (.slice A0 (rs1 3).length k0) ∧ w'.cell? ⟨gn, k, none⟩ = some (.slice nA x.xs.length nc) ∧ Below W6.heap.size W6 w') (ds := [10, 13]) #[false, false, false, false, false, false, false, false, false, false, false, false, false, false] (by kernel_rfl) rfl rfl ⟨(FA.out _ (below_drew (Below.refl _ _))), (FN.out _ (below_drew (Below.refl _ _))), (below_drew (Below.refl _ _))⟩ (fun hHeld => ?_)
     refine pure_ (i := 0) (N := some 74) (v := ?_) (a' := ?_) #[true, false, false, false, false, false, false, false, false, false, false, false, false, false] rfl rfl (by kernel_rfl) (fun _ _ _ h => h) (Or.inl ⟨by rfl, ?_⟩) ?_ ?_
     rotate_left
     ·intro w'
      go_simp
      with_reducible rfl
     rotate_left
     ·simp only [Act.put, List.setIfInBounds_toArray, List.set_cons_zero, List.set_cons_succ, i64_w, i32_w]
      rfl
     refine pure_ (i := 1) (N := some 75) (v := ?_) (a' := ?_) #[true, true, false, false, false, false, false, false, false, false, false, false, false, false] rfl rfl (by kernel_rfl) (fun _ _ _ h => h) (Or.inl ⟨by rfl, ?_⟩) ?_ ?_
     rotate_left
     ·intro w'
      go_simp
      with_reducible rfl
     rotate_left
     ·simp only [Act.put, List.setIfInBounds_toArray, List.set_cons_zero, List.set_cons_succ, i64_w, i32_w]
      rfl
     refine pure_ (i := 2) (N := some 76) (v := ?_) (a' := ?_) #[true, true, true, false, false, false, false, false, false, false, false, false, false, false] rfl rfl (by kernel_rfl) (fun _ _ _ h => h) (Or.inl ⟨by rfl, ?_⟩) ?_ ?_
     rotate_left
     ·intro w'
      go_simp
      with_reducible rfl
     rotate_left
     ·simp only [Act.put, List.setIfInBounds_toArray, List.set_cons_zero, List.set_cons_succ, i64_w, i32_w]
      rfl
     refine pure_ (i := 3) (N := some 77) (v := ?_) (a' := ?_) #[true, true, true, true, false, false, false, false, false, false, false, false, false, false] rfl rfl (by kernel_rfl) (fun _ _ _ h => h) (Or.inl ⟨by rfl, ?_⟩) ?_ ?_
     rotate_left
     ·intro w'
      go_simp
      with_reducible rfl
     rotate_left
     ·simp only [Act.put, List.setIfInBounds_toArray, List.set_cons_zero, List.set_cons_succ, i64_w, i32_w]
      rfl
     refine pure_ (i := 5) (N := some 79) (v := ?_) (a' := ?_) #[true, true, true, true, false, true, false, false, false, false, false, false, false, false] rfl rfl (by kernel_rfl) (fun _ _ _ h => h) (Or.inl ⟨by rfl, ?_⟩) ?_ ?_
     rotate_left
     ·intro w'
      go_simp
      with_reducible rfl
     rotate_left
     ·simp only [Act.put, List.setIfInBounds_toArray, List.set_cons_zero, List.set_cons_succ, i64_w, i32_w]
      rfl
     refine pure_ (i := 6) (N := some 80) (v := ?_) (a' := ?_) #[true, true, true, true, false, true, true, false, false, false, false, false, false, false] rfl rfl (by kernel_rfl) (fun _ _ _ h => h) (Or.inl ⟨by rfl, ?_⟩) ?_ ?_
     rotate_left
     ·intro w'
      go_simp
      with_reducible rfl
     rotate_left
     ·simp only [Act.put, List.setIfInBounds_toArray, List.set_cons_zero, List.set_cons_succ, i64_w, i32_w]
      rfl
     refine pure_ (i := 7) (N := some 81) (v := ?_) (a' := ?_) #[true, true, true, true, false, true, true, true, false, false, false, false, false, false] rfl rfl (by kernel_rfl) (fun _ _ _ h => h) (Or.inl ⟨by rfl, ?_⟩) ?_ ?_
     rotate_left
     ·intro w'
      go_simp
      with_reducible rfl
     rotate_left
     ·simp only [Act.put, List.setIfInBounds_toArray, List.set_cons_zero, List.set_cons_succ, i64_w, i32_w]
      rfl
     refine take_ (i := 4) (N := some 78) (v := ?_) (a' := ?_) #[true, true, true, true, true, true, true, true, false, false, false, false, false, false] rfl rfl (by kernel_rfl) (fun _ _ _ h => h) (Or.inl ⟨by rfl, ?_⟩) hHeld ?_ ?_
     rotate_left
     ·rintro w' ⟨s0, s1, s2⟩
      go_simp
      with_reducible rfl
     rotate_left
     ·simp only [Act.put, List.setIfInBounds_toArray, List.set_cons_zero, List.set_cons_succ, i64_w, i32_w]
      rfl
     refine take_ (i := 8) (N := some 82) (v := ?_) (a' := ?_) #[true, true, true, true, true, true, true, true, true, false, false, false, false, false] rfl rfl (by kernel_rfl) (fun _ _ _ h => h) (Or.inl ⟨by rfl, ?_⟩) hHeld ?_ ?_
     rotate_left
     ·rintro w' ⟨s0, s1, s2⟩
      go_simp
      with_reducible rfl
     rotate_left
     ·simp only [Act.put, List.setIfInBounds_toArray, List.set_cons_zero, List.set_cons_succ, i64_w, i32_w]
      rfl
     refine one_ (i := 9) (N := some 83) #[true, true, true, true, true, true, true, true, true, true, false, false, false, false] rfl rfl (by kernel_rfl) (by decide) (fun K hK => ?_)
     refine value_ (w1 := ?_) (v := ?_) (by rfl) rfl ?_ ?_
     rotate_left 2
     ·go_simp
      constructor
      ·rfl
      ·rfl
     refine hK.out _ _ ⟨(FA.out _ (below_alloc hHeld.2.2 _)), (FN.out _ (below_alloc hHeld.2.2 _)), (below_alloc hHeld.2.2 _)⟩ (fun hHeld => ?_)
     clear hK K
     refine norm_ (a' := ?_) ?_ ?_
     rotate_left
     ·show Act.put _ (some 83) _ = _
      simp only [Act.put, List.setIfInBounds_toArray, List.set_cons_zero, List.set_cons_succ, i64_w, i32_w]
      rfl
     refine last_ (i := 10) (N := some 84) #[true, true, true, true, true, true, true, true, true, true, true, false, false, false] rfl rfl (by kernel_rfl) (by decide) (fun K hK => ?_)
     refine step_row (Wc := (W6.drew.alloc (.cells #[(.slice nA x.xs.length nc)] 22))) b rfl (.tmp 78) (.tmp 83) 33 22 (.slice none 0 0) 24 rfl Tryz.underlying33 info22k rfl (.slice A0 (rs1 3).length k0) (rs1 3) (.slice nA x.xs.length nc) W6.drew.heap.size rfl rfl rfl (heap_alloc_new W6.drew _) ?aO ?aS ?aL ?aM ?_
     case aO => exact pw_own_below HR0.out.own (below_alloc (below_drew (Below.refl W6.heap.size W6)) _)
     case aS => exact Nat.le_trans HR.out.le (below_alloc (below_drew (Below.refl W6.heap.size W6)) _).size
     case aL => have := HLIM.out; omega
     case aM => have := HLIM.out; omega
     intro v2 w2 ho2 hg2 hat2
     obtain ⟨gq2, nq2, kq2, rfl⟩ := own_some ho2 (by simp)
     have hBl := HR.out.late (i := 3) (by omega) HA0.out (below_alloc (below_drew (Below.refl W6.heap.size W6)) _) hg2
     have yf := (blk_cell hBl 70).trans HA0.out
     have zf := blk_frozen hBl 70
     obtain ⟨col2, (HR2 : RB b (w2.setCell ⟨G, 70, none⟩ _) _ G _ deep turn seen _), (HM2 : Ms b W6 _ (w2.setCell ⟨G, 70, none⟩ _) _)⟩ := HR.out.pushed (i := 3) (by omega) HA0.out (below_alloc (below_drew (Below.refl W6.heap.size W6)) _) ho2 hg2 (hat2.imp_right (fun ⟨k_, e_, h_⟩ => ⟨k_, e_, Nat.le_trans (below_alloc (below_drew (Below.refl W6.heap.size W6)) _).size h_⟩))
     have n0_ := Aside0.mk HR2
     have n1_ := Aside0.mk HM2
     clear HR2 HM2 ho2 hg2 hat2 hBl
     have HR2 := n0_
     have HM2 := n1_
     clear n0_ n1_
     refine hK.out _ _ ?_
     clear hK K
     refine norm_ (a' := ?_) ?_ ?_
     rotate_left
     ·show Act.put _ (some 84) _ = _
      simp only [Act.put, List.setIfInBounds_toArray, List.set_cons_zero, List.set_cons_succ, i64_w, i32_w]
      rfl
     refine pure_ (i := 11) (N := some 85) (v := ?_) (a' := ?_) #[true, true, true, true, true, true, true, true, true, true, true, true, false, false] rfl rfl (by kernel_rfl) (fun _ _ _ h => h) (Or.inl ⟨by rfl, ?_⟩) ?_ ?_
     rotate_left
     ·intro w'
      go_simp
      with_reducible rfl
     rotate_left
     ·simp only [Act.put, List.setIfInBounds_toArray, List.set_cons_zero, List.set_cons_succ, i64_w, i32_w]
      rfl
     refine pure_ (i := 12) (N := some 86) (v := ?_) (a' := ?_) #[true, true, true, true, true, true, true, true, true, true, true, true, true, false] rfl rfl (by kernel_rfl) (fun _ _ _ h => h) (Or.inl ⟨by rfl, ?_⟩) ?_ ?_
     rotate_left
     ·intro w'
      go_simp
      with_reducible rfl
     rotate_left
     ·simp only [Act.put, List.setIfInBounds_toArray, List.set_cons_zero, List.set_cons_succ, i64_w, i32_w]
      rfl
     refine last_ (i := 13) (N := none) #[true, true, true, true, true, true, true, true, true, true, true, true, true, true] rfl rfl (by kernel_rfl) (by decide) (fun K hK => ?_)
     refine skip_ (w1 := ?_) (by rfl) rfl ?_ ?_
     rotate_left
     ·go_simp
      rfl
     refine hK.out _ _ ?_
     clear hK K
     refine done_ (by kernel_rfl) ?_
     obtain ⟨W7, hW7⟩ : ∃ W7, w2.setCell ⟨G, 70, none⟩ (.slice (some ⟨gq2, 0, none⟩) nq2 kq2) = W7 := ⟨_, rfl⟩
     rw [hW7] at HR2 HM2 ⊢
     obtain ⟨rs2, hrs2⟩ : ∃ r_, upd rs1 3 (rs1 3 ++ [.slice nA x.xs.length nc]) = r_ := ⟨_, rfl⟩
     rw [hrs2] at HR2
     have RS2 := Aside0.mk hrs2.symm
     have HC_ := Aside0.mk (HC.out.ms HM2.out)
     have HL_ := Aside0.mk (HL.out.ms HM2.out)
     have HBW_ := Aside0.mk (HBW.out.trans HM2.out.below)
     have HT1_ := Aside0.mk (tk_ms HT1.out HM2.out (by have := HT4.out; omega))
     have HT2_ := Aside0.mk (HT2.out.ms HM2.out (by omega))
     clear HR hW7 hrs2 HC HL HBW HT1 HT2
     have HR := HR2
     have HC := HC_
     have HL := HL_
     have HBW := HBW_
     have HT1 := HT1_
     have HT2 := HT2_
     clear HR2 HM2 yf zf HLIM HA0 HR0 HC_ HL_ HBW_ HT1_ HT2_
     clear FN FA hHeld
     go_upto_region 14 with fail
     obtain ⟨v0, a0, r0⟩ := HR.out.row 5 (by omega)
     obtain ⟨A0, k0, rfl, -⟩ := r0.form
     have xf : W7.cell? ⟨G, 72, none⟩ = _ := HR.out.bo.cell a0
     have hlim : (rs2 5).length ≤ 100000 := by rw [RS2.out, upd_ne _ _ (by decide), RS1.out, upd_ne _ _ (by decide)]; have := HLN.out; simp [stdR]; omega
     have HLIM := Aside0.mk hlim
     have HA0 := Aside0.mk a0
     have HR0 := Aside0.mk r0
     clear hlim a0 r0
     go_upto_region 15 with ((with_reducible refine gate_builtin (b := .append) (xs := #[.tmp 91, .tmp 93]) rfl ?_); at_builtin; refine print_append (w0 := W7) b rfl (.tmp 91) (.tmp 93) 61 3 (.int .i64 0) 8 rfl Tryz.underlying61 info3k rfl (by decide) (.slice A0 (rs2 5).length k0) (rs2 5) (.int .i64 x.mr) rfl rfl rfl ?aO ?aB ?aS ?aL ?_; (case aO => exact HR0.out.own); (case aB => exact Below.refl _ _); (case aS => exact HR.out.le); (case aL => have := HLIM.out; omega); intro v1 w1 ho1 hb1 hg1 hat1; obtain ⟨gq3, nq3, kq3, rfl⟩ := own_some ho1 (by simp); have hBl := HR.out.late (i := 5) (by omega) HA0.out (Below.refl _ _) hg1; have yf := (blk_cell hBl 72).trans HA0.out; have zf := blk_frozen hBl 72; obtain ⟨col3, (HR3 : RB b (w1.setCell ⟨G, 72, none⟩ _) _ G _ deep turn seen _), (HM3 : Ms b W7 _ (w1.setCell ⟨G, 72, none⟩ _) _)⟩ := HR.out.pushed (i := 5) (by omega) HA0.out (Below.refl _ _) ho1 hg1 hat1; have n0_ := Aside0.mk HR3; have n1_ := Aside0.mk HM3; clear HR3 HM3 ho1 hb1 hg1 hat1 hBl; have HR3 := n0_; have HM3 := n1_; clear n0_ n1_)
     obtain ⟨W8, hW8⟩ : ∃ W8, w1.setCell ⟨G, 72, none⟩ (.slice (some ⟨gq3, 0, none⟩) nq3 kq3) = W8 := ⟨_, rfl⟩
     rw [hW8] at HR3 HM3 ⊢
     obtain ⟨rs3, hrs3⟩ : ∃ r_, upd rs2 5 (rs2 5 ++ [.int .i64 x.mr]) = r_ := ⟨_, rfl⟩
     rw [hrs3] at HR3
     have RS3 := Aside0.mk hrs3.symm
     have HC_ := Aside0.mk (HC.out.ms HM3.out)
     have HL_ := Aside0.mk (HL.out.ms HM3.out)
     have HBW_ := Aside0.mk (HBW.out.trans HM3.out.below)
     have HT1_ := Aside0.mk (tk_ms HT1.out HM3.out (by have := HT4.out; omega))
     have HT2_ := Aside0.mk (HT2.out.ms HM3.out (by omega))
     clear HR hW8 hrs3 HC HL HBW HT1 HT2
     have HR := HR3
     have HC := HC_
     have HL := HL_
     have HBW := HBW_
     have HT1 := HT1_
     have HT2 := HT2_
     clear HR3 HM3 yf zf HLIM HA0 HR0 HC_ HL_ HBW_ HT1_ HT2_
     have yd : W8.cell? ⟨gd, k, none⟩ = some (.int .i64 x.du) := HL.out.d.cell (by simp [HX.out])
     have FN : Aside0 (∀ w', Below W8.heap.size W8 w' → w'.cell? ⟨gd, k, none⟩ = some (.int .i64 x.du)) := ⟨fun w' hb => (hb.cell (World.block_lt_of_cell? _ _ yd)).trans yd⟩
     clear yd
     obtain ⟨v0, a0, r0⟩ := HR.out.row 6 (by omega)
     obtain ⟨A0, k0, rfl, -⟩ := r0.form
     have hlim : (rs3 6).length ≤ 100000 := by rw [RS3.out, upd_ne _ _ (by decide), RS2.out, upd_ne _ _ (by decide), RS1.out, upd_ne _ _ (by decide)]; have := HLN.out; simp [stdR]; omega
     have HLIM := Aside0.mk hlim
     have HA0 := Aside0.mk a0
     have HR0 := Aside0.mk r0
     have FA : Aside0 (∀ w', Below W8.heap.size W8 w' → w'.cell? ⟨G, 73, none⟩ = _) := ⟨fun w' hb => (hb.cell (World.block_lt_of_cell? _ _ (HR.out.bo.cell a0))).trans (HR.out.bo.cell a0)⟩
     clear hlim a0 r0
     refine start_ (n := 14) (S := fun w' => w'.cell? ⟨G, 73, none⟩ = some (.slice A0 (rs3 6).length k0) ∧ w'.cell? ⟨gd, k, none⟩ = some (.int .i64 x.du) ∧ Below W8.heap.size W8 w') (ds := [10, 13]) #[false, false, false, false, false, false, false, false, false, false, false, false, false, false] (by kernel_rfl) rfl rfl ⟨(FA.out _ (below_drew (Below.refl _ _))), (FN.out _ (below_drew (Below.refl _ _))), (below_drew (Below.refl _ _))⟩ (fun hHeld => ?_)
     refine pure_ (i := 0) (N := some 97) (v := ?_) (a' := ?_) #[true, false, false, false, false, false, false, false, false, false, false, false, false, false] rfl rfl (by kernel_rfl) (fun _ _ _ h => h) (Or.inl ⟨by rfl, ?_⟩) ?_ ?_
     rotate_left
     ·intro w'
      go_simp
      with_reducible rfl
     rotate_left
     ·simp only [Act.put, List.setIfInBounds_toArray, List.set_cons_zero, List.set_cons_succ, i64_w, i32_w]
      rfl
     refine pure_ (i := 1) (N := some 98) (v := ?_) (a' := ?_) #[true, true, false, false, false, false, false, false, false, false, false, false, false, false] rfl rfl (by kernel_rfl) (fun _ _ _ h => h) (Or.inl ⟨by rfl, ?_⟩) ?_ ?_
     rotate_left
     ·intro w'
      go_simp
      with_reducible rfl
     rotate_left
     ·simp only [Act.put, List.setIfInBounds_toArray, List.set_cons_zero, List.set_cons_succ, i64_w, i32_w]
      rfl
     refine pure_ (i := 2) (N := some 99) (v := ?_) (a' := ?_) #[true, true, true, false, false, false, false, false, false, false, false, false, false, false] rfl rfl (by kernel_rfl) (fun _ _ _ h => h) (Or.inl ⟨by rfl, ?_⟩) ?_ ?_
     rotate_left
     ·intro w'
      go_simp
      with_reducible rfl
     rotate_left
     ·simp only [Act.put, List.setIfInBounds_toArray, List.set_cons_zero, List.set_cons_succ, i64_w, i32_w]
      rfl
     refine pure_ (i := 3) (N := some 100) (v := ?_) (a' := ?_) #[true, true, true, true, false, false, false, false, false, false, false, false, false, false] rfl rfl (by kernel_rfl) (fun _ _ _ h => h) (Or.inl ⟨by rfl, ?_⟩) ?_ ?_
     rotate_left
     ·intro w'
      go_simp
      with_reducible rfl
     rotate_left
     ·simp only [Act.put, List.setIfInBounds_toArray, List.set_cons_zero, List.set_cons_succ, i64_w, i32_w]
      rfl
     refine pure_ (i := 5) (N := some 102) (v := ?_) (a' := ?_) #[true, true, true, true, false, true, false, false, false, false, false, false, false, false] rfl rfl (by kernel_rfl) (fun _ _ _ h => h) (Or.inl ⟨by rfl, ?_⟩) ?_ ?_
     rotate_left
     ·intro w'
      go_simp
      with_reducible rfl
     rotate_left
     ·simp only [Act.put, List.setIfInBounds_toArray, List.set_cons_zero, List.set_cons_succ, i64_w, i32_w]
      rfl
     refine pure_ (i := 6) (N := some 103) (v := ?_) (a' := ?_) #[true, true, true, true, false, true, true, false, false, false, false, false, false, false] rfl rfl (by kernel_rfl) (fun _ _ _ h => h) (Or.inl ⟨by rfl, ?_⟩) ?_ ?_
     rotate_left
     ·intro w'
      go_simp
      with_reducible rfl
     rotate_left
     ·simp only [Act.put, List.setIfInBounds_toArray, List.set_cons_zero, List.set_cons_succ, i64_w, i32_w]
      rfl
     refine pure_ (i := 7) (N := some 104) (v := ?_) (a' := ?_) #[true, true, true, true, false, true, true, true, false, false, false, false, false, false] rfl rfl (by kernel_rfl) (fun _ _ _ h => h) (Or.inl ⟨by rfl, ?_⟩) ?_ ?_
     rotate_left
     ·intro w'
      go_simp
      with_reducible rfl
     rotate_left
     ·simp only [Act.put, List.setIfInBounds_toArray, List.set_cons_zero, List.set_cons_succ, i64_w, i32_w]
      rfl
     refine take_ (i := 4) (N := some 101) (v := ?_) (a' := ?_) #[true, true, true, true, true, true, true, true, false, false, false, false, false, false] rfl rfl (by kernel_rfl) (fun _ _ _ h => h) (Or.inl ⟨by rfl, ?_⟩) hHeld ?_ ?_
     rotate_left
     ·rintro w' ⟨s0, s1, s2⟩
      go_simp
      with_reducible rfl
     rotate_left
     ·simp only [Act.put, List.setIfInBounds_toArray, List.set_cons_zero, List.set_cons_succ, i64_w, i32_w]
      rfl
     refine take_ (i := 8) (N := some 105) (v := ?_) (a' := ?_) #[true, true, true, true, true, true, true, true, true, false, false, false, false, false] rfl rfl (by kernel_rfl) (fun _ _ _ h => h) (Or.inl ⟨by rfl, ?_⟩) hHeld ?_ ?_
     rotate_left
     ·rintro w' ⟨s0, s1, s2⟩
      go_simp
      with_reducible rfl
     rotate_left
     ·simp only [Act.put, List.setIfInBounds_toArray, List.set_cons_zero, List.set_cons_succ, i64_w, i32_w]
      rfl
     refine one_ (i := 9) (N := some 106) #[true, true, true, true, true, true, true, true, true, true, false, false, false, false] rfl rfl (by kernel_rfl) (by decide) (fun K hK => ?_)
     refine value_ (w1 := ?_) (v := ?_) (by rfl) rfl ?_ ?_
     rotate_left 2
     ·go_simp
      constructor
      ·rfl
      ·rfl
     refine hK.out _ _ ⟨(FA.out _ (below_alloc hHeld.2.2 _)), (FN.out _ (below_alloc hHeld.2.2 _)), (below_alloc hHeld.2.2 _)⟩ (fun hHeld => ?_)
     clear hK K
     refine norm_ (a' := ?_) ?_ ?_
     rotate_left
     ·show Act.put _ (some 106) _ = _
      simp only [Act.put, List.setIfInBounds_toArray, List.set_cons_zero, List.set_cons_succ, i64_w, i32_w]
      rfl
     refine last_ (i := 10) (N := some 107) #[true, true, true, true, true, true, true, true, true, true, true, false, false, false] rfl rfl (by kernel_rfl) (by decide) (fun K hK => ?_)
     refine step_row (Wc := (W8.drew.alloc (.cells #[(.int .i64 x.du)] 3))) b rfl (.tmp 101) (.tmp 106) 61 3 (.int .i64 0) 8 rfl Tryz.underlying61 info3k rfl (.slice A0 (rs3 6).length k0) (rs3 6) (.int .i64 x.du) W8.drew.heap.size rfl rfl rfl (heap_alloc_new W8.drew _) ?aO ?aS ?aL ?aM ?_
     case aO => exact pw_own_below HR0.out.own (below_alloc (below_drew (Below.refl W8.heap.size W8)) _)
     case aS => exact Nat.le_trans HR.out.le (below_alloc (below_drew (Below.refl W8.heap.size W8)) _).size
     case aL => have := HLIM.out; omega
     case aM => have := HLIM.out; omega
     intro v2 w2 ho2 hg2 hat2
     obtain ⟨gq4, nq4, kq4, rfl⟩ := own_some ho2 (by simp)
     have hBl := HR.out.late (i := 6) (by omega) HA0.out (below_alloc (below_drew (Below.refl W8.heap.size W8)) _) hg2
     have yf := (blk_cell hBl 73).trans HA0.out
     have zf := blk_frozen hBl 73
     obtain ⟨col4, (HR4 : RB b (w2.setCell ⟨G, 73, none⟩ _) _ G _ deep turn seen _), (HM4 : Ms b W8 _ (w2.setCell ⟨G, 73, none⟩ _) _)⟩ := HR.out.pushed (i := 6) (by omega) HA0.out (below_alloc (below_drew (Below.refl W8.heap.size W8)) _) ho2 hg2 (hat2.imp_right (fun ⟨k_, e_, h_⟩ => ⟨k_, e_, Nat.le_trans (below_alloc (below_drew (Below.refl W8.heap.size W8)) _).size h_⟩))
     have n0_ := Aside0.mk HR4
     have n1_ := Aside0.mk HM4
     clear HR4 HM4 ho2 hg2 hat2 hBl
     have HR4 := n0_
     have HM4 := n1_
     clear n0_ n1_
     refine hK.out _ _ ?_
     clear hK K
     refine norm_ (a' := ?_) ?_ ?_
     rotate_left
     ·show Act.put _ (some 107) _ = _
      simp only [Act.put, List.setIfInBounds_toArray, List.set_cons_zero, List.set_cons_succ, i64_w, i32_w]
      rfl
     refine pure_ (i := 11) (N := some 108) (v := ?_) (a' := ?_) #[true, true, true, true, true, true, true, true, true, true, true, true, false, false] rfl rfl (by kernel_rfl) (fun _ _ _ h => h) (Or.inl ⟨by rfl, ?_⟩) ?_ ?_
     rotate_left
     ·intro w'
      go_simp
      with_reducible rfl
     rotate_left
     ·simp only [Act.put, List.setIfInBounds_toArray, List.set_cons_zero, List.set_cons_succ, i64_w, i32_w]
      rfl
     refine pure_ (i := 12) (N := some 109) (v := ?_) (a' := ?_) #[true, true, true, true, true, true, true, true, true, true, true, true, true, false] rfl rfl (by kernel_rfl) (fun _ _ _ h => h) (Or.inl ⟨by rfl, ?_⟩) ?_ ?_
     rotate_left
     ·intro w'
      go_simp
      with_reducible rfl
     rotate_left
     ·simp only [Act.put, List.setIfInBounds_toArray, List.set_cons_zero, List.set_cons_succ, i64_w, i32_w]
      rfl
     refine last_ (i := 13) (N := none) #[true, true, true, true, true, true, true, true, true, true, true, true, true, true] rfl rfl (by kernel_rfl) (by decide) (fun K hK => ?_)
     refine skip_ (w1 := ?_) (by rfl) rfl ?_ ?_
     rotate_left
     ·go_simp
      rfl
     refine hK.out _ _ ?_
     clear hK K
     refine done_ (by kernel_rfl) ?_
     obtain ⟨W9, hW9⟩ : ∃ W9, w2.setCell ⟨G, 73, none⟩ (.slice (some ⟨gq4, 0, none⟩) nq4 kq4) = W9 := ⟨_, rfl⟩
     rw [hW9] at HR4 HM4 ⊢
     obtain ⟨rs4, hrs4⟩ : ∃ r_, upd rs3 6 (rs3 6 ++ [.int .i64 x.du]) = r_ := ⟨_, rfl⟩
     rw [hrs4] at HR4
     have RS4 := Aside0.mk hrs4.symm
     have HC_ := Aside0.mk (HC.out.ms HM4.out)
     have HL_ := Aside0.mk (HL.out.ms HM4.out)
     have HBW_ := Aside0.mk (HBW.out.trans HM4.out.below)
     have HT1_ := Aside0.mk (tk_ms HT1.out HM4.out (by have := HT4.out; omega))
     have HT2_ := Aside0.mk (HT2.out.ms HM4.out (by omega))
     clear HR hW9 hrs4 HC HL HBW HT1 HT2
     have HR := HR4
     have HC := HC_
     have HL := HL_
     have HBW := HBW_
     have HT1 := HT1_
     have HT2 := HT2_
     clear HR4 HM4 yf zf HLIM HA0 HR0 HC_ HL_ HBW_ HT1_ HT2_
     clear FN FA hHeld
     have hR9 := Aside0.mk (HR.out.congr (stdR_keep osk wk fk x HLV.out HNV.out RS1.out RS2.out RS3.out RS4.out))
     have hC9 : Aside0 (Ct PS b W9 _ osk ((wk ++ [x]) ++ ws.drop (k + 1)) fk) := ⟨by have := HC.out; simpa using this⟩
     go_wp2_with fail
     first | rw [hk1] | skip
     exact ⟨⟨k + 1, osk, wk ++ [x], fk, _, _, by omega, congrArg (Value.int .i64) (by omega), ⟨HLN.out.1, by have := HLN.out.2; simp; omega⟩, hR9.out, hC9.out, HL.out, HBW.out⟩, by simp [intOf]; omega⟩
    ·have cdue : decide (turn < x.du) = false := decide_eq_false hdue
     rw [cdue]
     clear hdue cdue
     have yn : W5.cell? ⟨gn, k, none⟩ = some (.slice nA x.xs.length nc) := by rw [← HNV.out]; exact HL.out.n.cell (by simp [HX.out])
     have x0 := HR.out.bo.cell HR.out.c0
     have x1 := HR.out.bo.cell HR.out.c1
     have HSM : Aside0 (Calls Tryz.prog 95 #[.slice lA x.xs.length lc, .slice nA x.xs.length nc] W5 fun e w' => e = .returned (.bool true) ∧ Below W5.heap.size W5 w') := ⟨by rw [← HLV.out, ← HNV.out]; exact sameK_calls (tk_rd HT1.out) HT2.out (by have := HT3.out; omega)⟩
     go_upto_region 17 with (go_at_call 95; (with_reducible refine HSM.out.mono ?_); rintro e w2 ⟨rfl, hb⟩; have z1 := (hb.cell (World.block_lt_of_cell? _ _ x1)).trans x1; have fz1 := blk_frozen (blk_below HR.out.bo.blk hb) 1; have HB2 := Aside0.mk hb; clear hb)
     obtain ⟨W6, hW6⟩ : ∃ W6, w2.setCell ⟨G, 1, none⟩ (.bool false) = W6 := ⟨_, rfl⟩
     obtain ⟨hR6, hM6⟩ := (HR.out.go HR.out.le HB2.out).setBad (Nat.le_trans HR.out.le HB2.out.size)
     rw [hW6] at hR6 hM6 ⊢
     have m6 := (Ms.of_below (col := _) HB2.out HR.out.le).trans (Ms.of_mv hM6 (by omega))
     have HC6 := Aside0.mk (HC.out.ms m6)
     have HL6 := Aside0.mk (HL.out.ms m6)
     have HB6 := Aside0.mk (HBW.out.trans m6.below)
     have HT6 := Aside0.mk (tk_ms HT1.out m6 (by have := HT4.out; omega))
     have HR6 := Aside0.mk hR6
     clear HR HC HL HBW HT1 HT2 hR6 hM6 m6 hW6 yn x0 x1 z1 fz1 HB2 HSM
     have HR := HR6
     have HC := HC6
     have HL := HL6
     have HBW := HB6
     have HT1 := Aside0.mk (show Tk b W6 _ x.tg (.slice lA x.xs.length lc) x.xs by rw [← HLV.out]; exact HT6.out)
     clear HR6 HC6 HL6 HB6 HT6
     have hb6 : b ≤ W6.heap.size := HR.out.le
     go_wp2_with fail
     go_loopw [9] (fun v9 wr2 => ∃ (i : Nat) (ys : List S57) (col6 : Col), i ≤ x.xs.length ∧ v9 = .int .i64 i ∧ Hid (ys.length = x.xs.length) ∧ Hid (Mv b W6 col' wr2 col6 x.tg) ∧ Hid (Tk b wr2 col6 x.tg (.slice lA x.xs.length lc) ys)) (fun v9 _ => x.xs.length - (intOf v9).toNat)
     case atStart => exact ⟨0, x.xs, _, by omega, rfl, rfl, Mv.of_below (Below.refl _ _) hb6, HT1.out⟩
     case round =>
      clear HT1
      obtain ⟨i, ys, col6, hi, rfl, hyl, hmv, htk⟩ := hrel
      have HYL := Aside0.mk hyl.out
      have HMV := Aside0.mk hmv.out
      have HTK := Aside0.mk htk.out
      clear hyl hmv htk
      by_cases hil : i < x.xs.length
      ·have cil : (i : Int) < (x.xs.length : Int) := by omega
       have ci0 : (0 : Int) ≤ (i : Int) := by omega
       have hi1 : wrap64 ((i : Int) + 1) = (i : Int) + 1 := Go.Proofs.YtjlclkenfmbahaaGreatDoor.Days.wr (by omega) (by have := HT3.out; omega)
       obtain ⟨gl, cl_, hfm, -⟩ := Kd.R_form HTK.out (by have := HYL.out; omega)
       injection hfm with e1 e2 e3
       subst e1
       obtain ⟨p0, ⟨z0, z1, z2, z3, z4⟩, fz⟩ := tk_cell HTK.out (i := i) (by have := HYL.out; omega)
       have HPUT := Aside0.mk (fun p => tk_put HTK.out (Nat.le_trans HMV.out.le HMV.out.size) (i := i) (by have := HYL.out; omega) p)
       clear e2 e3
       go_wp2_with fail
       rw [hi1]
       exact ⟨⟨i + 1, ys.set i ⟨0, wrap64 (x.mr + wrap64 (3 * (i : Int))), ⟨#[]⟩, 0, 0⟩, col6, by omega, congrArg (Value.int .i64) (by omega), by rw [List.length_set]; exact HYL.out, HMV.out.trans (HPUT.out ⟨0, wrap64 (x.mr + wrap64 (3 * (i : Int))), ⟨#[]⟩, 0, 0⟩).2, (HPUT.out ⟨0, wrap64 (x.mr + wrap64 (3 * (i : Int))), ⟨#[]⟩, 0, 0⟩).1⟩, by simp [intOf]; omega⟩
      ·obtain rfl : i = x.xs.length := by omega
       have cil : ¬ ((x.xs.length : Int) < (x.xs.length : Int)) := by omega
       have hR7 := Aside0.mk (HR.out.mv HMV.out (by have := HT4.out; omega))
       have hC7 := Aside0.mk (HC.out.moved HMV.out (ys := ys) (by rw [HLV.out]; exact HTK.out) HYL.out)
       have hL7 := Aside0.mk (HL.out.mv HMV.out (by have := HT4.out; omega))
       have hB7 := Aside0.mk (HBW.out.trans HMV.out.below)
       clear HR HC HL HBW HMV
       have HR := hR7
       have HC := hC7
       have HL := hL7
       have HBW := hB7
       clear hR7 hC7 hL7 hB7 hb6
       go_upto_region 21 with fail
       obtain ⟨v0, a0, r0⟩ := HR.out.row 0 (by omega)
       obtain ⟨A0, k0, rfl, -⟩ := r0.form
       have xf : wr.cell? ⟨G, 67, none⟩ = _ := HR.out.bo.cell a0
       have hlim : ((stdR osk wk fk) 0).length ≤ 100000 := by have := HLN.out; simp [stdR]; omega
       have HLIM := Aside0.mk hlim
       have HA0 := Aside0.mk a0
       have HR0 := Aside0.mk r0
       clear hlim a0 r0
       go_upto_region 22 with ((with_reducible refine gate_builtin (b := .append) (xs := #[.tmp 151, .tmp 153]) rfl ?_); at_builtin; refine print_append (w0 := wr) b rfl (.tmp 151) (.tmp 153) 33 22 (.slice none 0 0) 24 rfl Tryz.underlying33 info22k rfl (by decide) (.slice A0 ((stdR osk wk fk) 0).length k0) ((stdR osk wk fk) 0) (.slice lA x.xs.length lc) rfl rfl rfl ?aO ?aB ?aS ?aL ?_; (case aO => exact HR0.out.own); (case aB => exact Below.refl _ _); (case aS => exact HR.out.le); (case aL => have := HLIM.out; omega); intro v1 w1 ho1 hb1 hg1 hat1; obtain ⟨gq1, nq1, kq1, rfl⟩ := own_some ho1 (by simp); have hBl := HR.out.late (i := 0) (by omega) HA0.out (Below.refl _ _) hg1; have yf := (blk_cell hBl 67).trans HA0.out; have zf := blk_frozen hBl 67; obtain ⟨col1, (HR1 : RB b (w1.setCell ⟨G, 67, none⟩ _) _ G _ deep turn seen _), (HM1 : Ms b wr _ (w1.setCell ⟨G, 67, none⟩ _) _)⟩ := HR.out.pushed (i := 0) (by omega) HA0.out (Below.refl _ _) ho1 hg1 hat1; have n0_ := Aside0.mk HR1; have n1_ := Aside0.mk HM1; clear HR1 HM1 ho1 hb1 hg1 hat1 hBl; have HR1 := n0_; have HM1 := n1_; clear n0_ n1_)
       obtain ⟨W7, hW7⟩ : ∃ W7, w1.setCell ⟨G, 67, none⟩ (.slice (some ⟨gq1, 0, none⟩) nq1 kq1) = W7 := ⟨_, rfl⟩
       rw [hW7] at HR1 HM1 ⊢
       obtain ⟨rs1, hrs1⟩ : ∃ r_, upd (stdR osk wk fk) 0 ((stdR osk wk fk) 0 ++ [.slice lA x.xs.length lc]) = r_ := ⟨_, rfl⟩
       rw [hrs1] at HR1
       have RS1 := Aside0.mk hrs1.symm
       have HC_ := Aside0.mk (HC.out.ms HM1.out)
       have HL_ := Aside0.mk (HL.out.ms HM1.out)
       have HBW_ := Aside0.mk (HBW.out.trans HM1.out.below)
       have HTK_ := Aside0.mk (tk_ms HTK.out HM1.out (by have := HT4.out; omega))
       clear HR hW7 hrs1 HC HL HBW HTK
       have HR := HR1
       have HC := HC_
       have HL := HL_
       have HBW := HBW_
       have HTK := HTK_
       clear HR1 HM1 yf zf HLIM HA0 HR0 HC_ HL_ HBW_ HTK_
       have RL : Aside0 (∀ w', Below W7.heap.size W7 w' → Kd.C k57 w' lA x.xs.length ys) := ⟨fun w' hb => by have h_ := (Kd.R_reads' HTK.out).2.2; rw [HYL.out] at h_; exact Kd.C_below h_ hb⟩
       have HZ : Aside0 (x.xs.length ≤ 100000) := ⟨by have := HT3.out; omega⟩
       obtain ⟨v0, a0, r0⟩ := HR.out.row 1 (by omega)
       obtain ⟨A0, k0, rfl, -⟩ := r0.form
       have hlim : (rs1 1).length ≤ 100000 := by rw [RS1.out, upd_ne _ _ (by decide)]; have := HLN.out; simp [stdR]; omega
       have HLIM := Aside0.mk hlim
       have HA0 := Aside0.mk a0
       have HR0 := Aside0.mk r0
       have FA : Aside0 (∀ w', Below W7.heap.size W7 w' → w'.cell? ⟨G, 68, none⟩ = _) := ⟨fun w' hb => (hb.cell (World.block_lt_of_cell? _ _ (HR.out.bo.cell a0))).trans (HR.out.bo.cell a0)⟩
       clear hlim a0 r0
       refine start_ (n := 13) (S := fun w' => w'.cell? ⟨G, 68, none⟩ = some (.slice A0 (rs1 1).length k0) ∧ Below W7.heap.size W7 w') (ds := [9, 12]) #[false, false, false, false, false, false, false, false, false, false, false, false, false] (by kernel_rfl) rfl rfl ⟨(FA.out _ (below_drew (Below.refl _ _))), (below_drew (Below.refl _ _))⟩ (fun hHeld => ?_)
       refine pure_ (i := 0) (N := some 157) (v := ?_) (a' := ?_) #[true, false, false, false, false, false, false, false, false, false, false, false, false] rfl rfl (by kernel_rfl) (fun _ _ _ h => h) (Or.inl ⟨by rfl, ?_⟩) ?_ ?_
       rotate_left
       ·intro w'
        go_simp
        with_reducible rfl
       rotate_left
       ·simp only [Act.put, List.setIfInBounds_toArray, List.set_cons_zero, List.set_cons_succ, i64_w, i32_w]
        rfl
       refine pure_ (i := 1) (N := some 158) (v := ?_) (a' := ?_) #[true, true, false, false, false, false, false, false, false, false, false, false, false] rfl rfl (by kernel_rfl) (fun _ _ _ h => h) (Or.inl ⟨by rfl, ?_⟩) ?_ ?_
       rotate_left
       ·intro w'
        go_simp
        with_reducible rfl
       rotate_left
       ·simp only [Act.put, List.setIfInBounds_toArray, List.set_cons_zero, List.set_cons_succ, i64_w, i32_w]
        rfl
       refine pure_ (i := 2) (N := some 159) (v := ?_) (a' := ?_) #[true, true, true, false, false, false, false, false, false, false, false, false, false] rfl rfl (by kernel_rfl) (fun _ _ _ h => h) (Or.inl ⟨by rfl, ?_⟩) ?_ ?_
       rotate_left
       ·intro w'
        go_simp
        with_reducible rfl
       rotate_left
       ·simp only [Act.put, List.setIfInBounds_toArray, List.set_cons_zero, List.set_cons_succ, i64_w, i32_w]
        rfl
       refine pure_ (i := 3) (N := some 160) (v := ?_) (a' := ?_) #[true, true, true, true, false, false, false, false, false, false, false, false, false] rfl rfl (by kernel_rfl) (fun _ _ _ h => h) (Or.inl ⟨by rfl, ?_⟩) ?_ ?_
       rotate_left
       ·intro w'
        go_simp
        with_reducible rfl
       rotate_left
       ·simp only [Act.put, List.setIfInBounds_toArray, List.set_cons_zero, List.set_cons_succ, i64_w, i32_w]
        rfl
       refine pure_ (i := 6) (N := some 163) (v := ?_) (a' := ?_) #[true, true, true, true, false, false, true, false, false, false, false, false, false] rfl rfl (by kernel_rfl) (fun _ _ _ h => h) (Or.inl ⟨by rfl, ?_⟩) ?_ ?_
       rotate_left
       ·intro w'
        go_simp
        with_reducible rfl
       rotate_left
       ·simp only [Act.put, List.setIfInBounds_toArray, List.set_cons_zero, List.set_cons_succ, i64_w, i32_w]
        rfl
       refine take_ (i := 4) (N := some 161) (v := ?_) (a' := ?_) #[true, true, true, true, true, false, true, false, false, false, false, false, false] rfl rfl (by kernel_rfl) (fun _ _ _ h => h) (Or.inl ⟨by rfl, ?_⟩) hHeld ?_ ?_
       rotate_left
       ·rintro w' ⟨s0, s1⟩
        go_simp
        with_reducible rfl
       rotate_left
       ·simp only [Act.put, List.setIfInBounds_toArray, List.set_cons_zero, List.set_cons_succ, i64_w, i32_w]
        rfl
       refine one_ (i := 5) (N := some 162) #[true, true, true, true, true, true, true, false, false, false, false, false, false] rfl rfl (by kernel_rfl) (by decide) (fun K hK => ?_)
       refine value_ (w1 := ?_) (v := ?_) (by rfl) rfl ?_ ?_
       rotate_left 2
       ·go_simp
        constructor
        ·rfl
        ·rfl
       refine hK.out _ _ ⟨(FA.out _ (below_alloc hHeld.2 _)), (below_alloc hHeld.2 _)⟩ (fun hHeld => ?_)
       clear hK K
       refine norm_ (a' := ?_) ?_ ?_
       rotate_left
       ·show Act.put _ (some 162) _ = _
        simp only [Act.put, List.setIfInBounds_toArray, List.set_cons_zero, List.set_cons_succ, i64_w, i32_w]
        rfl
       refine one_ (i := 7) (N := some 164) #[true, true, true, true, true, true, true, true, false, false, false, false, false] rfl rfl (by kernel_rfl) (by decide) (fun K hK => ?_)
       refine Kd.R_append_rows_step k57 (Rr := k57.K (W7.drew.alloc (.cells #[] 57))) (w0 := W7) W7.heap.size (by first | rfl | simp [Region.wanted]) (.tmp 162) (.tmp 163) 22 57 (.agg #[(.int .i64 0), (.int .i64 0), (.string ⟨#[]⟩), (.int .i64 0), (.int .i64 0)]) 48 rfl Tryz.underlying22 info57 rfl (by decide) (by decide) (.slice (some ⟨W7.heap.size, 0, none⟩) 0 0) [] ys lA x.xs.length lc (fun _ => True) (fun _ => False) rfl rfl ?aO ?aR ?aK (fun _ hk => hk.elim) (fun _ _ => trivial) ?aB ?aS ?aL ?_
       case aO => exact made_empty (W := W7) (Wc := W7.drew) (below_drew (Below.refl _ _))
       case aR => exact RL.out _ hHeld.2
       case aK => intro x_ cs_ hp_; rw [k57_open hp_]; exact k57_mkM _ _ _ x_
       case aB => exact hHeld.2
       case aS => exact hHeld.2.size
       case aL => have := HZ.out; simp; omega
       intro v1 w1 ho1 hb1 hg1 hat1
       rw [List.nil_append] at ho1
       obtain ⟨gc2, nc2, kc2, rfl⟩ := tok_some ho1
       have HO1 := Aside0.mk ho1
       have HB1 := Aside0.mk hb1
       clear ho1 hb1 hg1 hat1
       refine hK.out _ _ ⟨(FA.out _ HB1.out), HB1.out⟩ (fun hHeld => ?_)
       clear hK K
       refine norm_ (a' := ?_) ?_ ?_
       rotate_left
       ·show Act.put _ (some 164) _ = _
        simp only [Act.put, List.setIfInBounds_toArray, List.set_cons_zero, List.set_cons_succ, i64_w, i32_w]
        rfl
       refine one_ (i := 8) (N := some 165) #[true, true, true, true, true, true, true, true, true, false, false, false, false] rfl rfl (by kernel_rfl) (by decide) (fun K hK => ?_)
       refine value_ (w1 := ?_) (v := ?_) (by rfl) rfl ?_ ?_
       rotate_left 2
       ·go_simp
        constructor
        ·rfl
        ·rfl
       refine hK.out _ _ ⟨(FA.out _ (below_alloc hHeld.2 _)), (below_alloc hHeld.2 _)⟩ (fun hHeld => ?_)
       clear hK K
       refine norm_ (a' := ?_) ?_ ?_
       rotate_left
       ·show Act.put _ (some 165) _ = _
        simp only [Act.put, List.setIfInBounds_toArray, List.set_cons_zero, List.set_cons_succ, i64_w, i32_w]
        rfl
       refine last_ (i := 9) (N := some 166) #[true, true, true, true, true, true, true, true, true, true, false, false, false] rfl rfl (by kernel_rfl) (by decide) (fun K hK => ?_)
       refine step_row (Wc := w1.alloc (.cells #[(.slice gc2 nc2 kc2)] 22)) b rfl (.tmp 161) (.tmp 165) 33 22 (.slice none 0 0) 24 rfl Tryz.underlying33 info22k rfl (.slice A0 (rs1 1).length k0) (rs1 1) (.slice gc2 nc2 kc2) w1.heap.size rfl rfl rfl (heap_alloc_new w1 _) ?aO ?aS ?aL ?aM ?_
       case aO => exact pw_own_below HR0.out.own (below_alloc HB1.out _)
       case aS => exact Nat.le_trans HR.out.le (below_alloc HB1.out _).size
       case aL => have := HLIM.out; omega
       case aM => have := HLIM.out; omega
       intro v2 w2 ho2 hg2 hat2
       obtain ⟨gq2, nq2, kq2, rfl⟩ := own_some ho2 (by simp)
       have hBl := HR.out.late (i := 1) (by omega) HA0.out (below_alloc HB1.out _) hg2
       have yf := (blk_cell hBl 68).trans HA0.out
       have zf := blk_frozen hBl 68
       have hRc := HR.out.mv (Mv.of_new (s := 20) (t := 30) HB1.out HR.out.le) (by omega)
       obtain ⟨col2, (HR2 : RB b (w2.setCell ⟨G, 68, none⟩ _) _ G _ deep turn seen _), (HMc2 : Ms b w1 _ (w2.setCell ⟨G, 68, none⟩ _) _)⟩ := hRc.pushed (i := 1) (by omega) HA0.out (below_alloc (Below.refl w1.heap.size w1) _) ho2 hg2 (hat2.imp_right (fun ⟨k_, e_, h_⟩ => ⟨k_, e_, Nat.le_trans (below_alloc (Below.refl w1.heap.size w1) _).size h_⟩))
       have HM2 := (Ms.of_new HB1.out HR.out.le 20).trans HMc2
       have HW2 := Aside0.mk (Rd.ms (fresh_rd HO1.out _) HMc2 (by omega))
       have n0_ := Aside0.mk HR2
       have n1_ := Aside0.mk HM2
       clear HR2 HM2 HMc2 hRc ho2 hg2 hat2 hBl
       have HR2 := n0_
       have HM2 := n1_
       clear n0_ n1_
       refine hK.out _ _ ?_
       clear hK K
       refine norm_ (a' := ?_) ?_ ?_
       rotate_left
       ·show Act.put _ (some 166) _ = _
        simp only [Act.put, List.setIfInBounds_toArray, List.set_cons_zero, List.set_cons_succ, i64_w, i32_w]
        rfl
       refine pure_ (i := 10) (N := some 167) (v := ?_) (a' := ?_) #[true, true, true, true, true, true, true, true, true, true, true, false, false] rfl rfl (by kernel_rfl) (fun _ _ _ h => h) (Or.inl ⟨by rfl, ?_⟩) ?_ ?_
       rotate_left
       ·intro w'
        go_simp
        with_reducible rfl
       rotate_left
       ·simp only [Act.put, List.setIfInBounds_toArray, List.set_cons_zero, List.set_cons_succ, i64_w, i32_w]
        rfl
       refine pure_ (i := 11) (N := some 168) (v := ?_) (a' := ?_) #[true, true, true, true, true, true, true, true, true, true, true, true, false] rfl rfl (by kernel_rfl) (fun _ _ _ h => h) (Or.inl ⟨by rfl, ?_⟩) ?_ ?_
       rotate_left
       ·intro w'
        go_simp
        with_reducible rfl
       rotate_left
       ·simp only [Act.put, List.setIfInBounds_toArray, List.set_cons_zero, List.set_cons_succ, i64_w, i32_w]
        rfl
       refine last_ (i := 12) (N := none) #[true, true, true, true, true, true, true, true, true, true, true, true, true] rfl rfl (by kernel_rfl) (by decide) (fun K hK => ?_)
       refine skip_ (w1 := ?_) (by rfl) rfl ?_ ?_
       rotate_left
       ·go_simp
        rfl
       refine hK.out _ _ ?_
       clear hK K
       refine done_ (by kernel_rfl) ?_
       obtain ⟨W8, hW8⟩ : ∃ W8, w2.setCell ⟨G, 68, none⟩ (.slice (some ⟨gq2, 0, none⟩) nq2 kq2) = W8 := ⟨_, rfl⟩
       rw [hW8] at HR2 HM2 HW2 ⊢
       obtain ⟨rs2, hrs2⟩ : ∃ r_, upd rs1 1 (rs1 1 ++ [.slice gc2 nc2 kc2]) = r_ := ⟨_, rfl⟩
       rw [hrs2] at HR2
       have RS2 := Aside0.mk hrs2.symm
       have HC_ := Aside0.mk (HC.out.ms HM2.out)
       have HL_ := Aside0.mk (HL.out.ms HM2.out)
       have HBW_ := Aside0.mk (HBW.out.trans HM2.out.below)
       have HTK_ := Aside0.mk (tk_ms HTK.out HM2.out (by have := HT4.out; omega))
       clear HR hW8 hrs2 HC HL HBW HTK
       have HR := HR2
       have HC := HC_
       have HL := HL_
       have HBW := HBW_
       have HTK := HTK_
       clear HR2 HM2 yf zf HLIM HA0 HR0 HC_ HL_ HBW_ HTK_
       clear RL FA hHeld HB1 HO1
       go_upto_region 23 with fail
       obtain ⟨v0, a0, r0⟩ := HR.out.row 4 (by omega)
       obtain ⟨A0, k0, rfl, -⟩ := r0.form
       have xf : W8.cell? ⟨G, 71, none⟩ = _ := HR.out.bo.cell a0
       have hlim : (rs2 4).length ≤ 100000 := by rw [RS2.out, upd_ne _ _ (by decide), RS1.out, upd_ne _ _ (by decide)]; have := HLN.out; simp [stdR]; omega
       have HLIM := Aside0.mk hlim
       have HA0 := Aside0.mk a0
       have HR0 := Aside0.mk r0
       clear hlim a0 r0
       go_upto_region 24 with ((with_reducible refine gate_builtin (b := .append) (xs := #[.tmp 173, .tmp 175]) rfl ?_); at_builtin; refine print_append (w0 := W8) b rfl (.tmp 173) (.tmp 175) 33 22 (.slice none 0 0) 24 rfl Tryz.underlying33 info22k rfl (by decide) (.slice A0 (rs2 4).length k0) (rs2 4) (.slice lA x.xs.length lc) rfl rfl rfl ?aO ?aB ?aS ?aL ?_; (case aO => exact HR0.out.own); (case aB => exact Below.refl _ _); (case aS => exact HR.out.le); (case aL => have := HLIM.out; omega); intro v1 w1 ho1 hb1 hg1 hat1; obtain ⟨gq3, nq3, kq3, rfl⟩ := own_some ho1 (by simp); have hBl := HR.out.late (i := 4) (by omega) HA0.out (Below.refl _ _) hg1; have yf := (blk_cell hBl 71).trans HA0.out; have zf := blk_frozen hBl 71; obtain ⟨col3, (HR3 : RB b (w1.setCell ⟨G, 71, none⟩ _) _ G _ deep turn seen _), (HM3 : Ms b W8 _ (w1.setCell ⟨G, 71, none⟩ _) _)⟩ := HR.out.pushed (i := 4) (by omega) HA0.out (Below.refl _ _) ho1 hg1 hat1; have n0_ := Aside0.mk HR3; have n1_ := Aside0.mk HM3; clear HR3 HM3 ho1 hb1 hg1 hat1 hBl; have HR3 := n0_; have HM3 := n1_; clear n0_ n1_)
       obtain ⟨W9, hW9⟩ : ∃ W9, w1.setCell ⟨G, 71, none⟩ (.slice (some ⟨gq3, 0, none⟩) nq3 kq3) = W9 := ⟨_, rfl⟩
       rw [hW9] at HR3 HM3 ⊢
       obtain ⟨rs3, hrs3⟩ : ∃ r_, upd rs2 4 (rs2 4 ++ [.slice lA x.xs.length lc]) = r_ := ⟨_, rfl⟩
       rw [hrs3] at HR3
       have RS3 := Aside0.mk hrs3.symm
       have HC_ := Aside0.mk (HC.out.ms HM3.out)
       have HL_ := Aside0.mk (HL.out.ms HM3.out)
       have HBW_ := Aside0.mk (HBW.out.trans HM3.out.below)
       have HTK_ := Aside0.mk (tk_ms HTK.out HM3.out (by have := HT4.out; omega))
       have HW2_ := Aside0.mk (HW2.out.ms HM3.out (by omega))
       clear HR hW9 hrs3 HC HL HBW HTK HW2
       have HR := HR3
       have HC := HC_
       have HL := HL_
       have HBW := HBW_
       have HTK := HTK_
       have HW2 := HW2_
       clear HR3 HM3 yf zf HLIM HA0 HR0 HC_ HL_ HBW_ HTK_ HW2_
       go_upto_region 24 with fail
       obtain ⟨v0, a0, r0⟩ := HR.out.row 7 (by omega)
       obtain ⟨A0, k0, rfl, -⟩ := r0.form
       have xf : W9.cell? ⟨G, 74, none⟩ = _ := HR.out.bo.cell a0
       have hlim : (rs3 7).length ≤ 100000 := by rw [RS3.out, upd_ne _ _ (by decide), RS2.out, upd_ne _ _ (by decide), RS1.out, upd_ne _ _ (by decide)]; have := HLN.out; simp [stdR]; omega
       have HLIM := Aside0.mk hlim
       have HA0 := Aside0.mk a0
       have HR0 := Aside0.mk r0
       clear hlim a0 r0
       go_upto_region 8 with ((with_reducible refine gate_builtin (b := .append) (xs := #[.tmp 183, .tmp 185]) rfl ?_); at_builtin; refine print_append (w0 := W9) b rfl (.tmp 183) (.tmp 185) 61 3 (.int .i64 0) 8 rfl Tryz.underlying61 info3k rfl (by decide) (.slice A0 (rs3 7).length k0) (rs3 7) (.int .i64 x.mr) rfl rfl rfl ?aO ?aB ?aS ?aL ?_; (case aO => exact HR0.out.own); (case aB => exact Below.refl _ _); (case aS => exact HR.out.le); (case aL => have := HLIM.out; omega); intro v1 w1 ho1 hb1 hg1 hat1; obtain ⟨gq4, nq4, kq4, rfl⟩ := own_some ho1 (by simp); have hBl := HR.out.late (i := 7) (by omega) HA0.out (Below.refl _ _) hg1; have yf := (blk_cell hBl 74).trans HA0.out; have zf := blk_frozen hBl 74; obtain ⟨col4, (HR4 : RB b (w1.setCell ⟨G, 74, none⟩ _) _ G _ deep turn seen _), (HM4 : Ms b W9 _ (w1.setCell ⟨G, 74, none⟩ _) _)⟩ := HR.out.pushed (i := 7) (by omega) HA0.out (Below.refl _ _) ho1 hg1 hat1; have n0_ := Aside0.mk HR4; have n1_ := Aside0.mk HM4; clear HR4 HM4 ho1 hb1 hg1 hat1 hBl; have HR4 := n0_; have HM4 := n1_; clear n0_ n1_)
       obtain ⟨W10, hW10⟩ : ∃ W10, w1.setCell ⟨G, 74, none⟩ (.slice (some ⟨gq4, 0, none⟩) nq4 kq4) = W10 := ⟨_, rfl⟩
       rw [hW10] at HR4 HM4 ⊢
       obtain ⟨rs4, hrs4⟩ : ∃ r_, upd rs3 7 (rs3 7 ++ [.int .i64 x.mr]) = r_ := ⟨_, rfl⟩
       rw [hrs4] at HR4
       have RS4 := Aside0.mk hrs4.symm
       have HC_ := Aside0.mk (HC.out.ms HM4.out)
       have HL_ := Aside0.mk (HL.out.ms HM4.out)
       have HBW_ := Aside0.mk (HBW.out.trans HM4.out.below)
       have HTK_ := Aside0.mk (tk_ms HTK.out HM4.out (by have := HT4.out; omega))
       have HW2_ := Aside0.mk (HW2.out.ms HM4.out (by omega))
       clear HR hW10 hrs4 HC HL HBW HTK HW2
       have HR := HR4
       have HC := HC_
       have HL := HL_
       have HBW := HBW_
       have HTK := HTK_
       have HW2 := HW2_
       clear HR4 HM4 yf zf HLIM HA0 HR0 HC_ HL_ HBW_ HTK_ HW2_
       have hR9 := Aside0.mk (HR.out.congr (stdR_fresh osk wk fk x ys (.slice gc2 nc2 kc2) HLV.out RS1.out RS2.out RS3.out RS4.out))
       have hC9 := Aside0.mk (HC.out.addF (x := ⟨x.v, x.nt, ys, x.mr, x.du, x.tg⟩) HW2.out)
       go_wp2_with fail
       first | rw [hk1] | skip
       exact ⟨⟨k + 1, _, wk, _, _, _, by omega, congrArg (Value.int .i64) (by omega), ⟨by have := HLN.out.1; simp; omega, by have := HLN.out.2; simp; omega⟩, hR9.out, hC9.out, HL.out, HBW.out⟩, by simp [intOf]; omega⟩
   ·obtain rfl : k = ws.length := by omega
    have cin : ¬ ((ws.length : Int) < (ws.length : Int)) := by omega
    have hC9 := HC.out
    rw [List.drop_length, List.append_nil] at hC9
    have hP : Aside0 (MkPost PS b W G deep turn seen os ws wr) := ⟨⟨osk, wk, fk, _, _, HLN.out.1, HLN.out.2, HR.out, hC9, HBW.out⟩⟩
    clear hC9
    go_wp2_with fail
    exact bodyPost_end rfl rfl ⟨rfl, hP.out⟩
end Go.Proofs.YtjlclkenfmbahaaGreatDoor.PA
