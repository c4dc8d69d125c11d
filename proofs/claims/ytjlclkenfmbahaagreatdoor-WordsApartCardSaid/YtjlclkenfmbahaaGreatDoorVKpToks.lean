/- The book's Tokens, walked by hand: a list that was handed out is kept, and what is due is written over and laid on. Condition: the book is as KpSt has it, the list lies in memory of its own. -/
import Derived.Test.YtjlclkenfmbahaaGreatDoorVKpDone
import Derived.Test.YtjlclkenfmbahaaGreatDoorVKpHold
namespace Go.Proofs.YtjlclkenfmbahaaGreatDoor.PA
open Go.RowKit Go.Maps Go.Proofs.YtjlclkenfmbahaaGreatDoorW.PrintWords Go.Proofs.YtjlclkenfmbahaaGreatDoorW.PrintLast Go.Proofs.YtjlclkenfmbahaaGreatDoorW.PrintMore
set_option linter.unusedVariables false
set_option linter.unusedSimpArgs false
set_option maxRecDepth 100000
set_option maxHeartbeats 8000000
variable {PS : List (Value × List S57)}
theorem bookTokens_calls {b : Nat} {W0 W : World} {col : Col} {G : Nat} {cg : Array Value} {turn seen : Int} {os : List Ot} {ws : List Wt} {n : Nat} {lv : Value} {xs : List S57} (mk : Int) (h : RB b W0 col G cg 0 turn seen (stdR os ws [])) (hc : Ct PS b W0 col os ws []) (hB : Below W0.heap.size W0 W)
  (hl : Kd.R k57 57 W W0.heap.size (fun _ => True) lv xs) (hxl : xs.length ≤ 90000) (hlo : os.length + 2 * ws.length ≤ n) (hn : n ≤ 800) :
  Calls Tryz.prog 13 #[.pointer (some ⟨G, 0, none⟩), lv, .int .i64 mk] W fun e w' => e = .returned (.tuple #[]) ∧ ∃ t s, BkOk PS b W0 G 0 t s (n + 2) w' := by
 obtain ⟨tg, g1, g2, g3⟩ := fresh_tag os ws
 obtain ⟨lA, lc, hlv⟩ := Kd.R_slice hl
 subst hlv
 have h1 := h.mv (Mv.of_new (s := tg) (t := 30) hB h.le) (by omega)
 have hc1 := hc.ms (Ms.of_new hB h.le tg)
 have tk1 : Tk b W (colNew col W0.heap.size tg) tg (.slice lA xs.length lc) xs := Kd.R_lower (Kd.R_mono (Kd.R_bound hl) (fun k hk => colNew_ge hk.2.1)) h.le
 have x3 := h1.bo.cell h1.c3
 have f3 := blk_frozen h1.bo.blk 3
 have HBW0 := Aside0.mk (hB.mono h.le)
 obtain ⟨hR, hM⟩ := h1.setDeep h1.le 1
 obtain ⟨W1, hW1⟩ : ∃ W1, W.setCell ⟨G, 3, none⟩ (.int .i64 1) = W1 := ⟨_, rfl⟩
 rw [hW1] at hR hM
 have HR := Aside0.mk hR
 have HC := Aside0.mk (hc1.mv hM (by omega) (by omega))
 have HTK := Aside0.mk (tk_mv tk1 hM (by omega))
 have HBW := Aside0.mk (HBW0.out.trans hM.below)
 have HG1 := Aside0.mk g1
 have HG2 := Aside0.mk g2
 have HG3 := Aside0.mk g3
 have HXL := Aside0.mk hxl
 clear h hc hB hl h1 hc1 tk1 hR hM HBW0 g1 g2 g3 hxl
 go_enter Tryz.func13, Tryz.ntmps13
 go_upto_region 1 with fail
 first | rw [hW1] | skip
 clear hW1 x3 f3
 obtain ⟨v0, a0, r0⟩ := HR.out.row 2 (by omega)
 obtain ⟨A0, k0, rfl, -⟩ := r0.form
 have xf : W1.cell? ⟨G, 69, none⟩ = _ := HR.out.bo.cell a0
 have hlim : ((stdR os ws []) 2).length ≤ 100000 := by simp [stdR]; omega
 have HLIM := Aside0.mk hlim
 have HA0 := Aside0.mk a0
 have HR0 := Aside0.mk r0
 clear hlim a0 r0
 go_upto_region 2 with ((with_reducible refine gate_builtin (b := .append) (xs := #[.tmp 17, .tmp 19]) rfl ?_); at_builtin; refine print_append (w0 := W1) b rfl (.tmp 17) (.tmp 19) 33 22 (.slice none 0 0) 24 rfl Tryz.underlying33 info22k rfl (by decide) (.slice A0 ((stdR os ws []) 2).length k0) ((stdR os ws []) 2) (.slice lA xs.length lc) rfl rfl rfl ?aO ?aB ?aS ?aL ?_; (case aO => exact HR0.out.own); (case aB => exact Below.refl _ _); (case aS => exact HR.out.le); (case aL => have := HLIM.out; omega); intro v1 w1 ho1 hb1 hg1 hat1; obtain ⟨gq1, nq1, kq1, rfl⟩ := own_some ho1 (by simp); have hBl := HR.out.late (i := 2) (by omega) HA0.out (Below.refl _ _) hg1; have yf := (blk_cell hBl 69).trans HA0.out; have zf := blk_frozen hBl 69; obtain ⟨col1, (HR1 : RB b (w1.setCell ⟨G, 69, none⟩ _) _ G _ 1 turn seen _), (HM1 : Ms b W1 _ (w1.setCell ⟨G, 69, none⟩ _) _)⟩ := HR.out.pushed (i := 2) (by omega) HA0.out (Below.refl _ _) ho1 hg1 hat1; have n0_ := Aside0.mk HR1; have n1_ := Aside0.mk HM1; clear HR1 HM1 ho1 hb1 hg1 hat1 hBl; have HR1 := n0_; have HM1 := n1_; clear n0_ n1_)
 obtain ⟨W2, hW2⟩ : ∃ W2, w1.setCell ⟨G, 69, none⟩ (.slice (some ⟨gq1, 0, none⟩) nq1 kq1) = W2 := ⟨_, rfl⟩
 rw [hW2] at HR1 HM1 ⊢
 obtain ⟨rs1, hrs1⟩ : ∃ r_, upd (stdR os ws []) 2 ((stdR os ws []) 2 ++ [.slice lA xs.length lc]) = r_ := ⟨_, rfl⟩
 rw [hrs1] at HR1
 have RS1 := Aside0.mk hrs1.symm
 have HC_ := Aside0.mk (HC.out.ms HM1.out)
 have HBW_ := Aside0.mk (HBW.out.trans HM1.out.below)
 have HTK_ := Aside0.mk (tk_ms HTK.out HM1.out (by have := HG1.out; omega))
 clear HR hW2 hrs1 HC HBW HTK
 have HR := HR1
 have HC := HC_
 have HBW := HBW_
 have HTK := HTK_
 clear HR1 HM1 yf zf HLIM HA0 HR0 HC_ HBW_ HTK_
 have RL : Aside0 (∀ w', Below W2.heap.size W2 w' → Kd.C k57 w' lA xs.length xs) := ⟨fun w' hb => Kd.C_below (Kd.R_reads' HTK.out).2.2 hb⟩
 have HZ : Aside0 (xs.length ≤ 100000) := ⟨by have := HXL.out; omega⟩
 obtain ⟨v0, a0, r0⟩ := HR.out.row 3 (by omega)
 obtain ⟨A0, k0, rfl, -⟩ := r0.form
 have hlim : (rs1 3).length ≤ 100000 := by rw [RS1.out, upd_ne _ _ (by decide)]; simp [stdR]; omega
 have HLIM := Aside0.mk hlim
 have HA0 := Aside0.mk a0
 have HR0 := Aside0.mk r0
 have FA : Aside0 (∀ w', Below W2.heap.size W2 w' → w'.cell? ⟨G, 70, none⟩ = _) := ⟨fun w' hb => (hb.cell (World.block_lt_of_cell? _ _ (HR.out.bo.cell a0))).trans (HR.out.bo.cell a0)⟩
 clear hlim a0 r0
 refine start_ (n := 13) (S := fun w' => w'.cell? ⟨G, 70, none⟩ = some (.slice A0 (rs1 3).length k0) ∧ Below W2.heap.size W2 w') (ds := [9, 12]) #[false, false, false, false, false, false, false, false, false, false, false, false, false] (by kernel_rfl) rfl rfl ⟨(FA.out _ (below_drew (Below.refl _ _))), (below_drew (Below.refl _ _))⟩ (fun hHeld => ?_)
 refine pure_ (i := 0) (N := some 23) (v := ?_) (a' := ?_) #[true, false, false, false, false, false, false, false, false, false, false, false, false] rfl rfl (by kernel_rfl) (fun _ _ _ h => h) (Or.inl ⟨by rfl, ?_⟩) ?_ ?_
 rotate_left
 ·intro w'
  go_simp
  with_reducible rfl
 rotate_left
 ·simp only [Act.put, List.setIfInBounds_toArray, List.set_cons_zero, List.set_cons_succ, i64_w, i32_w]
  rfl
 refine pure_ (i := 1) (N := some 24) (v := ?_) (a' := ?_) #[true, true, false, false, false, false, false, false, false, false, false, false, false] rfl rfl (by kernel_rfl) (fun _ _ _ h => h) (Or.inl ⟨by rfl, ?_⟩) ?_ ?_
 rotate_left
 ·intro w'
  go_simp
  with_reducible rfl
 rotate_left
 ·simp only [Act.put, List.setIfInBounds_toArray, List.set_cons_zero, List.set_cons_succ, i64_w, i32_w]
  rfl
 refine pure_ (i := 2) (N := some 25) (v := ?_) (a' := ?_) #[true, true, true, false, false, false, false, false, false, false, false, false, false] rfl rfl (by kernel_rfl) (fun _ _ _ h => h) (Or.inl ⟨by rfl, ?_⟩) ?_ ?_
 rotate_left
 ·intro w'
  go_simp
  with_reducible rfl
 rotate_left
 ·simp only [Act.put, List.setIfInBounds_toArray, List.set_cons_zero, List.set_cons_succ, i64_w, i32_w]
  rfl
 refine pure_ (i := 3) (N := some 26) (v := ?_) (a' := ?_) #[true, true, true, true, false, false, false, false, false, false, false, false, false] rfl rfl (by kernel_rfl) (fun _ _ _ h => h) (Or.inl ⟨by rfl, ?_⟩) ?_ ?_
 rotate_left
 ·intro w'
  go_simp
  with_reducible rfl
 rotate_left
 ·simp only [Act.put, List.setIfInBounds_toArray, List.set_cons_zero, List.set_cons_succ, i64_w, i32_w]
  rfl
 refine pure_ (i := 6) (N := some 29) (v := ?_) (a' := ?_) #[true, true, true, true, false, false, true, false, false, false, false, false, false] rfl rfl (by kernel_rfl) (fun _ _ _ h => h) (Or.inl ⟨by rfl, ?_⟩) ?_ ?_
 rotate_left
 ·intro w'
  go_simp
  with_reducible rfl
 rotate_left
 ·simp only [Act.put, List.setIfInBounds_toArray, List.set_cons_zero, List.set_cons_succ, i64_w, i32_w]
  rfl
 refine take_ (i := 4) (N := some 27) (v := ?_) (a' := ?_) #[true, true, true, true, true, false, true, false, false, false, false, false, false] rfl rfl (by kernel_rfl) (fun _ _ _ h => h) (Or.inl ⟨by rfl, ?_⟩) hHeld ?_ ?_
 rotate_left
 ·rintro w' ⟨s0, s1⟩
  go_simp
  with_reducible rfl
 rotate_left
 ·simp only [Act.put, List.setIfInBounds_toArray, List.set_cons_zero, List.set_cons_succ, i64_w, i32_w]
  rfl
 refine one_ (i := 5) (N := some 28) #[true, true, true, true, true, true, true, false, false, false, false, false, false] rfl rfl (by kernel_rfl) (by decide) (fun K hK => ?_)
 refine value_ (w1 := ?_) (v := ?_) (by rfl) rfl ?_ ?_
 rotate_left 2
 ·go_simp
  constructor
  ·rfl
  ·rfl
 refine hK.out _ _ ⟨(FA.out _ (below_alloc hHeld.2 _)), (below_alloc hHeld.2 _)⟩ (fun hHeld => ?_)
 clear hK K
 refine norm_ (a' := ?_) ?_ ?_
 rotate_left
 ·show Act.put _ (some 28) _ = _
  simp only [Act.put, List.setIfInBounds_toArray, List.set_cons_zero, List.set_cons_succ, i64_w, i32_w]
  rfl
 refine one_ (i := 7) (N := some 30) #[true, true, true, true, true, true, true, true, false, false, false, false, false] rfl rfl (by kernel_rfl) (by decide) (fun K hK => ?_)
 refine Kd.R_append_rows_step k57 (Rr := k57.K (W2.drew.alloc (.cells #[] 57))) (w0 := W2) W2.heap.size (by first | rfl | simp [Region.wanted]) (.tmp 28) (.tmp 29) 22 57 (.agg #[(.int .i64 0), (.int .i64 0), (.string ⟨#[]⟩), (.int .i64 0), (.int .i64 0)]) 48 rfl Tryz.underlying22 info57 rfl (by decide) (by decide) (.slice (some ⟨W2.heap.size, 0, none⟩) 0 0) [] xs lA xs.length lc (fun _ => True) (fun _ => False) rfl rfl ?aO ?aR ?aK (fun _ hk => hk.elim) (fun _ _ => trivial) ?aB ?aS ?aL ?_
 case aO => exact made_empty (W := W2) (Wc := W2.drew) (below_drew (Below.refl _ _))
 case aR => exact RL.out _ hHeld.2
 case aK => intro x_ cs_ hp_; rw [k57_open hp_]; exact k57_mkM _ _ _ x_
 case aB => exact hHeld.2
 case aS => exact hHeld.2.size
 case aL => have := HZ.out; simp; omega
 intro v1 w1 ho1 hb1 hg1 hat1
 rw [List.nil_append] at ho1
 obtain ⟨gc2, nc2, kc2, rfl⟩ := tok_some ho1
 have HO1 := Aside0.mk ho1
 have HB1 := Aside0.mk hb1
 clear ho1 hb1 hg1 hat1
 refine hK.out _ _ ⟨(FA.out _ HB1.out), HB1.out⟩ (fun hHeld => ?_)
 clear hK K
 refine norm_ (a' := ?_) ?_ ?_
 rotate_left
 ·show Act.put _ (some 30) _ = _
  simp only [Act.put, List.setIfInBounds_toArray, List.set_cons_zero, List.set_cons_succ, i64_w, i32_w]
  rfl
 refine one_ (i := 8) (N := some 31) #[true, true, true, true, true, true, true, true, true, false, false, false, false] rfl rfl (by kernel_rfl) (by decide) (fun K hK => ?_)
 refine value_ (w1 := ?_) (v := ?_) (by rfl) rfl ?_ ?_
 rotate_left 2
 ·go_simp
  constructor
  ·rfl
  ·rfl
 refine hK.out _ _ ⟨(FA.out _ (below_alloc hHeld.2 _)), (below_alloc hHeld.2 _)⟩ (fun hHeld => ?_)
 clear hK K
 refine norm_ (a' := ?_) ?_ ?_
 rotate_left
 ·show Act.put _ (some 31) _ = _
  simp only [Act.put, List.setIfInBounds_toArray, List.set_cons_zero, List.set_cons_succ, i64_w, i32_w]
  rfl
 refine last_ (i := 9) (N := some 32) #[true, true, true, true, true, true, true, true, true, true, false, false, false] rfl rfl (by kernel_rfl) (by decide) (fun K hK => ?_)
 refine step_row (Wc := w1.alloc (.cells #[(.slice gc2 nc2 kc2)] 22)) b rfl (.tmp 27) (.tmp 31) 33 22 (.slice none 0 0) 24 rfl Tryz.underlying33 info22k rfl (.slice A0 (rs1 3).length k0) (rs1 3) (.slice gc2 nc2 kc2) w1.heap.size rfl rfl rfl (heap_alloc_new w1 _) ?aO ?aS ?aL ?aM ?_
 case aO => exact pw_own_below HR0.out.own (below_alloc HB1.out _)
 case aS => exact Nat.le_trans HR.out.le (below_alloc HB1.out _).size
 case aL => have := HLIM.out; omega
 case aM => have := HLIM.out; omega
 intro v2 w2 ho2 hg2 hat2
 obtain ⟨gq2, nq2, kq2, rfl⟩ := own_some ho2 (by simp)
 have hBl := HR.out.late (i := 3) (by omega) HA0.out (below_alloc HB1.out _) hg2
 have yf := (blk_cell hBl 70).trans HA0.out
 have zf := blk_frozen hBl 70
 have hRc := HR.out.mv (Mv.of_new (s := 20) (t := 30) HB1.out HR.out.le) (by omega)
 obtain ⟨col2, (HR2 : RB b (w2.setCell ⟨G, 70, none⟩ _) _ G _ 1 turn seen _), (HMc2 : Ms b w1 _ (w2.setCell ⟨G, 70, none⟩ _) _)⟩ := hRc.pushed (i := 3) (by omega) HA0.out (below_alloc (Below.refl w1.heap.size w1) _) ho2 hg2 (hat2.imp_right (fun ⟨k_, e_, h_⟩ => ⟨k_, e_, Nat.le_trans (below_alloc (Below.refl w1.heap.size w1) _).size h_⟩))
 have HM2 := (Ms.of_new HB1.out HR.out.le 20).trans HMc2
 have HW2 := Aside0.mk (Rd.ms (fresh_rd HO1.out _) HMc2 (by omega))
 have n0_ := Aside0.mk HR2
 have n1_ := Aside0.mk HM2
 clear HR2 HM2 HMc2 hRc ho2 hg2 hat2 hBl
 have HR2 := n0_
 have HM2 := n1_
 clear n0_ n1_
 refine hK.out _ _ ?_
 clear hK K
 refine norm_ (a' := ?_) ?_ ?_
 rotate_left
 ·show Act.put _ (some 32) _ = _
  simp only [Act.put, List.setIfInBounds_toArray, List.set_cons_zero, List.set_cons_succ, i64_w, i32_w]
  rfl
 refine pure_ (i := 10) (N := some 33) (v := ?_) (a' := ?_) #[true, true, true, true, true, true, true, true, true, true, true, false, false] rfl rfl (by kernel_rfl) (fun _ _ _ h => h) (Or.inl ⟨by rfl, ?_⟩) ?_ ?_
 rotate_left
 ·intro w'
  go_simp
  with_reducible rfl
 rotate_left
 ·simp only [Act.put, List.setIfInBounds_toArray, List.set_cons_zero, List.set_cons_succ, i64_w, i32_w]
  rfl
 refine pure_ (i := 11) (N := some 34) (v := ?_) (a' := ?_) #[true, true, true, true, true, true, true, true, true, true, true, true, false] rfl rfl (by kernel_rfl) (fun _ _ _ h => h) (Or.inl ⟨by rfl, ?_⟩) ?_ ?_
 rotate_left
 ·intro w'
  go_simp
  with_reducible rfl
 rotate_left
 ·simp only [Act.put, List.setIfInBounds_toArray, List.set_cons_zero, List.set_cons_succ, i64_w, i32_w]
  rfl
 refine last_ (i := 12) (N := none) #[true, true, true, true, true, true, true, true, true, true, true, true, true] rfl rfl (by kernel_rfl) (by decide) (fun K hK => ?_)
 refine skip_ (w1 := ?_) (by rfl) rfl ?_ ?_
 rotate_left
 ·go_simp
  rfl
 refine hK.out _ _ ?_
 clear hK K
 refine done_ (by kernel_rfl) ?_
 obtain ⟨W3, hW3⟩ : ∃ W3, w2.setCell ⟨G, 70, none⟩ (.slice (some ⟨gq2, 0, none⟩) nq2 kq2) = W3 := ⟨_, rfl⟩
 rw [hW3] at HR2 HM2 HW2 ⊢
 obtain ⟨rs2, hrs2⟩ : ∃ r_, upd rs1 3 (rs1 3 ++ [.slice gc2 nc2 kc2]) = r_ := ⟨_, rfl⟩
 rw [hrs2] at HR2
 have RS2 := Aside0.mk hrs2.symm
 have HC_ := Aside0.mk (HC.out.ms HM2.out)
 have HBW_ := Aside0.mk (HBW.out.trans HM2.out.below)
 have HTK_ := Aside0.mk (tk_ms HTK.out HM2.out (by have := HG1.out; omega))
 clear HR hW3 hrs2 HC HBW HTK
 have HR := HR2
 have HC := HC_
 have HBW := HBW_
 have HTK := HTK_
 clear HR2 HM2 yf zf HLIM HA0 HR0 HC_ HBW_ HTK_
 clear RL FA hHeld HB1 HO1
 go_upto_region 3 with fail
 obtain ⟨v0, a0, r0⟩ := HR.out.row 5 (by omega)
 obtain ⟨A0, k0, rfl, -⟩ := r0.form
 have xf : W3.cell? ⟨G, 72, none⟩ = _ := HR.out.bo.cell a0
 have hlim : (rs2 5).length ≤ 100000 := by rw [RS2.out, upd_ne _ _ (by decide), RS1.out, upd_ne _ _ (by decide)]; simp [stdR]; omega
 have HLIM := Aside0.mk hlim
 have HA0 := Aside0.mk a0
 have HR0 := Aside0.mk r0
 clear hlim a0 r0
 go_upto_region 4 with ((with_reducible refine gate_builtin (b := .append) (xs := #[.tmp 39, .tmp 41]) rfl ?_); at_builtin; refine print_append (w0 := W3) b rfl (.tmp 39) (.tmp 41) 61 3 (.int .i64 0) 8 rfl Tryz.underlying61 info3k rfl (by decide) (.slice A0 (rs2 5).length k0) (rs2 5) (.int .i64 mk) rfl rfl rfl ?aO ?aB ?aS ?aL ?_; (case aO => exact HR0.out.own); (case aB => exact Below.refl _ _); (case aS => exact HR.out.le); (case aL => have := HLIM.out; omega); intro v1 w1 ho1 hb1 hg1 hat1; obtain ⟨gq3, nq3, kq3, rfl⟩ := own_some ho1 (by simp); have hBl := HR.out.late (i := 5) (by omega) HA0.out (Below.refl _ _) hg1; have yf := (blk_cell hBl 72).trans HA0.out; have zf := blk_frozen hBl 72; obtain ⟨col3, (HR3 : RB b (w1.setCell ⟨G, 72, none⟩ _) _ G _ 1 turn seen _), (HM3 : Ms b W3 _ (w1.setCell ⟨G, 72, none⟩ _) _)⟩ := HR.out.pushed (i := 5) (by omega) HA0.out (Below.refl _ _) ho1 hg1 hat1; have n0_ := Aside0.mk HR3; have n1_ := Aside0.mk HM3; clear HR3 HM3 ho1 hb1 hg1 hat1 hBl; have HR3 := n0_; have HM3 := n1_; clear n0_ n1_)
 obtain ⟨W4, hW4⟩ : ∃ W4, w1.setCell ⟨G, 72, none⟩ (.slice (some ⟨gq3, 0, none⟩) nq3 kq3) = W4 := ⟨_, rfl⟩
 rw [hW4] at HR3 HM3 ⊢
 obtain ⟨rs3, hrs3⟩ : ∃ r_, upd rs2 5 (rs2 5 ++ [.int .i64 mk]) = r_ := ⟨_, rfl⟩
 rw [hrs3] at HR3
 have RS3 := Aside0.mk hrs3.symm
 have HC_ := Aside0.mk (HC.out.ms HM3.out)
 have HBW_ := Aside0.mk (HBW.out.trans HM3.out.below)
 have HTK_ := Aside0.mk (tk_ms HTK.out HM3.out (by have := HG1.out; omega))
 have HW2_ := Aside0.mk (HW2.out.ms HM3.out (by omega))
 clear HR hW4 hrs3 HC HBW HTK HW2
 have HR := HR3
 have HC := HC_
 have HBW := HBW_
 have HTK := HTK_
 have HW2 := HW2_
 clear HR3 HM3 yf zf HLIM HA0 HR0 HC_ HBW_ HTK_ HW2_
 have x75 := HR.out.bo.cell HR.out.c75
 have FN : Aside0 (∀ w', Below W4.heap.size W4 w' → w'.cell? ⟨G, 75, none⟩ = some (.int .i64 seen)) := ⟨fun w' hb => (hb.cell (World.block_lt_of_cell? _ _ x75)).trans x75⟩
 clear x75
 obtain ⟨v0, a0, r0⟩ := HR.out.row 6 (by omega)
 obtain ⟨A0, k0, rfl, -⟩ := r0.form
 have hlim : (rs3 6).length ≤ 100000 := by rw [RS3.out, upd_ne _ _ (by decide), RS2.out, upd_ne _ _ (by decide), RS1.out, upd_ne _ _ (by decide)]; simp [stdR]; omega
 have HLIM := Aside0.mk hlim
 have HA0 := Aside0.mk a0
 have HR0 := Aside0.mk r0
 have FA : Aside0 (∀ w', Below W4.heap.size W4 w' → w'.cell? ⟨G, 73, none⟩ = _) := ⟨fun w' hb => (hb.cell (World.block_lt_of_cell? _ _ (HR.out.bo.cell a0))).trans (HR.out.bo.cell a0)⟩
 clear hlim a0 r0
 refine start_ (n := 16) (S := fun w' => w'.cell? ⟨G, 73, none⟩ = some (.slice A0 (rs3 6).length k0) ∧ w'.cell? ⟨G, 75, none⟩ = some (.int .i64 seen) ∧ Below W4.heap.size W4 w') (ds := [12, 15]) #[false, false, false, false, false, false, false, false, false, false, false, false, false, false, false, false] (by kernel_rfl) rfl rfl ⟨(FA.out _ (below_drew (Below.refl _ _))), (FN.out _ (below_drew (Below.refl _ _))), (below_drew (Below.refl _ _))⟩ (fun hHeld => ?_)
 refine pure_ (i := 0) (N := some 45) (v := ?_) (a' := ?_) #[true, false, false, false, false, false, false, false, false, false, false, false, false, false, false, false] rfl rfl (by kernel_rfl) (fun _ _ _ h => h) (Or.inl ⟨by rfl, ?_⟩) ?_ ?_
 rotate_left
 ·intro w'
  go_simp
  with_reducible rfl
 rotate_left
 ·simp only [Act.put, List.setIfInBounds_toArray, List.set_cons_zero, List.set_cons_succ, i64_w, i32_w]
  rfl
 refine pure_ (i := 1) (N := some 46) (v := ?_) (a' := ?_) #[true, true, false, false, false, false, false, false, false, false, false, false, false, false, false, false] rfl rfl (by kernel_rfl) (fun _ _ _ h => h) (Or.inl ⟨by rfl, ?_⟩) ?_ ?_
 rotate_left
 ·intro w'
  go_simp
  with_reducible rfl
 rotate_left
 ·simp only [Act.put, List.setIfInBounds_toArray, List.set_cons_zero, List.set_cons_succ, i64_w, i32_w]
  rfl
 refine pure_ (i := 2) (N := some 47) (v := ?_) (a' := ?_) #[true, true, true, false, false, false, false, false, false, false, false, false, false, false, false, false] rfl rfl (by kernel_rfl) (fun _ _ _ h => h) (Or.inl ⟨by rfl, ?_⟩) ?_ ?_
 rotate_left
 ·intro w'
  go_simp
  with_reducible rfl
 rotate_left
 ·simp only [Act.put, List.setIfInBounds_toArray, List.set_cons_zero, List.set_cons_succ, i64_w, i32_w]
  rfl
 refine pure_ (i := 3) (N := some 48) (v := ?_) (a' := ?_) #[true, true, true, true, false, false, false, false, false, false, false, false, false, false, false, false] rfl rfl (by kernel_rfl) (fun _ _ _ h => h) (Or.inl ⟨by rfl, ?_⟩) ?_ ?_
 rotate_left
 ·intro w'
  go_simp
  with_reducible rfl
 rotate_left
 ·simp only [Act.put, List.setIfInBounds_toArray, List.set_cons_zero, List.set_cons_succ, i64_w, i32_w]
  rfl
 refine pure_ (i := 5) (N := some 50) (v := ?_) (a' := ?_) #[true, true, true, true, false, true, false, false, false, false, false, false, false, false, false, false] rfl rfl (by kernel_rfl) (fun _ _ _ h => h) (Or.inl ⟨by rfl, ?_⟩) ?_ ?_
 rotate_left
 ·intro w'
  go_simp
  with_reducible rfl
 rotate_left
 ·simp only [Act.put, List.setIfInBounds_toArray, List.set_cons_zero, List.set_cons_succ, i64_w, i32_w]
  rfl
 refine pure_ (i := 6) (N := some 51) (v := ?_) (a' := ?_) #[true, true, true, true, false, true, true, false, false, false, false, false, false, false, false, false] rfl rfl (by kernel_rfl) (fun _ _ _ h => h) (Or.inl ⟨by rfl, ?_⟩) ?_ ?_
 rotate_left
 ·intro w'
  go_simp
  with_reducible rfl
 rotate_left
 ·simp only [Act.put, List.setIfInBounds_toArray, List.set_cons_zero, List.set_cons_succ, i64_w, i32_w]
  rfl
 refine pure_ (i := 7) (N := some 52) (v := ?_) (a' := ?_) #[true, true, true, true, false, true, true, true, false, false, false, false, false, false, false, false] rfl rfl (by kernel_rfl) (fun _ _ _ h => h) (Or.inl ⟨by rfl, ?_⟩) ?_ ?_
 rotate_left
 ·intro w'
  go_simp
  with_reducible rfl
 rotate_left
 ·simp only [Act.put, List.setIfInBounds_toArray, List.set_cons_zero, List.set_cons_succ, i64_w, i32_w]
  rfl
 refine pure_ (i := 8) (N := some 53) (v := ?_) (a' := ?_) #[true, true, true, true, false, true, true, true, true, false, false, false, false, false, false, false] rfl rfl (by kernel_rfl) (fun _ _ _ h => h) (Or.inl ⟨by rfl, ?_⟩) ?_ ?_
 rotate_left
 ·intro w'
  go_simp
  with_reducible rfl
 rotate_left
 ·simp only [Act.put, List.setIfInBounds_toArray, List.set_cons_zero, List.set_cons_succ, i64_w, i32_w]
  rfl
 refine take_ (i := 4) (N := some 49) (v := ?_) (a' := ?_) #[true, true, true, true, true, true, true, true, true, false, false, false, false, false, false, false] rfl rfl (by kernel_rfl) (fun _ _ _ h => h) (Or.inl ⟨by rfl, ?_⟩) hHeld ?_ ?_
 rotate_left
 ·rintro w' ⟨s0, s1, s2⟩
  go_simp
  with_reducible rfl
 rotate_left
 ·simp only [Act.put, List.setIfInBounds_toArray, List.set_cons_zero, List.set_cons_succ, i64_w, i32_w]
  rfl
 refine take_ (i := 9) (N := some 54) (v := ?_) (a' := ?_) #[true, true, true, true, true, true, true, true, true, true, false, false, false, false, false, false] rfl rfl (by kernel_rfl) (fun _ _ _ h => h) (Or.inl ⟨by rfl, ?_⟩) hHeld ?_ ?_
 rotate_left
 ·rintro w' ⟨s0, s1, s2⟩
  go_simp
  with_reducible rfl
 rotate_left
 ·simp only [Act.put, List.setIfInBounds_toArray, List.set_cons_zero, List.set_cons_succ, i64_w, i32_w]
  rfl
 refine one_ (i := 10) (N := some 55) #[true, true, true, true, true, true, true, true, true, true, true, false, false, false, false, false] rfl rfl (by kernel_rfl) (by decide) (fun K hK => ?_)
 refine goes_ Tryz.func44 (by kernel_rfl) rfl #[.pointer (some ⟨G, 0, none⟩), .int .i64 seen] (by rfl) rfl rfl (by simp only [List.map_toArray, List.map_cons, List.map_nil]; rfl) ?_
 with_reducible refine ((due_calls (HR.out.go HR.out.le hHeld.2.2) seen)).mono ?_
 rintro e w4 ⟨⟨dd, rfl⟩, hbc⟩
 refine ⟨_, rfl, ?_⟩
 have HBC := Aside0.mk (hHeld.2.2.trans (hbc.mono hHeld.2.2.size))
 refine hK.out _ _ ⟨(FA.out _ (hHeld.2.2.trans (hbc.mono hHeld.2.2.size))), (FN.out _ (hHeld.2.2.trans (hbc.mono hHeld.2.2.size))), (hHeld.2.2.trans (hbc.mono hHeld.2.2.size))⟩ (fun hHeld => ?_)
 clear hK K
 refine norm_ (a' := ?_) ?_ ?_
 rotate_left
 ·show Act.put _ (some 55) _ = _
  simp only [Act.put, List.setIfInBounds_toArray, List.set_cons_zero, List.set_cons_succ, i64_w, i32_w]
  rfl
 refine one_ (i := 11) (N := some 56) #[true, true, true, true, true, true, true, true, true, true, true, true, false, false, false, false] rfl rfl (by kernel_rfl) (by decide) (fun K hK => ?_)
 refine value_ (w1 := ?_) (v := ?_) (by rfl) rfl ?_ ?_
 rotate_left 2
 ·go_simp
  constructor
  ·rfl
  ·rfl
 refine hK.out _ _ ⟨(FA.out _ (below_alloc hHeld.2.2 _)), (FN.out _ (below_alloc hHeld.2.2 _)), (below_alloc hHeld.2.2 _)⟩ (fun hHeld => ?_)
 clear hK K
 refine norm_ (a' := ?_) ?_ ?_
 rotate_left
 ·show Act.put _ (some 56) _ = _
  simp only [Act.put, List.setIfInBounds_toArray, List.set_cons_zero, List.set_cons_succ, i64_w, i32_w]
  rfl
 refine last_ (i := 12) (N := some 57) #[true, true, true, true, true, true, true, true, true, true, true, true, true, false, false, false] rfl rfl (by kernel_rfl) (by decide) (fun K hK => ?_)
 refine step_row (Wc := (w4.alloc (.cells #[(.int .i64 dd)] 3))) b rfl (.tmp 49) (.tmp 56) 61 3 (.int .i64 0) 8 rfl Tryz.underlying61 info3k rfl (.slice A0 (rs3 6).length k0) (rs3 6) (.int .i64 dd) w4.heap.size rfl rfl rfl (heap_alloc_new w4 _) ?aO ?aS ?aL ?aM ?_
 case aO => exact pw_own_below HR0.out.own (below_alloc HBC.out _)
 case aS => exact Nat.le_trans HR.out.le (below_alloc HBC.out _).size
 case aL => have := HLIM.out; omega
 case aM => have := HLIM.out; omega
 intro v2 w2 ho2 hg2 hat2
 obtain ⟨gq4, nq4, kq4, rfl⟩ := own_some ho2 (by simp)
 have hBl := HR.out.late (i := 6) (by omega) HA0.out (below_alloc HBC.out _) hg2
 have yf := (blk_cell hBl 73).trans HA0.out
 have zf := blk_frozen hBl 73
 obtain ⟨col4, (HR4 : RB b (w2.setCell ⟨G, 73, none⟩ _) _ G _ 1 turn seen _), (HM4 : Ms b W4 _ (w2.setCell ⟨G, 73, none⟩ _) _)⟩ := HR.out.pushed (i := 6) (by omega) HA0.out (below_alloc HBC.out _) ho2 hg2 (hat2.imp_right (fun ⟨k_, e_, h_⟩ => ⟨k_, e_, Nat.le_trans (below_alloc HBC.out _).size h_⟩))
 have n0_ := Aside0.mk HR4
 have n1_ := Aside0.mk HM4
 clear HR4 HM4 ho2 hg2 hat2 hBl
 have HR4 := n0_
 have HM4 := n1_
 clear n0_ n1_
 refine hK.out _ _ ?_
 clear hK K
 refine norm_ (a' := ?_) ?_ ?_
 rotate_left
 ·show Act.put _ (some 57) _ = _
  simp only [Act.put, List.setIfInBounds_toArray, List.set_cons_zero, List.set_cons_succ, i64_w, i32_w]
  rfl
 refine pure_ (i := 13) (N := some 58) (v := ?_) (a' := ?_) #[true, true, true, true, true, true, true, true, true, true, true, true, true, true, false, false] rfl rfl (by kernel_rfl) (fun _ _ _ h => h) (Or.inl ⟨by rfl, ?_⟩) ?_ ?_
 rotate_left
 ·intro w'
  go_simp
  with_reducible rfl
 rotate_left
 ·simp only [Act.put, List.setIfInBounds_toArray, List.set_cons_zero, List.set_cons_succ, i64_w, i32_w]
  rfl
 refine pure_ (i := 14) (N := some 59) (v := ?_) (a' := ?_) #[true, true, true, true, true, true, true, true, true, true, true, true, true, true, true, false] rfl rfl (by kernel_rfl) (fun _ _ _ h => h) (Or.inl ⟨by rfl, ?_⟩) ?_ ?_
 rotate_left
 ·intro w'
  go_simp
  with_reducible rfl
 rotate_left
 ·simp only [Act.put, List.setIfInBounds_toArray, List.set_cons_zero, List.set_cons_succ, i64_w, i32_w]
  rfl
 refine last_ (i := 15) (N := none) #[true, true, true, true, true, true, true, true, true, true, true, true, true, true, true, true] rfl rfl (by kernel_rfl) (by decide) (fun K hK => ?_)
 refine skip_ (w1 := ?_) (by rfl) rfl ?_ ?_
 rotate_left
 ·go_simp
  rfl
 refine hK.out _ _ ?_
 clear hK K
 refine done_ (by kernel_rfl) ?_
 obtain ⟨W5, hW5⟩ : ∃ W5, w2.setCell ⟨G, 73, none⟩ (.slice (some ⟨gq4, 0, none⟩) nq4 kq4) = W5 := ⟨_, rfl⟩
 rw [hW5] at HR4 HM4 ⊢
 obtain ⟨rs4, hrs4⟩ : ∃ r_, upd rs3 6 (rs3 6 ++ [.int .i64 dd]) = r_ := ⟨_, rfl⟩
 rw [hrs4] at HR4
 have RS4 := Aside0.mk hrs4.symm
 have HC_ := Aside0.mk (HC.out.ms HM4.out)
 have HBW_ := Aside0.mk (HBW.out.trans HM4.out.below)
 have HTK_ := Aside0.mk (tk_ms HTK.out HM4.out (by have := HG1.out; omega))
 have HW2_ := Aside0.mk (HW2.out.ms HM4.out (by omega))
 clear HR hW5 hrs4 HC HBW HTK HW2
 have HR := HR4
 have HC := HC_
 have HBW := HBW_
 have HTK := HTK_
 have HW2 := HW2_
 clear HR4 HM4 yf zf HLIM HA0 HR0 HC_ HBW_ HTK_ HW2_
 clear FN FA hHeld HBC
 have hR5 := HR.out.congr (stdR_keep os ws [] ⟨.slice lA xs.length lc, .slice gc2 nc2 kc2, xs, mk, dd, tg⟩ rfl rfl RS1.out RS2.out RS3.out RS4.out)
 have hC5 := HC.out.addW (x := ⟨.slice lA xs.length lc, .slice gc2 nc2 kc2, xs, mk, dd, tg⟩) HTK.out HW2.out HXL.out HG1.out HG2.out HG3.out
 have x75 := hR5.bo.cell hR5.c75
 have f75 := blk_frozen hR5.bo.blk 75
 obtain ⟨hR6, hM6⟩ := hR5.setSeen hR5.le (wrap64 (seen + 1))
 obtain ⟨W6, hW6⟩ : ∃ W6, W5.setCell ⟨G, 75, none⟩ (.int .i64 (wrap64 (seen + 1))) = W6 := ⟨_, rfl⟩
 rw [hW6] at hR6 hM6
 have HR6 := Aside0.mk hR6
 have HC6 := Aside0.mk (hC5.mv hM6 (by omega) (by omega))
 have HB6 := Aside0.mk (HBW.out.trans hM6.below)
 clear hR5 hC5 hR6 hM6 HR HC HTK HW2 HBW
 go_upto_region 6 with fail
 first | rw [hW6] | skip
 clear hW6 x75 f75
 go_wp2_with (go_at_call 45; (with_reducible refine (done_calls (n := n + 2) HR6.out HC6.out (by rw [List.length_append, List.length_singleton]; omega) (by omega)).mono ?_); rintro e w2 ⟨rfl, t, hp⟩; have HP := Aside0.mk (hp.base HB6.out); clear hp)
 first | exact bodyPost_end rfl rfl ⟨rfl, _, _, HP.out⟩ | refine bodyPost_ret (results_nil rfl _ _) rfl ⟨rfl, _, _, HP.out⟩
end Go.Proofs.YtjlclkenfmbahaaGreatDoor.PA
