/- The room's Tokens walked by hand: a copy of a list of tokens with forty marks behind it. Condition: the room's list of token lists is empty, the list is short. -/
import Derived.Test.YtjlclkenfmbahaaGreatDoorMHHoldToks
import Derived.Test.YtjlclkenfmbahaaGreatDoorMC
import Derived.Maps.AppendAt
import Derived.Maps.OwnOps
import Derived.Test.YtjlclkenfmbahaaGreatDoorMPAx0
namespace Go.Proofs.YtjlclkenfmbahaaGreatDoor.PA
open Go.RowKit Go.Maps Go.Proofs.YtjlclkenfmbahaaGreatDoorW.PrintWords Go.Proofs.YtjlclkenfmbahaaGreatDoorW.PrintLast Go.Proofs.YtjlclkenfmbahaaGreatDoorW.PrintMore
set_option linter.unusedVariables false
set_option linter.unusedSimpArgs false
def mkT (n : Int) : S57 := ⟨n, 0, ⟨#[]⟩, 0, 0⟩
def marksT (n : Nat) : List S57 := (List.range n).map fun k => mkT (markS k)
theorem marksT_two (j : Nat) : marksT (2 * j + 2) = marksT (2 * j) ++ [mkT (-7701), mkT (-7702)] := by
 unfold marksT
 rw [List.range_succ, List.range_succ]
 simp only [List.map_append, List.map_cons, List.map_nil, List.append_assoc, List.cons_append, List.nil_append]
 have h1 : markS (2 * j) = -7701 := by unfold markS; rw [if_pos (by omega)]
 have h2 : markS (2 * j + 1) = -7702 := by unfold markS; rw [if_neg (by omega)]
 rw [h1, h2]
theorem marksT_len (n : Nat) : (marksT n).length = n := by simp [marksT]
abbrev TRw (b : Nat) (W : World) (v : Value) (xs : List S57) : Prop := Kd.R k57 57 W b (fun _ => True) v xs
theorem infoRowT : (Tryz.prog.info? 22).map (fun i => (i.zero, i.size, i.bytes)) = some (some (.slice none 0 0), 1, 24) := by kernel_rfl
section
variable {P : Program} {ops : Array Oper} {rest : List Oper} {o : Oper} {a : Act} {Q : Exit → Act → World → Prop}
theorem append_marks {w0 W : World} (base : Nat) (hgd : o.guard = none) (s x : Operand) (t : TypeId)
  (ho : o.op = .call { callee := .builtin .append, args := #[s, x], argTypes := #[t, t] })
  (ht : P.underlying t = some (.slice 57)) (hinfo : (P.info? 57).map (fun i => (i.zero, i.size, i.bytes)) = some (some (.agg #[(.int .i64 0), (.int .i64 0), (.string ⟨#[]⟩), (.int .i64 0), (.int .i64 0)]), 5, 48))
  (v : Value) (xs : List S57) (hs : a.eval s = v) (hx : a.eval x = .slice (some ⟨W.heap.size, 0, none⟩) 2 2)
  (HO : TRw base W v xs) (HB : Below base w0 W) (hbase : base ≤ W.heap.size) (hl : xs.length ≤ 100000)
  (h : ∀ v1 w1, TRw base w1 v1 (xs ++ [mkT (-7701), mkT (-7702)]) → Below base w0 w1 → wpList P ops Q rest (a.put o.dst v1) w1) :
  wpList P ops Q (o :: rest) a (W.alloc marksO) := by
 obtain ⟨i0, hi, hzz⟩ := Option.map_eq_some_iff.1 hinfo
 simp only [Prod.mk.injEq] at hzz
 obtain ⟨hz0, hz1, hz2⟩ := hzz
 have hbs := fun k => Kd.R_base HO k
 obtain ⟨h0, inner, hown, hr⟩ := HO
 refine wpList_append_own_at (W.alloc marksO) hgd s x t ho base 57 i0 _ 5 48 ht hi hz0 hz1 hz2 rfl (by decide) v xs.length inner hs (hown.alloc _) ⟨W.heap.size, 0, none⟩ 2 2 [.int .i64 (-7701), .int .i64 0, .string ⟨#[]⟩, .int .i64 0, .int .i64 0, .int .i64 (-7702), .int .i64 0, .string ⟨#[]⟩, .int .i64 0, .int .i64 0] hx rfl
  (World.news_of_block (cs := #[.int .i64 (-7701), .int .i64 0, .string ⟨#[]⟩, .int .i64 0, .int .i64 0, .int .i64 (-7702), .int .i64 0, .string ⟨#[]⟩, .int .i64 0, .int .i64 0]) (t := 57) (fr := (0, 0)) (heap_alloc_new W _)) (by simp [Value.oneCell']) (by simp only [maxLen]; omega) (by omega) (by simp; omega) ?_
 intro v1 w1 hown1 hg1 _ _
 refine h v1 w1 ⟨fun _ _ => trivial, inner ++ _, by rw [List.length_append]; exact hown1, ?_⟩ ((HB.alloc hbase _).grown hg1 (by simp; omega) hbs)
 have h1 := (hr.imp_ (fun p c hp => by rw [k57_openM hp]; exact k57_mkM w1 base (fun k => True ∧ some k ≠ v1.ownBlock) p) : Reps (k57.M w1 base (fun k => True ∧ some k ≠ v1.ownBlock)) 5 xs inner)
 have h2 := (h1.snoc (k57_mkM w1 base (fun k => True ∧ some k ≠ v1.ownBlock) (mkT (-7701))) rfl).snoc (k57_mkM w1 base (fun k => True ∧ some k ≠ v1.ownBlock) (mkT (-7702))) rfl
 simpa [List.append_assoc, mkT] using h2
end
theorem tok_form {b : Nat} {W : World} {v : Value} {xs : List S57} (h : TRw b W v xs) (hp : 0 < xs.length) : ∃ g cap, v = .slice (some ⟨g, 0, none⟩) xs.length cap := by
 obtain ⟨g, cap, e, _⟩ := Kd.R_form h hp
 exact ⟨g, cap, e⟩
theorem own_form {W : World} {base n size : Nat} {e : TypeId} {v : Value} {xs : List Value} (h : W.ownsRow base e size v n xs) (hn : 0 < n) : ∃ g cap, v = .slice (some ⟨g, 0, none⟩) n cap := by
 rcases h.2 with ⟨_, h0⟩ | ⟨g, cap, cur, e1, _⟩
 ·omega
 ·exact ⟨g, cap, e1⟩
set_option maxRecDepth 100000 in
set_option maxHeartbeats 4000000 in
theorem tokens_room (G : Nat) (cg : Array Value) (A : Option Addr) (c : Nat) (xs : List S57) (w : World) (hN : xs.length < 90000) (hG : w.heap[G]? = some (.cells cg 48 (0, 0))) (hg1 : cg[7]? = some (.slice none 0 0)) (hrd : Kd.C k57 w A xs.length xs) :
  Calls Tryz.prog 6 #[.pointer (some ⟨G, 0, none⟩), .slice A xs.length c] w fun e w' => ∃ F cap B2 c2 wf,
   e = .returned (.slice (some ⟨F, 0, none⟩) xs.length (xs.length + 40)) ∧ TRw w.heap.size wf (.slice (some ⟨F, 0, none⟩) (xs.length + 40) cap) (xs ++ marksT 40) ∧
   wf.ownsRow w.heap.size 22 1 (.slice (some ⟨B2, 0, none⟩) 1 c2) 1 [.slice (some ⟨F, 0, none⟩) (xs.length + 40) cap] ∧ Below w.heap.size w wf ∧ w' = wf.setCell ⟨G, 7, none⟩ (.slice (some ⟨B2, 0, none⟩) 1 c2) := by
 have HN := Aside0.mk hN
 have HG := Aside0.mk hG
 have HG1 := Aside0.mk hg1
 have HRD := Aside0.mk hrd
 clear hN hG hg1 hrd
 go_enter Tryz.func6, Tryz.ntmps6
 go_wp2
 have ho0 : TRw w.heap.size (w.alloc (.cells #[] 57)) (.slice (some ⟨w.heap.size, 0, none⟩) 0 0) [] :=
  ⟨fun _ _ => trivial, [], World.ownsRow_made w #[] 0 (Nat.le_refl _) (by simp [maxLen]) rfl, Reps.none _ _⟩
 have hb0 := below_alloc (Below.refl w.heap.size w) (.cells #[] 57)
 go_loopw [5, 6] (fun v5 v6 wr => ∃ (F cap : Nat) (pre post : List S57), xs = pre ++ post ∧ v5 = .slice (some ⟨F, 0, none⟩) pre.length cap ∧ v6 = .int .i64 pre.length ∧ Hid (TRw w.heap.size wr (.slice (some ⟨F, 0, none⟩) pre.length cap) pre) ∧ Hid (Below w.heap.size w wr)) (fun _ v6 _ => xs.length - (intOf v6).toNat)
 case atStart => exact ⟨_, _, [], xs, rfl, rfl, rfl, ho0, hb0⟩
 case round =>
  clear ho0 hb0
  obtain ⟨F, cap, pre, post, hx, rfl, rfl, ho, hb⟩ := hrel
  cases post with
  | cons x post =>
   have hlx : xs.length = pre.length + (post.length + 1) := by rw [hx]; simp
   have cin : (pre.length : Int) < (xs.length : Int) := by omega
   obtain ⟨ad, hA, x0, x1, x2, x3, x4⟩ := at_T57 (Kd.C_below HRD.out hb.out) (pre.length : Int) (by omega) (by omega)
   have hrdx : rd_T57 xs (pre.length : Int) = x := by
    unfold rd_T57
    rw [Int.toNat_natCast, List.getD_eq_getElem?_getD, hx, List.getElem?_append_right (Nat.le_refl _), Nat.sub_self]; rfl
   rw [hrdx, Int.toNat_natCast] at x0 x1 x2 x3 x4
   subst hA
   have hi1 : wrap64 ((pre.length : Int) + 1) = (pre.length : Int) + 1 := by have := HN.out; exact Go.Proofs.YtjlclkenfmbahaaGreatDoor.Days.wr (by omega) (by omega)
   have HX := Aside0.mk hx
   have HLX := Aside0.mk hlx
   clear hrdx hx hlx
   go_wp2_with ((with_reducible refine gate_builtin (b := .append) (xs := #[.tmp 15, .tmp 20]) rfl ?_); at_builtin; refine Kd.R_append k57 (w0 := w) w.heap.size rfl (.tmp 15) (.tmp 20) 22 57 (.agg #[(.int .i64 0), (.int .i64 0), (.string ⟨#[]⟩), (.int .i64 0), (.int .i64 0)]) 48 rfl Tryz.underlying22 info57 rfl (by decide) (by omega) (.slice (some ⟨F, 0, none⟩) pre.length cap) pre x [.int .i64 x.f0, .int .i64 x.f1, .string x.f2, .int .i64 x.f3, .int .i64 x.f4] (fun _ => True) (fun _ => False) rfl rfl ?aP (fun _ hk => hk.elim) ?aF ?aO ?aB ?aS ?aL ?_; (case aP => exact k57_mkM _ _ _ x); (case aB => exact hb.out); (case aF => exact (fun _ _ => trivial)); (case aO => exact ho.out); (case aS => exact hb.out.size); (case aL => have := HN.out; have := HLX.out; omega); intro v1 w1 ho1 hb1 hg1 hat1; obtain ⟨F1, cap1, rfl⟩ := tok_form ho1 (by simp); have HO1 := Aside0.mk ho1; have HB1 := Aside0.mk hb1; clear ho1 hb1 hg1 hat1)
   rw [hi1]
   exact ⟨⟨F1, cap1, pre ++ [x], post, by rw [HX.out]; simp, by simp, congrArg (Value.int .i64) (by simp), HO1.out, HB1.out⟩, by have := HLX.out; simp [intOf]; omega⟩
  | nil =>
   have hx2 : xs = pre := by rw [hx]; simp
   subst hx2
   clear hx
   have cnn : ¬ ((xs.length : Int) < (xs.length : Int)) := by omega
   have HO := Aside0.mk ho.out
   have HB := Aside0.mk hb.out
   clear ho hb
   go_wp2
   go_loopw [5, 7] (fun v5 v7 wr2 => ∃ F cap j : Nat, j ≤ 20 ∧ v5 = .slice (some ⟨F, 0, none⟩) (xs.length + 2 * j) cap ∧ v7 = .int .i64 (2 * (j : Int)) ∧ Hid (TRw w.heap.size wr2 (.slice (some ⟨F, 0, none⟩) (xs.length + 2 * j) cap) (xs ++ marksT (2 * j))) ∧ Hid (Below w.heap.size w wr2)) (fun _ v7 _ => 40 - (intOf v7).toNat)
   case atStart => exact ⟨F, cap, 0, by omega, rfl, rfl, show _ from (by simpa [marksT] using HO.out : TRw w.heap.size wr (.slice (some ⟨F, 0, none⟩) (xs.length + 2 * 0) cap) (xs ++ marksT (2 * 0))), HB.out⟩
   case round =>
    clear HO HB
    obtain ⟨F, cap, j, hj, rfl, rfl, ho, hb⟩ := hrel
    by_cases h20 : j < 20
    ·have c40 : 2 * (j : Int) < 40 := by omega
     have hi2 : wrap64 (2 * (j : Int) + 2) = 2 * (j : Int) + 2 := Go.Proofs.YtjlclkenfmbahaaGreatDoor.Days.wr (by omega) (by omega)
     have hL : ((xs ++ marksT (2 * j)) ++ [mkT (-7701), mkT (-7702)]).length = xs.length + 2 * (j + 1) := by rw [List.length_append, List.length_append, marksT_len]; simp; omega
     have hL0 : (xs ++ marksT (2 * j)).length = xs.length + 2 * j := by rw [List.length_append, marksT_len]
     have HL := Aside0.mk hL
     have HL0 := Aside0.mk hL0
     clear hL hL0
     go_wp2_with ((with_reducible refine gate_builtin (b := .append) (xs := #[.tmp 26, .tmp 29]) rfl ?_); at_builtin; refine append_marks (w0 := w) w.heap.size rfl (.tmp 26) (.tmp 29) 22 rfl Tryz.underlying22 info57 (.slice (some ⟨F, 0, none⟩) (xs.length + 2 * j) cap) (xs ++ marksT (2 * j)) rfl rfl ?aO ?aB ?aS ?aL ?_; (case aO => exact ho.out); (case aB => exact hb.out); (case aS => exact hb.out.size); (case aL => have := HN.out; have := HL0.out; omega); intro v1 w1 ho1 hb1; obtain ⟨F1, cap1, rfl⟩ := tok_form ho1 (by rw [HL.out]; omega); rw [HL.out] at ho1; have HO1 := Aside0.mk ho1; have HB1 := Aside0.mk hb1; clear ho1 hb1)
     have HO2 : TRw w.heap.size w1 (.slice (some ⟨F1, 0, none⟩) (xs.length + 2 * (j + 1)) cap1) (xs ++ marksT (2 * (j + 1))) := by
      rw [show 2 * (j + 1) = 2 * j + 2 by omega, marksT_two, ← List.append_assoc]
      exact HO1.out
     exact ⟨⟨F1, cap1, j + 1, by omega, by rw [marksT_len, show xs.length + (2 * j + 2) = xs.length + 2 * (j + 1) by omega], congrArg (Value.int .i64) (by omega), HO2, HB1.out⟩, by simp [intOf]; omega⟩
    ·obtain rfl : j = 20 := by omega
     have hGb := blk_below HG.out hb.out
     have cG := (blk_cell hGb 7).trans HG1.out
     obtain ⟨inner, hown⟩ := Kd.R_own ho.out
     have hlen : (xs ++ marksT (2 * 20)).length = xs.length + 2 * 20 := by rw [List.length_append, marksT_len]
     rw [hlen] at hown
     have hcap0 := own_cap hown
     have HOF := Aside0.mk ho.out
     have HBF := Aside0.mk hb.out
     have HGB := Aside0.mk hGb
     have hcap : xs.length + 40 ≤ cap := by omega
     have hcapI : (xs.length : Int) + 40 ≤ (cap : Int) := by omega
     have hx0 : (0 : Int) ≤ (xs.length : Int) + 40 := by omega
     clear ho hb hGb hcap0 hlen hown
     go_wp2_with ((with_reducible refine gate_builtin (b := .append) (xs := #[.tmp 35, .tmp 37]) rfl ?_); at_builtin; refine print_append (w0 := w) w.heap.size rfl (.tmp 35) (.tmp 37) 33 22 (.slice none 0 0) 24 rfl Tryz.underlying33 infoRowT rfl (by decide) (.slice none 0 0) [] (.slice (some ⟨F, 0, none⟩) (xs.length + 2 * 20) cap) rfl rfl rfl ?aO ?aB ?aS ?aL ?_; (case aO => exact own_nil _ _ _ _); (case aB => exact HBF.out); (case aS => exact HBF.out.size); (case aL => decide); intro v1 w1 ho1 hb1 hg1 hat1; obtain ⟨B2, c2, rfl⟩ := own_form ho1 (by simp); have HO2 := Aside0.mk ho1; have HB2 := Aside0.mk hb1; have HOF2 := Aside0.mk (Kd.R_step HOF.out (fun k _ hk => hg1.block k hk (by simp [Value.ownBlock]))); have cG2 := (blk_cell (blk_below HG.out hb1) 7).trans HG1.out; have fG2 := blk_frozen (blk_below HG.out hb1) 7; clear ho1 hb1 hg1 hat1)
     refine bodyPost_ret (results_tmp rfl _ _ _) rfl ⟨F, cap, B2, c2, w1, rfl, HOF2.out, HO2.out, HB2.out, rfl⟩
end Go.Proofs.YtjlclkenfmbahaaGreatDoor.PA
