/- WordsApart walked by hand: the law's call comes to true. Conditions: the two Scans say the same of every text, the tables ('Tabs'). -/
import Derived.Test.YtjlclkenfmbahaaGreatDoorVKpToks
import Derived.Test.YtjlclkenfmbahaaGreatDoorVScScan
import Derived.Test.YtjlclkenfmbahaaGreatDoorVPAx0
import Derived.Test.YtjlclkenfmbahaaGreatDoorVL3
namespace Go.Proofs.YtjlclkenfmbahaaGreatDoor.PA
open Go.RowKit Go.Maps Go.Proofs.YtjlclkenfmbahaaGreatDoorW.PrintWords Go.Proofs.YtjlclkenfmbahaaGreatDoorW.PrintLast Go.Proofs.YtjlclkenfmbahaaGreatDoorW.PrintMore
set_option linter.unusedVariables false
set_option linter.unusedSimpArgs false
set_option maxRecDepth 100000
set_option maxHeartbeats 8000000
theorem book_build (w : World) : (Instr.build 66 #[]).run Tryz.prog w = .ok (.agg Tryz.zeroCells66) w := run_build w 66 #[] _ (by kernel_rfl)
theorem wpList_build {P : Program} {ops : Array Oper} {rest : List Oper} {o : Oper} {a : Act} {Q : Exit → Act → World → Prop} {W : World} {t : TypeId} {cells : Array Value} (hgd : o.guard = none) (ho : o.op = .build t #[]) (h : (Instr.build t #[]).run P W = .ok (.agg cells) W)
  (K : wpList P ops Q rest (a.put o.dst (.agg cells)) W) : wpList P ops Q (o :: rest) a W := by
 refine wpList_plain hgd fun K' hK => ?_
 unfold Oper.wp execOp
 simp only [ho, List.map_toArray, List.map_nil, Sem.run_bind, Sem.run_pure, h, Result.andThen_ok]
 exact hK _ _ K
def bookCell (j : Nat) : Value := if j < 2 then .bool false else if j < 4 then .int .i64 0 else if j % 9 = 3 then .int .i64 0 else .slice none 0 0
theorem book_lit : Tryz.zeroCells66 = (Array.range 220).map bookCell := by kernel_rfl
theorem book_at {j : Nat} (h : j < 220) : Tryz.zeroCells66[j]? = some (bookCell j) := by
 rw [book_lit]
 simp [h]
theorem book_nils : Nils Tryz.zeroCells66 := fun j hj => by
 unfold nilIx at hj
 simp only [Bool.and_eq_true, decide_eq_true_eq, Bool.or_eq_true, Bool.not_eq_true', beq_eq_false_iff_ne] at hj
 rw [book_at hj.2.1]
 unfold bookCell
 rw [if_neg (by omega), if_neg (by omega), if_neg hj.2.2.2]
section
variable {PS : List (Value × List S57)} {b : Nat} {w W W2 : World} {G : Nat} {deep turn seen : Int} {n : Nat} {v lv : Value} {xs : List S57}
theorem bk_start (w : World) : BkOk [] w.heap.size w w.heap.size 0 0 0 0 (w.alloc (.cells Tryz.zeroCells66 66)) := by
 refine ⟨[], [], fun _ => 9, Tryz.zeroCells66, by simp, ⟨⟨heap_alloc_new w _, rfl, Nat.le_refl _⟩, book_nils, book_at (by omega), book_at (by omega), book_at (by omega), book_at (by omega), book_at (by omega), fun i hi => ⟨.slice none 0 0, ?_, ?_⟩⟩,
  ⟨fun o ho => (by cases ho), fun x hx => (by cases hx), fun x hx => (by cases hx), by simp, fun o ho => (by cases ho), fun o ho => (by cases ho), fun q hq => (by cases hq)⟩, below_alloc (Below.refl _ _) _⟩
 ·rw [book_at (by omega)]
  unfold bookCell
  rw [if_neg (by omega), if_neg (by omega), if_neg (by omega)]
 ·have e : stdR [] [] [] i = [] := by
   obtain rfl | rfl | rfl | rfl | rfl | rfl | rfl | rfl : i = 0 ∨ i = 1 ∨ i = 2 ∨ i = 3 ∨ i = 4 ∨ i = 5 ∨ i = 6 ∨ i = 7 := by omega
   all_goals rfl
  rw [e]
  exact KRow.nil _ _ _ _ _
theorem BkOk.below (h : BkOk PS b w G deep turn seen n W) : Below b w W := by
 obtain ⟨_, _, _, _, _, _, _, h5⟩ := h
 exact h5
theorem BkOk.more (h : BkOk PS b w G deep turn seen n W) {m : Nat} (hm : n ≤ m) : BkOk PS b w G deep turn seen m W := by
 obtain ⟨os, ws, col, cg, h1, h2, h3, h4⟩ := h
 exact ⟨os, ws, col, cg, by omega, h2, h3, h4⟩
theorem BkOk.drop (h : BkOk PS b w G deep turn seen n W) : BkOk [] b w G deep turn seen n W := by
 obtain ⟨os, ws, col, cg, h1, h2, h3, h4⟩ := h
 exact ⟨os, ws, col, cg, h1, h2, ⟨h3.out, h3.wait, h3.fresh, h3.apart, h3.oapart, h3.ofresh, fun q hq => (by cases hq)⟩, h4⟩
theorem BkOk.protect (h : BkOk PS b w G deep turn seen n W) (hB : Below W.heap.size W W2) (hR : Kd.R k57 57 W2 W.heap.size (fun _ => True) v xs) : BkOk [(v, xs)] b w G deep turn seen n W2 := by
 obtain ⟨os, ws, col, cg, h1, h2, h3, h4⟩ := h
 have m := Ms.of_new (col := col) hB h2.le 20
 have c := h3.ms m
 exact ⟨os, ws, _, cg, h1, h2.mv (Mv.of_new (s := 20) (t := 30) hB h2.le) (by omega), ⟨c.out, c.wait, c.fresh, c.apart, c.oapart, c.ofresh, fun q hq => by
  rw [List.mem_singleton] at hq
  subst hq
  exact fresh_rd hR col⟩, h4.trans m.below⟩
theorem BkOk.prot {A : Option Addr} {m c : Nat} (h : BkOk [(.slice A m c, xs)] b w G deep turn seen n W) : Kd.C k57 W A xs.length xs := by
 obtain ⟨os, ws, col, cg, h1, h2, h3, h4⟩ := h
 exact (h3.prot (.slice A m c, xs) (by simp)).reads.2
theorem BkOk.hold (h : BkOk PS b w G deep turn seen n W) (hn : n ≤ 900) : Calls Tryz.prog 14 #[.pointer (some ⟨G, 0, none⟩)] W fun e w' => e = .returned (.bool true) ∧ Below W.heap.size W w' := by
 obtain ⟨os, ws, col, cg, h1, h2, h3, h4⟩ := h
 exact bookHold_calls h2 h3 (by omega) (by omega) h2.le
theorem BkOk.toks (mk : Int) (h : BkOk PS b w G 0 turn seen n W) (hB : Below W.heap.size W W2) (hl : Kd.R k57 57 W2 W.heap.size (fun _ => True) lv xs) (hxl : xs.length ≤ 90000) (hn : n ≤ 800) :
  Calls Tryz.prog 13 #[.pointer (some ⟨G, 0, none⟩), lv, .int .i64 mk] W2 fun e w' => e = .returned (.tuple #[]) ∧ ∃ t s, BkOk PS b w G 0 t s (n + 2) w' := by
 obtain ⟨os, ws, col, cg, h1, h2, h3, h4⟩ := h
 refine (bookTokens_calls mk h2 h3 hB hl hxl h1 hn).mono ?_
 rintro e w' ⟨rfl, t, s, hp⟩
 exact ⟨rfl, t, s, hp.base h4⟩
end
def ScanBoth (s : ByteArray) (r1 : List S57) (r2 r3 : Int) : Prop := words_Scan.f s = some (r1, r2, r3) ∧ (∃ k, levyref4_Scan.f k s = some (r1, r2, r3)) ∧ r1.length ≤ 90000 ∧ ∃ K, levylaw4_same.f K r1 r1 = some true
theorem same_two {K : Nat} {xs : List S57} {A1 A2 : Option Addr} {c1 c2 : Nat} (h : levylaw4_same.f K xs xs = some true) (W : World) (h1 : Kd.C k57 W A1 xs.length xs) (h2 : Kd.C k57 W A2 xs.length xs) (e1 : xs.length ≤ c1) (e2 : xs.length ≤ c2) :
  Calls Tryz.prog 9 #[.slice A1 xs.length c1, .slice A2 xs.length c2] W fun r w' => r = .returned (.bool true) ∧ Below W.heap.size W w' := by
 refine (levylaw4_same.calls K A1 c1 xs A2 c2 xs true W h1 e1 h2 e2 h).mono ?_
 rintro e w' ⟨rfl, ⟨m, rfl⟩⟩
 exact ⟨rfl, pw_below_drewN (Below.refl _ _) m⟩
theorem num_two (e : Int) (W : World) : Calls Tryz.prog 8 #[.int .i64 e] W fun r w' => r = .returned (.int .i64 e) ∧ Below W.heap.size W w' := by
 refine (levylaw4_num.calls e e W rfl).mono ?_
 rintro r w' ⟨rfl, ⟨m, rfl⟩⟩
 exact ⟨rfl, pw_below_drewN (Below.refl _ _) m⟩
theorem apart_calls (A : Option Addr) (c : Nat) (ss : List ByteArray) (w : World) (hT : Tabs w) (hrd : Kd.C Kd.string w A ss.length ss) (hP : ∀ s, ∃ r1 r2 r3, ScanBoth s r1 r2 r3) :
  Calls Tryz.prog 4 #[.slice A ss.length c] w fun e w' => e = .returned (.bool true) ∧ Below w.heap.size w w' := by
 have HT := Aside0.mk hT
 have HRD := Aside0.mk hrd
 have HP := Aside0.mk hP
 have HS := Aside0.mk (bk_start w)
 clear hT hrd hP
 go_enter Tryz.func4, Tryz.ntmps4
 go_upto_region 2 with ((with_reducible refine gate_dst (N := 12) rfl ?_); refine wpList_build rfl rfl (book_build _) ?_)
 obtain ⟨W0, hW0⟩ : ∃ W0, w.alloc (.cells Tryz.zeroCells66 66) = W0 := ⟨_, rfl⟩
 rw [hW0] at HS ⊢
 obtain ⟨G, hG⟩ : ∃ G, w.heap.size = G := ⟨_, rfl⟩
 have HS : Aside0 (BkOk [] w.heap.size w G 0 0 0 0 W0) := ⟨by rw [← hG]; exact HS.out⟩
 rw [hG]
 clear hW0 hG
 go_wp2_with fail
 go_loopw [4] (fun v4 wr => ∃ (i : Nat) (t s : Int), i ≤ 12 ∧ i ≤ ss.length ∧ v4 = .int .i64 i ∧ Hid (BkOk [] w.heap.size w G 0 t s (6 * i) wr)) (fun v4 _ => 12 - (intOf v4).toNat)
 case atStart => exact ⟨0, 0, 0, by omega, by omega, rfl, HS.out⟩
 case round =>
  clear HS
  obtain ⟨i, t, s, hi, his, rfl, hbk⟩ := hrel
  have HB := Aside0.mk hbk.out
  clear hbk
  by_cases h1 : i < ss.length
  ·have c1 : (i : Int) < (ss.length : Int) := by omega
   by_cases h2 : i < 12
   ·have c2 : (i : Int) < 12 := by omega
    have ci0 : (0 : Int) ≤ (i : Int) := by omega
    have hi1 : wrap64 ((i : Int) + 1) = (i : Int) + 1 := Go.Proofs.YtjlclkenfmbahaaGreatDoor.Days.wr (by omega) (by omega)
    obtain ⟨ad, hA, hcell⟩ := Kd.at_string HRD.out (i : Int) (by omega) (by omega)
    rw [Int.toNat_natCast] at hcell
    subst hA
    obtain ⟨sv, hsv⟩ : ∃ sv, rdOf ByteArray.empty ss (i : Int) = sv := ⟨_, rfl⟩
    rw [hsv] at hcell
    have yc : wr.cell? (ad.add i) = some (.string sv) := (HB.out.below.cell (World.block_lt_of_cell? _ _ hcell)).trans hcell
    have HCELL := Aside0.mk hcell
    clear hsv hcell
    by_cases hbig : 65536 < sv.size
    ·have cb : (65536 : Int) < (sv.size : Int) := by omega
     go_wp2_with fail
     refine bodyPost_ret (results_tmp rfl _ _ _) rfl ⟨rfl, HB.out.below⟩
    ·have cb : ¬ ((65536 : Int) < (sv.size : Int)) := by omega
     obtain ⟨r1, r2, r3, q1, ⟨k, q2⟩, q3, KS, q4⟩ := HP.out sv
     have Q1 := Aside0.mk q1
     have Q2 := Aside0.mk q2
     have Q3 := Aside0.mk q3
     have Q4 := Aside0.mk q4
     clear q1 q2 q3 q4 hbig
     go_upto_region 8 with (go_at_call 11; (with_reducible refine (levyref4_Scan.calls k sv r1 r2 r3 _ (HT.out.below HB.out.below) Q2.out).mono ?_); rintro e w2 ⟨mv, rfl, hrow, hb⟩; obtain ⟨mA, mc, rfl⟩ := Kd.R_slice hrow; have n0_ := Aside0.mk (HB.out.protect hb hrow); have HMC := Aside0.mk (Kd.R_reads' hrow).2.1; clear HB hb hrow; have HB := n0_; clear n0_)
     clear yc
     go_wp2_with fail
     go_loopw [8] (fun v8 wr2 => ∃ (k2 : Nat) (t s : Int), k2 ≤ 3 ∧ v8 = .int .i64 k2 ∧ Hid (BkOk [(.slice mA r1.length mc, r1)] w.heap.size w G 0 t s (6 * i + 2 * k2) wr2)) (fun v8 _ => 3 - (intOf v8).toNat)
     case atStart => exact ⟨0, t, s, by omega, rfl, HB.out⟩
     case round =>
      clear HB
      obtain ⟨k2, t2, s2, hk2, rfl, hbk⟩ := hrel
      have HB := Aside0.mk hbk.out
      clear hbk
      by_cases h3 : k2 < 3
      ·have c3 : (k2 : Int) < 3 := by omega
       have hk1 : wrap64 ((k2 : Int) + 1) = (k2 : Int) + 1 := Go.Proofs.YtjlclkenfmbahaaGreatDoor.Days.wr (by omega) (by omega)
       have yc : wr.cell? (ad.add i) = some (.string sv) := (HB.out.below.cell (World.block_lt_of_cell? _ _ HCELL.out)).trans HCELL.out
       go_wp2_with (first
        | (go_at_call 12; (with_reducible refine (words_Scan.calls sv r1 r2 r3 _ (HT.out.below HB.out.below) Q1.out).mono ?_); rintro e w3 ⟨lv, rfl, hrow, hb⟩; obtain ⟨lA, lc, rfl⟩ := Kd.R_slice hrow; have HROW := Aside0.mk hrow; have HB3 := Aside0.mk hb; clear hrow hb)
        | (go_at_call 8; (with_reducible refine (num_two r3 _).mono ?_); rintro e w4 ⟨rfl, hb⟩; have n0_ := Aside0.mk (Kd.R_below HROW.out hb); have n1_ := Aside0.mk (HB3.out.trans (hb.mono HB3.out.size)); clear HROW HB3 hb; have HROW := n0_; have HB3 := n1_; clear n0_ n1_)
        | (go_at_call 9; (with_reducible refine (same_two Q4.out _ (Kd.R_reads' HROW.out).2.2 (Kd.C_below HB.out.prot HB3.out) (Kd.R_reads' HROW.out).2.1 HMC.out).mono ?_); rintro e w4 ⟨rfl, hb⟩; have n0_ := Aside0.mk (Kd.R_below HROW.out hb); have n1_ := Aside0.mk (HB3.out.trans (hb.mono HB3.out.size)); clear HROW HB3 hb; have HROW := n0_; have HB3 := n1_; clear n0_ n1_)
        | (go_at_call 13; (with_reducible refine (BkOk.toks _ HB.out HB3.out HROW.out Q3.out (by omega)).mono ?_); rintro e w5 ⟨rfl, t3, s3, hp⟩; clear HB HROW HB3; have HB := Aside0.mk hp; clear hp)
        | (go_at_call 14; (with_reducible refine (HB.out.hold (by omega)).mono ?_); rintro e w6 ⟨rfl, hb⟩; have n0_ := Aside0.mk (HB.out.go hb); clear HB hb; have HB := n0_; clear n0_))
       first | rw [hk1] | skip
       exact ⟨⟨k2 + 1, _, _, by omega, congrArg (Value.int .i64) (by omega), HB.out.more (by omega)⟩, by simp [intOf]; omega⟩
      ·obtain rfl : k2 = 3 := by omega
       go_wp2_with fail
       first | rw [hi1] | skip
       exact ⟨⟨i + 1, _, _, by omega, by omega, congrArg (Value.int .i64) (by omega), HB.out.drop.more (by omega)⟩, by simp [intOf]; omega⟩
   ·have c2 : ¬ ((i : Int) < 12) := by omega
    go_wp2_with fail
    refine bodyPost_ret (results_tmp rfl _ _ _) rfl ⟨rfl, HB.out.below⟩
  ·have c1 : ¬ ((i : Int) < (ss.length : Int)) := by omega
   go_wp2_with fail
   refine bodyPost_ret (results_tmp rfl _ _ _) rfl ⟨rfl, HB.out.below⟩
end Go.Proofs.YtjlclkenfmbahaaGreatDoor.PA
