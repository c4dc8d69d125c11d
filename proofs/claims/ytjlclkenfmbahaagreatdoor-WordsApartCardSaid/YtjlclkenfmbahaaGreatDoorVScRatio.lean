/- The ratio that the digits of a percent say, walked by hand. Conditions: both pieces are digits, of at most 8000 bytes together. -/
import Derived.Test.YtjlclkenfmbahaaGreatDoorVScNum
import Derived.Test.YtjlclkenfmbahaaGreatDoorVScSt
import Derived.BigRegion
import Derived.RegionTactic
import Derived.ChangeAlike
import Derived.Deep.QuietTactic
import Derived.BigQuiet
import Derived.Laws.RangeString
import Derived.Test.YtjlclkenfmbahaaGreatDoorVPAx0
import Derived.Test.YtjlclkenfmbahaaGreatDoorVL
import Derived.Test.YtjlclkenfmbahaaGreatDoorVPAx69
namespace Go.Proofs.YtjlclkenfmbahaaGreatDoor.PA
open Go.RowKit Go.Proofs.YtjlclkenfmbahaaGreatDoorW.PrintWords Go.Proofs.YtjlclkenfmbahaaGreatDoorW.PrintLast Go.Proofs.YtjlclkenfmbahaaGreatDoorW.PrintMore
set_option linter.unusedVariables false
set_option linter.unusedSimpArgs false
def denR (k : Nat) : Nat := 100 * 10 ^ k
def ratioR (a b : List UInt8) : S57 × Bool :=
 if 6 < b.length ∨ b.getLast? = some 48 then (⟨0, 0, ⟨#[]⟩, 0, 0⟩, false)
 else if (digitsR (a ++ b)).2 = false then (⟨0, 0, ⟨#[]⟩, 0, 0⟩, false)
 else (⟨4, 0, ⟨#[]⟩, ((val (a ++ b) / max (Nat.gcd (val (a ++ b)) (denR b.length)) 1 : Nat) : Int), ((denR b.length / max (Nat.gcd (val (a ++ b)) (denR b.length)) 1 : Nat) : Int)⟩,
  decide (((val (a ++ b) / max (Nat.gcd (val (a ++ b)) (denR b.length)) 1 : Nat) : Int) ≤ 1000000000) && decide (((denR b.length / max (Nat.gcd (val (a ++ b)) (denR b.length)) 1 : Nat) : Int) ≤ 1000000000))
def Gave (w : World) (r : S57 × Bool) (e : Ending) (w' : World) : Prop :=
 e = .returned (.tuple #[.agg #[.int .i64 r.1.f0, .int .i64 r.1.f1, .string r.1.f2, .int .i64 r.1.f3, .int .i64 r.1.f4], .bool r.2]) ∧ Below w.heap.size w w'
theorem putB {w W : World} {h : Nat} (hB : Below w.heap.size w W) {cs : Array Value} (hcs : cs.size = 5) (hh : W.heap[h]? = some (.cells cs 57 (0, 0))) (hw : w.heap.size ≤ h) (v0 v1 v2 v3 v4 : Value) :
  Below w.heap.size w (((((W.setCell ⟨h, 0, none⟩ v0).setCell ⟨h, 1, none⟩ v1).setCell ⟨h, 2, none⟩ v2).setCell ⟨h, 3, none⟩ v3).setCell ⟨h, 4, none⟩ v4) ∧
  (((((W.setCell ⟨h, 0, none⟩ v0).setCell ⟨h, 1, none⟩ v1).setCell ⟨h, 2, none⟩ v2).setCell ⟨h, 3, none⟩ v3).setCell ⟨h, 4, none⟩ v4).heap[h]? = some (.cells #[v0, v1, v2, v3, v4] 57 (0, 0)) := by
 obtain ⟨l⟩ := cs
 match l, hcs with
 | [c0, c1, c2, c3, c4], _ =>
 exact ⟨below_set (below_set (below_set (below_set (below_set hB hw) hw) hw) hw) hw,
  blk_put (cs' := #[v0, v1, v2, v3, v4]) (blk_put (cs' := #[v0, v1, v2, v3, c4]) (blk_put (cs' := #[v0, v1, v2, c3, c4]) (blk_put (cs' := #[v0, v1, c2, c3, c4]) (blk_put (cs' := #[v0, c1, c2, c3, c4]) hh 0 v0 rfl) 1 v1 rfl) 2 v2 rfl) 3 v3 rfl) 4 v4 rfl⟩
theorem denR_succ (k : Nat) : denR (k + 1) = denR k * 10 := by unfold denR; rw [Nat.pow_succ, Nat.mul_assoc]
theorem denR_le {k : Nat} (h : k ≤ 6) : denR k ≤ 100000000 := by
 have : 10 ^ k ≤ 1000000 := Nat.pow_le_pow_right (show 0 < 10 by decide) h
 unfold denR
 omega
theorem iter_blk {w : World} {s : ByteArray} {i h : Nat} {o : Obj} (hh : w.heap[h]? = some o) : (w.iter s i).heap[h]? = some o := blk_below hh (below_alloc (Below.refl _ w) _)
theorem last_bt (b : ByteArray) (h : 0 < b.size) : ∃ x : UInt8, (Ls b)[b.size - 1]? = some x ∧ (Ls b).getLast? = some x := by
 obtain ⟨x, hx⟩ := byte_some b (i := b.size - 1) (by omega)
 refine ⟨x, hx, ?_⟩
 rw [List.getLast?_eq_getElem?, Ls_len]; exact hx
set_option maxRecDepth 100000 in
set_option maxHeartbeats 8000000 in
theorem ratio_calls (a b : ByteArray) (w : World) (hs : a.size + b.size ≤ 8000) (hda : ∀ x ∈ Ls a, isDg x = true) (hdb : ∀ x ∈ Ls b, isDg x = true) :
  Calls Tryz.prog 204 #[.string a, .string b] w (Gave w (ratioR (Ls a) (Ls b))) := by
 have HS := Aside0.mk hs
 have HDA := Aside0.mk hda
 have HDB := Aside0.mk hdb
 have k9 : (9223372036854775807 < a.size + b.size) = False := eq_false (by omega)
 clear hs hda hdb
 by_cases h6 : 6 < b.size
 ·have k6 : ((6 : Int) < (b.size : Int)) = True := eq_true (by omega)
  have k6n : (6 < b.size) = True := eq_true h6
  have H6 := Aside0.mk h6
  clear h6
  go_enter Tryz.func204, Tryz.ntmps204
  go_wp2
  refine bodyPost_ret (results_ct rfl _ _ w.heap.size 57 #[.int .i64 0, .int .i64 0, .string ⟨#[]⟩, .int .i64 0, .int .i64 0] (0, 0) _ rfl (heap_alloc_new w _) Tryz.underlying57 rfl (by kernel_rfl)) rfl ?_
  unfold ratioR
  rw [if_pos (Or.inl (by rw [Ls_len]; exact H6.out))]
  exact ⟨rfl, below_alloc (Below.refl _ w) _⟩
 ·have k6 : ((6 : Int) < (b.size : Int)) = False := eq_false (by omega)
  have k6n : (6 < b.size) = False := eq_false h6
  have H6 := Aside0.mk h6
  clear h6
  by_cases h0 : b.size = 0
  ·have e0 : b.toList = [] := by rw [Go.Lib.toList_data]; exact List.length_eq_zero_iff.1 ((Ls_len b).trans h0)
   have e1 : b.toList.isEmpty = true := by rw [e0]; rfl
   have H0 := Aside0.mk h0
   clear h0 e0
   obtain ⟨Kd, hKd⟩ := digits_eval (Ls a ++ Ls b) (fun y hy => by rcases List.mem_append.1 hy with h | h; exact HDA.out y h; exact HDB.out y h)
   have hdg := hKd Kd (Nat.le_refl _)
   dsimp only at hdg
   rw [← bA_append] at hdg
   have hdg : words_digits.f Kd (a ++ b) = some (digitsR (Ls a ++ Ls b)) := hdg
   clear hKd
   generalize hr : digitsR (Ls a ++ Ls b) = r at hdg
   have HRR := Aside0.mk hr
   obtain ⟨n0, okd⟩ := r
   have HD := Aside0.mk hdg
   clear hr hdg
   cases okd with
   | false =>
    go_enter Tryz.func204, Tryz.ntmps204
    go_wp2_with (first | (go_at_call 222; refine (words_digits.calls Kd (a ++ b) n0 false _ HD.out).mono ?_; rintro e w1 ⟨rfl, hb1⟩; have HR1 := Aside0.mk (blk_below (heap_alloc_new w (.cells #[.int .i64 0, .int .i64 0, .string ⟨#[]⟩, .int .i64 0, .int .i64 0] 57)) hb1); have HB1 := Aside0.mk (((Below.refl w.heap.size w).alloc (Nat.le_refl _) (.cells #[.int .i64 0, .int .i64 0, .string ⟨#[]⟩, .int .i64 0, .int .i64 0] 57)).trans (hb1.mono (by simp))); clear hb1; have q1_0 := blk_cell HR1.out 0; have z1_0 := blk_frozen HR1.out 0; have q1_1 := blk_cell HR1.out 1; have z1_1 := blk_frozen HR1.out 1; have q1_2 := blk_cell HR1.out 2; have z1_2 := blk_frozen HR1.out 2; have q1_3 := blk_cell HR1.out 3; have z1_3 := blk_frozen HR1.out 3; have q1_4 := blk_cell HR1.out 4; have z1_4 := blk_frozen HR1.out 4))
    obtain ⟨a1, a2⟩ := putB HB1.out rfl HR1.out (Nat.le_refl _) (.int .i64 0) (.int .i64 0) (.string ⟨#[]⟩) (.int .i64 0) (.int .i64 0)
    refine bodyPost_ret (results_ct rfl _ _ w.heap.size 57 #[.int .i64 0, .int .i64 0, .string ⟨#[]⟩, .int .i64 0, .int .i64 0] (0, 0) _ rfl a2 Tryz.underlying57 rfl (by kernel_rfl)) rfl ?_
    unfold ratioR
    rw [if_neg (fun h => by rcases h with h | h; (rw [Ls_len] at h; exact H6.out h); (rw [List.length_eq_zero_iff.1 ((Ls_len b).trans H0.out)] at h; cases h)), if_pos (by rw [HRR.out])]
    exact ⟨rfl, a1⟩
   | true =>
    have hn0 : n0 = (val (Ls a ++ Ls b) : Int) ∧ val (Ls a ++ Ls b) < 1000000000000000000 := by
     have h := HRR.out
     unfold digitsR at h
     split at h
     ·cases h
     ·next h18 =>
      refine ⟨(congrArg Prod.fst h).symm, ?_⟩
      have hl := val_lt ((Ls a ++ Ls b).dropWhile (· == 48)) (fun y hy => by rcases List.mem_append.1 ((List.dropWhile_suffix _).subset hy) with h | h; exact HDA.out y h; exact HDB.out y h)
      rw [val_strip] at hl
      have := Nat.pow_le_pow_right (show 0 < 10 by decide) (show ((Ls a ++ Ls b).dropWhile (· == 48)).length ≤ 18 by omega)
      omega
    obtain ⟨rfl, hvl⟩ := hn0
    generalize hv : val (Ls a ++ Ls b) = v at hvl HD HRR
    have HV := Aside0.mk hv
    have HVL := Aside0.mk hvl
    clear hv hvl
    have hb6 : b.size ≤ 6 := Nat.le_of_not_lt H6.out
    have HB6 := Aside0.mk hb6
    clear hb6
    obtain ⟨Kc, hKc⟩ := common_eval v (denR b.size)
    have hcm := hKc Kc (Nat.le_refl _)
    dsimp only at hcm
    clear hKc
    generalize hgd : max (Nat.gcd v (denR b.size)) 1 = d at hcm
    have HGD := Aside0.mk hgd
    have hd1 : 1 ≤ d := by omega
    have HD1 := Aside0.mk hd1
    have HCM := Aside0.mk hcm
    clear hgd hcm hd1
    go_enter Tryz.func204, Tryz.ntmps204
    go_wp2_with (first | (go_at_call 222; refine (words_digits.calls Kd (a ++ b) (v : Int) true _ HD.out).mono ?_; rintro e w1 ⟨rfl, hb1⟩; have HR1 := Aside0.mk (blk_below (heap_alloc_new w (.cells #[.int .i64 0, .int .i64 0, .string ⟨#[]⟩, .int .i64 0, .int .i64 0] 57)) hb1); have HB1 := Aside0.mk (((Below.refl w.heap.size w).alloc (Nat.le_refl _) (.cells #[.int .i64 0, .int .i64 0, .string ⟨#[]⟩, .int .i64 0, .int .i64 0] 57)).trans (hb1.mono (by simp))); clear hb1))
    go_loopg [8] (b.size + 1) (fun kq v8 w' => ∃ i : Nat, v8 = .int .i64 (denR i : Int) ∧ w' = w1.iter b i ∧ Hid (kq + i = b.size + 1 ∧ i ≤ b.size))
    case atStart => exact ⟨0, rfl, rfl, by omega, by omega⟩
    case round =>
     obtain ⟨i, rfl, rfl, hh⟩ := hrel
     obtain ⟨hki, hib⟩ := hh.out
     clear hh
     by_cases hlt : i < b.size
     ·cases gk with
      | zero => omega
      | succ k1 =>
      obtain ⟨y, hy⟩ := byte_some b hlt
      have hyd := dg_bounds (HDB.out y (List.mem_of_getElem? hy))
      have hy2 : b[i]'hlt = y := by obtain ⟨_, e⟩ := List.getElem?_eq_some_iff.1 hy; rw [← e]; simp [ByteArray.getElem_eq_getElem_data]
      have hnx := fun ty => run_next_ascii (P := Tryz.prog) w1 b i ty hlt (by rw [hy2]; omega)
      have hm : IntKind.i64.wrap ((denR i : Int) * 10) = (denR (i + 1) : Int) := by
       have h1 := denR_le (k := i) (by have := HB6.out; omega)
       rw [IntKind.wrap_i64, denR_succ]
       omega
      have hm2 : wrap64 ((denR i : Int) * 10) = (denR (i + 1) : Int) := by
       have h1 := denR_le (k := i) (by have := HB6.out; omega)
       rw [wrI (by omega) (by omega), denR_succ]
       omega
      have HLT := Aside0.mk hlt
      clear hyd hy
      go_wp2
      go_roundg k1
      case measure => omega
      case rel => exact ⟨i + 1, rfl, rfl, by have := HLT.out; omega, by have := HLT.out; omega⟩
     ·have hi : i = b.size := by omega
      subst hi
      have hnx := fun ty => run_next_end (P := Tryz.prog) w1 b b.size ty (by omega)
      have hdne : ((d : Int) == 0) = false := beq_eq_false_iff_ne.mpr (by have := HD1.out; omega)
      have hdn : ¬ (d : Int) = 0 := by have := HD1.out; omega
      have hdn2 : ¬ d = 0 := by have := HD1.out; omega
      have hq1 : wrap64 ((v : Int) / (d : Int)) = ((v / d : Nat) : Int) := by
       have h1 : (v : Int) / (d : Int) = ((v / d : Nat) : Int) := rfl
       have h2 : v / d ≤ v := Nat.div_le_self _ _
       have h3 := HVL.out
       rw [h1]
       generalize v / d = q at h2 ⊢
       exact wrI (by omega) (by omega)
      have hq2 : wrap64 ((denR b.size : Int) / (d : Int)) = ((denR b.size / d : Nat) : Int) := by
       have h1 : (denR b.size : Int) / (d : Int) = ((denR b.size / d : Nat) : Int) := rfl
       have h2 : denR b.size / d ≤ denR b.size := Nat.div_le_self _ _
       have h3 := denR_le HB6.out
       rw [h1]
       generalize denR b.size / d = q at h2 ⊢
       exact wrI (by omega) (by omega)
      have hR : ratioR (Ls a) (Ls b) = (⟨4, 0, ⟨#[]⟩, ((v / d : Nat) : Int), ((denR b.size / d : Nat) : Int)⟩, decide (((v / d : Nat) : Int) ≤ 1000000000) && decide (((denR b.size / d : Nat) : Int) ≤ 1000000000)) := by
       unfold ratioR
       rw [if_neg (fun h => by rcases h with h | h; (rw [Ls_len] at h; exact H6.out h); (rw [List.length_eq_zero_iff.1 ((Ls_len b).trans H0.out)] at h; cases h)), if_neg (by rw [HRR.out]; simp), HV.out, Ls_len, HGD.out]
      generalize hx1 : ((v / d : Nat) : Int) = x1 at hq1 hR
      generalize hx2 : ((denR b.size / d : Nat) : Int) = x2 at hq2 hR
      have HRS := Aside0.mk hR
      clear hx1 hx2 hR
      clear hlt hki hib
      have HR2 := Aside0.mk (iter_blk (s := b) (i := b.size) HR1.out)
      have HB2 := Aside0.mk (show Below w.heap.size w (w1.iter b b.size) from HB1.out.trans ((Below.refl w.heap.size w1).alloc HB1.out.size (.stringIter b b.size)))
      by_cases c1 : x1 ≤ 1000000000
      ·have k1_ : decide (x1 ≤ 1000000000) = true := decide_eq_true c1
       have C1 := Aside0.mk c1
       clear c1
       go_wp2_with (first | (go_at_call 79; refine (words_common.calls Kc (v : Int) (denR b.size : Int) (d : Int) _ HCM.out).mono ?_; rintro e w2 ⟨rfl, hb2⟩; have HR3 := Aside0.mk (blk_below HR2.out hb2); have HB3 := Aside0.mk (HB2.out.trans (hb2.mono HB2.out.size)); clear hb2; have q3_0 := blk_cell HR3.out 0; have z3_0 := blk_frozen HR3.out 0; have q3_1 := blk_cell HR3.out 1; have z3_1 := blk_frozen HR3.out 1; have q3_2 := blk_cell HR3.out 2; have z3_2 := blk_frozen HR3.out 2; have q3_3 := blk_cell HR3.out 3; have z3_3 := blk_frozen HR3.out 3; have q3_4 := blk_cell HR3.out 4; have z3_4 := blk_frozen HR3.out 4))
       go_quiet (fail)
       go_wp2
       obtain ⟨a1, a2⟩ := putB (HB3.out.trans (pw_below_drewN (Below.refl w.heap.size _) nq)) rfl (blk_drewN HR3.out nq) (Nat.le_refl _) (.int .i64 4) (.int .i64 0) (.string ⟨#[]⟩) (.int .i64 x1) (.int .i64 x2)
       refine bodyPost_ret (results_ct rfl _ _ w.heap.size 57 #[.int .i64 4, .int .i64 0, .string ⟨#[]⟩, .int .i64 x1, .int .i64 x2] (0, 0) _ rfl a2 Tryz.underlying57 rfl (by kernel_rfl)) rfl ?_
       rw [HRS.out]
       exact ⟨by simp [k1_], a1⟩
      ·have k1_ : decide (x1 ≤ 1000000000) = false := decide_eq_false c1
       have C1 := Aside0.mk c1
       clear c1
       go_wp2_with (first | (go_at_call 79; refine (words_common.calls Kc (v : Int) (denR b.size : Int) (d : Int) _ HCM.out).mono ?_; rintro e w2 ⟨rfl, hb2⟩; have HR3 := Aside0.mk (blk_below HR2.out hb2); have HB3 := Aside0.mk (HB2.out.trans (hb2.mono HB2.out.size)); clear hb2; have q3_0 := blk_cell HR3.out 0; have z3_0 := blk_frozen HR3.out 0; have q3_1 := blk_cell HR3.out 1; have z3_1 := blk_frozen HR3.out 1; have q3_2 := blk_cell HR3.out 2; have z3_2 := blk_frozen HR3.out 2; have q3_3 := blk_cell HR3.out 3; have z3_3 := blk_frozen HR3.out 3; have q3_4 := blk_cell HR3.out 4; have z3_4 := blk_frozen HR3.out 4))
       go_quiet (fail)
       go_wp2
       obtain ⟨a1, a2⟩ := putB (HB3.out.trans (pw_below_drewN (Below.refl w.heap.size _) nq)) rfl (blk_drewN HR3.out nq) (Nat.le_refl _) (.int .i64 4) (.int .i64 0) (.string ⟨#[]⟩) (.int .i64 x1) (.int .i64 x2)
       refine bodyPost_ret (results_ct rfl _ _ w.heap.size 57 #[.int .i64 4, .int .i64 0, .string ⟨#[]⟩, .int .i64 x1, .int .i64 x2] (0, 0) _ rfl a2 Tryz.underlying57 rfl (by kernel_rfl)) rfl ?_
       rw [HRS.out]
       exact ⟨by simp [k1_], a1⟩
  ·obtain ⟨x, hx, hl⟩ := last_bt b (by omega)
   have hw : wrap64 ((b.size : Int) - 1) = ((b.size - 1 : Nat) : Int) := by have := HS.out; unfold wrap64; omega
   have hbx := (bt_of b hx).1
   have hi : ∀ h : b.size - 1 < b.size, ((b[b.size - 1]'h).toNat : Int) = (x.toNat : Int) := fun h => (bt_at b ((b.size - 1 : Nat) : Int) h).trans hbx
   have e0 : ¬ b.toList = [] := fun e => h0 (by rw [Go.Lib.toList_data] at e; rw [← Ls_len b]; exact List.length_eq_zero_iff.2 e)
   have e1 : b.toList.isEmpty = false := by cases hq : b.toList with | nil => exact absurd hq e0 | cons _ _ => rfl
   clear e0
   have p6 : ((0 : Int) ≤ ((b.size - 1 : Nat) : Int)) = True := eq_true (by omega)
   have q6 : (((b.size - 1 : Nat) : Int) < (b.size : Int)) = True := eq_true (by omega)
   have q7 : (b.size - 1 < b.size) = True := eq_true (by omega)
   generalize hc : (x.toNat : Int) = c at hi
   have HC := Aside0.mk hc
   have HX := Aside0.mk hl
   have H0 := Aside0.mk h0
   clear hc hx hl hbx h0
   by_cases h48 : c = 48
   ·have k48 : (c == 48) = true := beq_iff_eq.mpr h48
    have H48 := Aside0.mk h48
    clear h48
    go_enter Tryz.func204, Tryz.ntmps204
    go_wp2
    refine bodyPost_ret (results_ct rfl _ _ w.heap.size 57 #[.int .i64 0, .int .i64 0, .string ⟨#[]⟩, .int .i64 0, .int .i64 0] (0, 0) _ rfl (heap_alloc_new w _) Tryz.underlying57 rfl (by kernel_rfl)) rfl ?_
    unfold ratioR
    rw [if_pos (Or.inr (by rw [HX.out]; congr 1; apply UInt8.toNat_inj.1; have := HC.out.trans H48.out; show x.toNat = 48; omega))]
    exact ⟨rfl, below_alloc (Below.refl _ w) _⟩
   ·have k48 : (c == 48) = false := beq_eq_false_iff_ne.mpr h48
    have H48 := Aside0.mk h48
    clear h48
    obtain ⟨Kd, hKd⟩ := digits_eval (Ls a ++ Ls b) (fun y hy => by rcases List.mem_append.1 hy with h | h; exact HDA.out y h; exact HDB.out y h)
    have hdg := hKd Kd (Nat.le_refl _)
    dsimp only at hdg
    rw [← bA_append] at hdg
    have hdg : words_digits.f Kd (a ++ b) = some (digitsR (Ls a ++ Ls b)) := hdg
    clear hKd
    generalize hr : digitsR (Ls a ++ Ls b) = r at hdg
    have HRR := Aside0.mk hr
    obtain ⟨n0, okd⟩ := r
    have HD := Aside0.mk hdg
    clear hr hdg
    cases okd with
    | false =>
     go_enter Tryz.func204, Tryz.ntmps204
     go_wp2_with (first | (go_at_call 222; refine (words_digits.calls Kd (a ++ b) n0 false _ HD.out).mono ?_; rintro e w1 ⟨rfl, hb1⟩; have HR1 := Aside0.mk (blk_below (heap_alloc_new w (.cells #[.int .i64 0, .int .i64 0, .string ⟨#[]⟩, .int .i64 0, .int .i64 0] 57)) hb1); have HB1 := Aside0.mk (((Below.refl w.heap.size w).alloc (Nat.le_refl _) (.cells #[.int .i64 0, .int .i64 0, .string ⟨#[]⟩, .int .i64 0, .int .i64 0] 57)).trans (hb1.mono (by simp))); clear hb1; have q1_0 := blk_cell HR1.out 0; have z1_0 := blk_frozen HR1.out 0; have q1_1 := blk_cell HR1.out 1; have z1_1 := blk_frozen HR1.out 1; have q1_2 := blk_cell HR1.out 2; have z1_2 := blk_frozen HR1.out 2; have q1_3 := blk_cell HR1.out 3; have z1_3 := blk_frozen HR1.out 3; have q1_4 := blk_cell HR1.out 4; have z1_4 := blk_frozen HR1.out 4))
     obtain ⟨a1, a2⟩ := putB HB1.out rfl HR1.out (Nat.le_refl _) (.int .i64 0) (.int .i64 0) (.string ⟨#[]⟩) (.int .i64 0) (.int .i64 0)
     refine bodyPost_ret (results_ct rfl _ _ w.heap.size 57 #[.int .i64 0, .int .i64 0, .string ⟨#[]⟩, .int .i64 0, .int .i64 0] (0, 0) _ rfl a2 Tryz.underlying57 rfl (by kernel_rfl)) rfl ?_
     unfold ratioR
     rw [if_neg (fun h => by rcases h with h | h; (rw [Ls_len] at h; exact H6.out h); (rw [HX.out] at h; exact H48.out (HC.out.symm.trans (by cases h; rfl)))), if_pos (by rw [HRR.out])]
     exact ⟨rfl, a1⟩
    | true =>
     have hn0 : n0 = (val (Ls a ++ Ls b) : Int) ∧ val (Ls a ++ Ls b) < 1000000000000000000 := by
      have h := HRR.out
      unfold digitsR at h
      split at h
      ·cases h
      ·next h18 =>
       refine ⟨(congrArg Prod.fst h).symm, ?_⟩
       have hl := val_lt ((Ls a ++ Ls b).dropWhile (· == 48)) (fun y hy => by rcases List.mem_append.1 ((List.dropWhile_suffix _).subset hy) with h | h; exact HDA.out y h; exact HDB.out y h)
       rw [val_strip] at hl
       have := Nat.pow_le_pow_right (show 0 < 10 by decide) (show ((Ls a ++ Ls b).dropWhile (· == 48)).length ≤ 18 by omega)
       omega
     obtain ⟨rfl, hvl⟩ := hn0
     generalize hv : val (Ls a ++ Ls b) = v at hvl HD HRR
     have HV := Aside0.mk hv
     have HVL := Aside0.mk hvl
     clear hv hvl
     have hb6 : b.size ≤ 6 := Nat.le_of_not_lt H6.out
     have HB6 := Aside0.mk hb6
     clear hb6
     obtain ⟨Kc, hKc⟩ := common_eval v (denR b.size)
     have hcm := hKc Kc (Nat.le_refl _)
     dsimp only at hcm
     clear hKc
     generalize hgd : max (Nat.gcd v (denR b.size)) 1 = d at hcm
     have HGD := Aside0.mk hgd
     have hd1 : 1 ≤ d := by omega
     have HD1 := Aside0.mk hd1
     have HCM := Aside0.mk hcm
     clear hgd hcm hd1
     go_enter Tryz.func204, Tryz.ntmps204
     go_wp2_with (first | (go_at_call 222; refine (words_digits.calls Kd (a ++ b) (v : Int) true _ HD.out).mono ?_; rintro e w1 ⟨rfl, hb1⟩; have HR1 := Aside0.mk (blk_below (heap_alloc_new w (.cells #[.int .i64 0, .int .i64 0, .string ⟨#[]⟩, .int .i64 0, .int .i64 0] 57)) hb1); have HB1 := Aside0.mk (((Below.refl w.heap.size w).alloc (Nat.le_refl _) (.cells #[.int .i64 0, .int .i64 0, .string ⟨#[]⟩, .int .i64 0, .int .i64 0] 57)).trans (hb1.mono (by simp))); clear hb1))
     go_loopg [8] (b.size + 1) (fun kq v8 w' => ∃ i : Nat, v8 = .int .i64 (denR i : Int) ∧ w' = w1.iter b i ∧ Hid (kq + i = b.size + 1 ∧ i ≤ b.size))
     case atStart => exact ⟨0, rfl, rfl, by omega, by omega⟩
     case round =>
      obtain ⟨i, rfl, rfl, hh⟩ := hrel
      obtain ⟨hki, hib⟩ := hh.out
      clear hh
      by_cases hlt : i < b.size
      ·cases gk with
       | zero => omega
       | succ k1 =>
       obtain ⟨y, hy⟩ := byte_some b hlt
       have hyd := dg_bounds (HDB.out y (List.mem_of_getElem? hy))
       have hy2 : b[i]'hlt = y := by obtain ⟨_, e⟩ := List.getElem?_eq_some_iff.1 hy; rw [← e]; simp [ByteArray.getElem_eq_getElem_data]
       have hnx := fun ty => run_next_ascii (P := Tryz.prog) w1 b i ty hlt (by rw [hy2]; omega)
       have hm : IntKind.i64.wrap ((denR i : Int) * 10) = (denR (i + 1) : Int) := by
        have h1 := denR_le (k := i) (by have := HB6.out; omega)
        rw [IntKind.wrap_i64, denR_succ]
        omega
       have hm2 : wrap64 ((denR i : Int) * 10) = (denR (i + 1) : Int) := by
        have h1 := denR_le (k := i) (by have := HB6.out; omega)
        rw [wrI (by omega) (by omega), denR_succ]
        omega
       have HLT := Aside0.mk hlt
       clear hyd hy
       go_wp2
       go_roundg k1
       case measure => omega
       case rel => exact ⟨i + 1, rfl, rfl, by have := HLT.out; omega, by have := HLT.out; omega⟩
      ·have hi : i = b.size := by omega
       subst hi
       have hnx := fun ty => run_next_end (P := Tryz.prog) w1 b b.size ty (by omega)
       have hdne : ((d : Int) == 0) = false := beq_eq_false_iff_ne.mpr (by have := HD1.out; omega)
       have hdn : ¬ (d : Int) = 0 := by have := HD1.out; omega
       have hdn2 : ¬ d = 0 := by have := HD1.out; omega
       have hq1 : wrap64 ((v : Int) / (d : Int)) = ((v / d : Nat) : Int) := by
        have h1 : (v : Int) / (d : Int) = ((v / d : Nat) : Int) := rfl
        have h2 : v / d ≤ v := Nat.div_le_self _ _
        have h3 := HVL.out
        rw [h1]
        generalize v / d = q at h2 ⊢
        exact wrI (by omega) (by omega)
       have hq2 : wrap64 ((denR b.size : Int) / (d : Int)) = ((denR b.size / d : Nat) : Int) := by
        have h1 : (denR b.size : Int) / (d : Int) = ((denR b.size / d : Nat) : Int) := rfl
        have h2 : denR b.size / d ≤ denR b.size := Nat.div_le_self _ _
        have h3 := denR_le HB6.out
        rw [h1]
        generalize denR b.size / d = q at h2 ⊢
        exact wrI (by omega) (by omega)
       have hR : ratioR (Ls a) (Ls b) = (⟨4, 0, ⟨#[]⟩, ((v / d : Nat) : Int), ((denR b.size / d : Nat) : Int)⟩, decide (((v / d : Nat) : Int) ≤ 1000000000) && decide (((denR b.size / d : Nat) : Int) ≤ 1000000000)) := by
        unfold ratioR
        rw [if_neg (fun h => by rcases h with h | h; (rw [Ls_len] at h; exact H6.out h); (rw [HX.out] at h; exact H48.out (HC.out.symm.trans (by cases h; rfl)))), if_neg (by rw [HRR.out]; simp), HV.out, Ls_len, HGD.out]
       generalize hx1 : ((v / d : Nat) : Int) = x1 at hq1 hR
       generalize hx2 : ((denR b.size / d : Nat) : Int) = x2 at hq2 hR
       have HRS := Aside0.mk hR
       clear hx1 hx2 hR
       clear hlt hki hib
       have HR2 := Aside0.mk (iter_blk (s := b) (i := b.size) HR1.out)
       have HB2 := Aside0.mk (show Below w.heap.size w (w1.iter b b.size) from HB1.out.trans ((Below.refl w.heap.size w1).alloc HB1.out.size (.stringIter b b.size)))
       by_cases c1 : x1 ≤ 1000000000
       ·have k1_ : decide (x1 ≤ 1000000000) = true := decide_eq_true c1
        have C1 := Aside0.mk c1
        clear c1
        go_wp2_with (first | (go_at_call 79; refine (words_common.calls Kc (v : Int) (denR b.size : Int) (d : Int) _ HCM.out).mono ?_; rintro e w2 ⟨rfl, hb2⟩; have HR3 := Aside0.mk (blk_below HR2.out hb2); have HB3 := Aside0.mk (HB2.out.trans (hb2.mono HB2.out.size)); clear hb2; have q3_0 := blk_cell HR3.out 0; have z3_0 := blk_frozen HR3.out 0; have q3_1 := blk_cell HR3.out 1; have z3_1 := blk_frozen HR3.out 1; have q3_2 := blk_cell HR3.out 2; have z3_2 := blk_frozen HR3.out 2; have q3_3 := blk_cell HR3.out 3; have z3_3 := blk_frozen HR3.out 3; have q3_4 := blk_cell HR3.out 4; have z3_4 := blk_frozen HR3.out 4))
        go_quiet (fail)
        go_wp2
        obtain ⟨a1, a2⟩ := putB (HB3.out.trans (pw_below_drewN (Below.refl w.heap.size _) nq)) rfl (blk_drewN HR3.out nq) (Nat.le_refl _) (.int .i64 4) (.int .i64 0) (.string ⟨#[]⟩) (.int .i64 x1) (.int .i64 x2)
        refine bodyPost_ret (results_ct rfl _ _ w.heap.size 57 #[.int .i64 4, .int .i64 0, .string ⟨#[]⟩, .int .i64 x1, .int .i64 x2] (0, 0) _ rfl a2 Tryz.underlying57 rfl (by kernel_rfl)) rfl ?_
        rw [HRS.out]
        exact ⟨by simp [k1_], a1⟩
       ·have k1_ : decide (x1 ≤ 1000000000) = false := decide_eq_false c1
        have C1 := Aside0.mk c1
        clear c1
        go_wp2_with (first | (go_at_call 79; refine (words_common.calls Kc (v : Int) (denR b.size : Int) (d : Int) _ HCM.out).mono ?_; rintro e w2 ⟨rfl, hb2⟩; have HR3 := Aside0.mk (blk_below HR2.out hb2); have HB3 := Aside0.mk (HB2.out.trans (hb2.mono HB2.out.size)); clear hb2; have q3_0 := blk_cell HR3.out 0; have z3_0 := blk_frozen HR3.out 0; have q3_1 := blk_cell HR3.out 1; have z3_1 := blk_frozen HR3.out 1; have q3_2 := blk_cell HR3.out 2; have z3_2 := blk_frozen HR3.out 2; have q3_3 := blk_cell HR3.out 3; have z3_3 := blk_frozen HR3.out 3; have q3_4 := blk_cell HR3.out 4; have z3_4 := blk_frozen HR3.out 4))
        go_quiet (fail)
        go_wp2
        obtain ⟨a1, a2⟩ := putB (HB3.out.trans (pw_below_drewN (Below.refl w.heap.size _) nq)) rfl (blk_drewN HR3.out nq) (Nat.le_refl _) (.int .i64 4) (.int .i64 0) (.string ⟨#[]⟩) (.int .i64 x1) (.int .i64 x2)
        refine bodyPost_ret (results_ct rfl _ _ w.heap.size 57 #[.int .i64 4, .int .i64 0, .string ⟨#[]⟩, .int .i64 x1, .int .i64 x2] (0, 0) _ rfl a2 Tryz.underlying57 rfl (by kernel_rfl)) rfl ?_
        rw [HRS.out]
        exact ⟨by simp [k1_], a1⟩
end Go.Proofs.YtjlclkenfmbahaaGreatDoor.PA
