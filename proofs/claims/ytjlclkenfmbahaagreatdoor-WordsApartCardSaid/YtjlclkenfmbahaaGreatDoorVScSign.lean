/- The scanner's sign, walked by hand: two bytes for the signs !=, <=, >=, one byte for the others; a lone ! is a fault. Conditions: the place lies in the text, the text is of at most 8000 bytes. -/
import Derived.Test.YtjlclkenfmbahaaGreatDoorVScName
import Derived.Deep.QuietTactic
import Derived.BigQuiet
import Derived.Test.YtjlclkenfmbahaaGreatDoorVPAx0
import Derived.Test.YtjlclkenfmbahaaGreatDoorVL
namespace Go.Proofs.YtjlclkenfmbahaaGreatDoor.PA
open Go.RowKit Go.Proofs.YtjlclkenfmbahaaGreatDoorW.PrintWords Go.Proofs.YtjlclkenfmbahaaGreatDoorW.PrintLast Go.Proofs.YtjlclkenfmbahaaGreatDoorW.PrintMore
set_option linter.unusedVariables false
set_option linter.unusedSimpArgs false
def signR (s : ByteArray) (p : Nat) (e3 e4 : Int) : S57 × Bool × Nat × Int × Int :=
 if (bt s p = 33 ∨ bt s p = 60 ∨ bt s p = 62) ∧ p + 1 < s.size ∧ bt s ((p + 1 : Nat) : Int) = 61 then (⟨7, p, s.extract p (p + 2), 0, 0⟩, true, p + 2, e3, e4)
 else if bt s p = 33 then (⟨0, 0, ⟨#[]⟩, 0, 0⟩, false, p + 1, 41, p)
 else (⟨7, p, s.extract p (p + 1), 0, 0⟩, true, p + 1, e3, e4)
set_option maxRecDepth 100000 in
set_option maxHeartbeats 4000000 in
theorem sign_calls (g : Nat) (s : ByteArray) (p : Nat) (l : Bool) (e3 e4 : Int) (w0 w : World) (hs : s.size ≤ 8000) (hp : p < s.size) (hI : IsS88 w0 w g s (p : Int) l e3 e4) (hB : Below w0.heap.size w0 w) :
  Calls Tryz.prog 134 #[.pointer (some ⟨g, 0, none⟩)] w (Told w0 w g s l (signR s p e3 e4)) := by
 have HS := Aside0.mk hs
 have HP := Aside0.mk hp
 have HI0 := Aside0.mk hI
 have HB0 := Aside0.mk hB
 have hgl := hI.lt
 have HG := Aside0.mk hgl
 have hi1 : wrap64 ((p : Int) + 1) = (p : Int) + 1 := by unfold wrap64; omega
 have hi2 : wrap64 ((p : Int) + 1 + 1) = (p : Int) + 2 := by unfold wrap64; omega
 have IA := hI.alloc (.cells #[.int .i64 0, .int .i64 0, .string ⟨#[]⟩, .int .i64 0, .int .i64 0] 57)
 have hc1 := cellS88_1 IA.1
 have hc0 := cellS88_0 IA.1
 have hf1 := blk_frozen IA.1 1
 have p6 : (0 : Int) ≤ (p : Int) := by omega
 have q6 : (p : Int) < (s.size : Int) := by omega
 have hx : ∀ h : p < s.size, ((s[p]'h).toNat : Int) = bt s (p : Int) := fun h => bt_at s (p : Int) h
 replace p6 := eq_true p6
 replace q6 := eq_true q6
 clear hs hp hI hB IA hgl
 have IA := Aside0.mk (HI0.out.alloc (.cells #[.int .i64 0, .int .i64 0, .string ⟨#[]⟩, .int .i64 0, .int .i64 0] 57))
 have HGE := Aside0.mk (IsS88.ge HI0.out)
 have HNE0 := Aside0.mk (Nat.ne_of_lt HG.out)
 have HNE1 := Aside0.mk (Nat.ne_of_gt HG.out)
 have HNE : Aside0 (w.heap.size ≠ (⟨g, 1, none⟩ : Addr).block) := ⟨Nat.ne_of_gt HG.out⟩
 generalize hb : bt s (p : Int) = b at hx
 have HBB := Aside0.mk hb
 clear hb
 have hsz : ∀ n : Int, (n == 33) = decide (n = 33) := fun n => rfl
 clear hsz
 by_cases h33 : b = 33
 ·have k33 : (b == 33) = true := beq_iff_eq.mpr h33
  have H33 := Aside0.mk h33
  clear h33
  by_cases h2 : p + 1 < s.size
  ·have HH2 := Aside0.mk h2
   have q7 : ((p : Int) + 1 < (s.size : Int)) = True := eq_true (by omega)
   have p7 : ((0 : Int) ≤ (p : Int) + 1) = True := eq_true (by omega)
   have hx2 : ∀ h : p + 1 < s.size, ((s[p + 1]'h).toNat : Int) = bt s ((p + 1 : Nat) : Int) := fun h => bt_at s ((p + 1 : Nat) : Int) h
   generalize hb2 : bt s ((p + 1 : Nat) : Int) = b2 at hx2
   have HBB2 := Aside0.mk hb2
   clear hb2 h2
   cases h61 : (b2 == 61) with
   | true =>
    go_enter Tryz.func134, Tryz.ntmps134
    go_wp2
    go_quiet (fail)
    go_wp2
    obtain ⟨W, hW⟩ : ∃ W, ((((w.alloc (.cells #[.int .i64 0, .int .i64 0, .string ⟨#[]⟩, .int .i64 0, .int .i64 0] 57)).setCell ⟨g, 1, none⟩ (.int .i64 ((p : Int) + 1))).drewN nq).setCell ⟨g, 1, none⟩ (.int .i64 ((p : Int) + 2))) = W := ⟨_, rfl⟩
    rw [hW]
    have HI1 : Aside0 (IsS88 w0 W g s ((p : Int) + 2) l e3 e4) := ⟨by rw [← hW]; exact ((IA.out.set_1 ((p : Int) + 1)).drewN nq).set_1 ((p : Int) + 2)⟩
    have HB1 : Aside0 (Below w0.heap.size w0 W) := ⟨by rw [← hW]; exact below_set (pw_below_drewN (below_set (below_alloc HB0.out _) HGE.out) nq) HGE.out⟩
    have HK1 : Aside0 (KeepBut w W g none) := ⟨by rw [← hW]; exact (keep_drewN ((keep_alloc (KeepBut.refl w g none) _).set_ _ _) nq).set_ _ _⟩
    have HR : Aside0 (W.heap[w.heap.size]? = some (.cells #[.int .i64 0, .int .i64 0, .string ⟨#[]⟩, .int .i64 0, .int .i64 0] 57 (0, 0))) := ⟨by rw [← hW]; exact blk_far (blk_drewN (blk_far (heap_alloc_new w _) HNE.out _) nq) HNE.out _⟩
    clear hW hc0 hc1 hf1
    have hd0 := cellS88_0 HI1.out.1
    have hd1 := cellS88_1 HI1.out.1
    have q0 := blk_cell HR.out 0
    have q1 := blk_cell HR.out 1
    have q2 := blk_cell HR.out 2
    have q3 := blk_cell HR.out 3
    have q4 := blk_cell HR.out 4
    have z0 := blk_frozen HR.out 0
    have z1 := blk_frozen HR.out 1
    have z2 := blk_frozen HR.out 2
    have z3 := blk_frozen HR.out 3
    have z4 := blk_frozen HR.out 4
    have n1 : (0 : Int) ≤ (p : Int) := by omega
    have n2 : (p : Int) ≤ (p : Int) + 2 := by omega
    have n3 : (p : Int) + 2 ≤ (s.size : Int) := by have := HP.out; have := HH2.out; omega
    go_region
    go_wp2
    obtain ⟨a1, a2, a3, a4⟩ := put5 HI1.out HB1.out HK1.out rfl HR.out (Nat.le_refl _) HB0.out.size HNE0.out (.int .i64 7) (.int .i64 p) (.string (s.extract p (p + 2))) (.int .i64 0) (.int .i64 0)
    refine bodyPost_ret (results_ct rfl _ _ w.heap.size 57 #[.int .i64 7, .int .i64 p, .string (s.extract p (p + 2)), .int .i64 0, .int .i64 0] (0, 0) _ rfl (blk_drew a4) Tryz.underlying57 rfl (by kernel_rfl)) rfl ?_
    unfold signR; rw [if_pos ⟨Or.inl (HBB.out.trans H33.out), HH2.out, HBB2.out.trans (beq_iff_eq.mp h61)⟩]
    exact ⟨rfl, a1.drew, below_drew1 a2, keep_drew a3⟩
   | false =>
    go_enter Tryz.func134, Tryz.ntmps134
    go_wp2
    go_quiet (fail)
    obtain ⟨W, hW⟩ : ∃ W, (((w.alloc (.cells #[.int .i64 0, .int .i64 0, .string ⟨#[]⟩, .int .i64 0, .int .i64 0] 57)).setCell ⟨g, 1, none⟩ (.int .i64 ((p : Int) + 1))).drewN nq) = W := ⟨_, rfl⟩
    rw [hW]
    have HI1 : Aside0 (IsS88 w0 W g s ((p : Int) + 1) l e3 e4) := ⟨by rw [← hW]; exact (IA.out.set_1 ((p : Int) + 1)).drewN nq⟩
    have HB1 : Aside0 (Below w0.heap.size w0 W) := ⟨by rw [← hW]; exact pw_below_drewN (below_set (below_alloc HB0.out _) HGE.out) nq⟩
    have HK1 : Aside0 (KeepBut w W g none) := ⟨by rw [← hW]; exact keep_drewN ((keep_alloc (KeepBut.refl w g none) _).set_ _ _) nq⟩
    have HR : Aside0 (W.heap[w.heap.size]? = some (.cells #[.int .i64 0, .int .i64 0, .string ⟨#[]⟩, .int .i64 0, .int .i64 0] 57 (0, 0))) := ⟨by rw [← hW]; exact blk_drewN (blk_far (heap_alloc_new w _) HNE.out _) nq⟩
    clear hW hc0 hc1 hf1
    go_wp2_with (first | (go_at_call 135; refine (words_scanner_fail.calls g s _ l e3 e4 41 (p : Int) _ _ _ _ _ _ _ _ _ _ _ w0 _ HI1.out HB1.out rfl).mono ?_; rintro e w2 ⟨rfl, hI2, hB2, hK2⟩; have hr2 := (hK2.2 w.heap.size (blk_lt HR.out) HNE1.out (by simp)).trans HR.out; have HI2 := Aside0.mk hI2; have HB2 := Aside0.mk hB2; have HK2 := Aside0.mk hK2; clear HR; have HR := Aside0.mk hr2; clear hI2 hB2 hK2 hr2; have q0 := blk_cell HR.out 0; have q1 := blk_cell HR.out 1; have q2 := blk_cell HR.out 2; have q3 := blk_cell HR.out 3; have q4 := blk_cell HR.out 4; have z0 := blk_frozen HR.out 0; have z1 := blk_frozen HR.out 1; have z2 := blk_frozen HR.out 2; have z3 := blk_frozen HR.out 3; have z4 := blk_frozen HR.out 4))
    obtain ⟨a1, a2, a3, a4⟩ := put5 HI2.out HB2.out (KeepBut.trans HK1.out HK2.out (.inl rfl)) rfl HR.out (Nat.le_refl _) HB0.out.size HNE0.out (.int .i64 0) (.int .i64 0) (.string ⟨#[]⟩) (.int .i64 0) (.int .i64 0)
    refine bodyPost_ret (results_ct rfl _ _ w.heap.size 57 #[.int .i64 0, .int .i64 0, .string ⟨#[]⟩, .int .i64 0, .int .i64 0] (0, 0) _ rfl a4 Tryz.underlying57 rfl (by kernel_rfl)) rfl ?_
    unfold signR; rw [if_neg (fun h => by have h5 := HBB2.out.symm.trans h.2.2; rw [h5] at h61; exact absurd h61 (by decide)), if_pos (HBB.out.trans H33.out)]
    exact ⟨rfl, a1, a2, a3⟩
  ·have HH2 := Aside0.mk h2
   have q7 : ((p : Int) + 1 < (s.size : Int)) = False := eq_false (by omega)
   have q8 : (p + 1 < s.size) = False := eq_false h2
   clear h2
   go_enter Tryz.func134, Tryz.ntmps134
   go_wp2
   go_quiet (fail)
   obtain ⟨W, hW⟩ : ∃ W, (((w.alloc (.cells #[.int .i64 0, .int .i64 0, .string ⟨#[]⟩, .int .i64 0, .int .i64 0] 57)).setCell ⟨g, 1, none⟩ (.int .i64 ((p : Int) + 1))).drewN nq) = W := ⟨_, rfl⟩
   rw [hW]
   have HI1 : Aside0 (IsS88 w0 W g s ((p : Int) + 1) l e3 e4) := ⟨by rw [← hW]; exact (IA.out.set_1 ((p : Int) + 1)).drewN nq⟩
   have HB1 : Aside0 (Below w0.heap.size w0 W) := ⟨by rw [← hW]; exact pw_below_drewN (below_set (below_alloc HB0.out _) HGE.out) nq⟩
   have HK1 : Aside0 (KeepBut w W g none) := ⟨by rw [← hW]; exact keep_drewN ((keep_alloc (KeepBut.refl w g none) _).set_ _ _) nq⟩
   have HR : Aside0 (W.heap[w.heap.size]? = some (.cells #[.int .i64 0, .int .i64 0, .string ⟨#[]⟩, .int .i64 0, .int .i64 0] 57 (0, 0))) := ⟨by rw [← hW]; exact blk_drewN (blk_far (heap_alloc_new w _) HNE.out _) nq⟩
   clear hW hc0 hc1 hf1
   go_wp2_with (first | (go_at_call 135; refine (words_scanner_fail.calls g s _ l e3 e4 41 (p : Int) _ _ _ _ _ _ _ _ _ _ _ w0 _ HI1.out HB1.out rfl).mono ?_; rintro e w2 ⟨rfl, hI2, hB2, hK2⟩; have hr2 := (hK2.2 w.heap.size (blk_lt HR.out) HNE1.out (by simp)).trans HR.out; have HI2 := Aside0.mk hI2; have HB2 := Aside0.mk hB2; have HK2 := Aside0.mk hK2; clear HR; have HR := Aside0.mk hr2; clear hI2 hB2 hK2 hr2; have q0 := blk_cell HR.out 0; have q1 := blk_cell HR.out 1; have q2 := blk_cell HR.out 2; have q3 := blk_cell HR.out 3; have q4 := blk_cell HR.out 4; have z0 := blk_frozen HR.out 0; have z1 := blk_frozen HR.out 1; have z2 := blk_frozen HR.out 2; have z3 := blk_frozen HR.out 3; have z4 := blk_frozen HR.out 4))
   obtain ⟨a1, a2, a3, a4⟩ := put5 HI2.out HB2.out (KeepBut.trans HK1.out HK2.out (.inl rfl)) rfl HR.out (Nat.le_refl _) HB0.out.size HNE0.out (.int .i64 0) (.int .i64 0) (.string ⟨#[]⟩) (.int .i64 0) (.int .i64 0)
   refine bodyPost_ret (results_ct rfl _ _ w.heap.size 57 #[.int .i64 0, .int .i64 0, .string ⟨#[]⟩, .int .i64 0, .int .i64 0] (0, 0) _ rfl a4 Tryz.underlying57 rfl (by kernel_rfl)) rfl ?_
   unfold signR; rw [if_neg (fun h => HH2.out h.2.1), if_pos (HBB.out.trans H33.out)]
   exact ⟨rfl, a1, a2, a3⟩
 ·have k33 : (b == 33) = false := beq_eq_false_iff_ne.mpr h33
  have H33 := Aside0.mk h33
  clear h33
  by_cases h60 : b = 60
  ·have k60 : (b == 60) = true := beq_iff_eq.mpr h60
   have H60 := Aside0.mk h60
   clear h60
   by_cases h2 : p + 1 < s.size
   ·have HH2 := Aside0.mk h2
    have q7 : ((p : Int) + 1 < (s.size : Int)) = True := eq_true (by omega)
    have p7 : ((0 : Int) ≤ (p : Int) + 1) = True := eq_true (by omega)
    have hx2 : ∀ h : p + 1 < s.size, ((s[p + 1]'h).toNat : Int) = bt s ((p + 1 : Nat) : Int) := fun h => bt_at s ((p + 1 : Nat) : Int) h
    generalize hb2 : bt s ((p + 1 : Nat) : Int) = b2 at hx2
    have HBB2 := Aside0.mk hb2
    clear hb2 h2
    cases h61 : (b2 == 61) with
    | true =>
     go_enter Tryz.func134, Tryz.ntmps134
     go_wp2
     go_quiet (fail)
     go_wp2
     obtain ⟨W, hW⟩ : ∃ W, ((((w.alloc (.cells #[.int .i64 0, .int .i64 0, .string ⟨#[]⟩, .int .i64 0, .int .i64 0] 57)).setCell ⟨g, 1, none⟩ (.int .i64 ((p : Int) + 1))).drewN nq).setCell ⟨g, 1, none⟩ (.int .i64 ((p : Int) + 2))) = W := ⟨_, rfl⟩
     rw [hW]
     have HI1 : Aside0 (IsS88 w0 W g s ((p : Int) + 2) l e3 e4) := ⟨by rw [← hW]; exact ((IA.out.set_1 ((p : Int) + 1)).drewN nq).set_1 ((p : Int) + 2)⟩
     have HB1 : Aside0 (Below w0.heap.size w0 W) := ⟨by rw [← hW]; exact below_set (pw_below_drewN (below_set (below_alloc HB0.out _) HGE.out) nq) HGE.out⟩
     have HK1 : Aside0 (KeepBut w W g none) := ⟨by rw [← hW]; exact (keep_drewN ((keep_alloc (KeepBut.refl w g none) _).set_ _ _) nq).set_ _ _⟩
     have HR : Aside0 (W.heap[w.heap.size]? = some (.cells #[.int .i64 0, .int .i64 0, .string ⟨#[]⟩, .int .i64 0, .int .i64 0] 57 (0, 0))) := ⟨by rw [← hW]; exact blk_far (blk_drewN (blk_far (heap_alloc_new w _) HNE.out _) nq) HNE.out _⟩
     clear hW hc0 hc1 hf1
     have hd0 := cellS88_0 HI1.out.1
     have hd1 := cellS88_1 HI1.out.1
     have q0 := blk_cell HR.out 0
     have q1 := blk_cell HR.out 1
     have q2 := blk_cell HR.out 2
     have q3 := blk_cell HR.out 3
     have q4 := blk_cell HR.out 4
     have z0 := blk_frozen HR.out 0
     have z1 := blk_frozen HR.out 1
     have z2 := blk_frozen HR.out 2
     have z3 := blk_frozen HR.out 3
     have z4 := blk_frozen HR.out 4
     have n1 : (0 : Int) ≤ (p : Int) := by omega
     have n2 : (p : Int) ≤ (p : Int) + 2 := by omega
     have n3 : (p : Int) + 2 ≤ (s.size : Int) := by have := HP.out; have := HH2.out; omega
     go_region
     go_wp2
     obtain ⟨a1, a2, a3, a4⟩ := put5 HI1.out HB1.out HK1.out rfl HR.out (Nat.le_refl _) HB0.out.size HNE0.out (.int .i64 7) (.int .i64 p) (.string (s.extract p (p + 2))) (.int .i64 0) (.int .i64 0)
     refine bodyPost_ret (results_ct rfl _ _ w.heap.size 57 #[.int .i64 7, .int .i64 p, .string (s.extract p (p + 2)), .int .i64 0, .int .i64 0] (0, 0) _ rfl (blk_drew a4) Tryz.underlying57 rfl (by kernel_rfl)) rfl ?_
     unfold signR; rw [if_pos ⟨Or.inr (Or.inl (HBB.out.trans H60.out)), HH2.out, HBB2.out.trans (beq_iff_eq.mp h61)⟩]
     exact ⟨rfl, a1.drew, below_drew1 a2, keep_drew a3⟩
    | false =>
     go_enter Tryz.func134, Tryz.ntmps134
     go_wp2
     go_quiet (fail)
     obtain ⟨W, hW⟩ : ∃ W, (((w.alloc (.cells #[.int .i64 0, .int .i64 0, .string ⟨#[]⟩, .int .i64 0, .int .i64 0] 57)).setCell ⟨g, 1, none⟩ (.int .i64 ((p : Int) + 1))).drewN nq) = W := ⟨_, rfl⟩
     rw [hW]
     have HI1 : Aside0 (IsS88 w0 W g s ((p : Int) + 1) l e3 e4) := ⟨by rw [← hW]; exact (IA.out.set_1 ((p : Int) + 1)).drewN nq⟩
     have HB1 : Aside0 (Below w0.heap.size w0 W) := ⟨by rw [← hW]; exact pw_below_drewN (below_set (below_alloc HB0.out _) HGE.out) nq⟩
     have HK1 : Aside0 (KeepBut w W g none) := ⟨by rw [← hW]; exact keep_drewN ((keep_alloc (KeepBut.refl w g none) _).set_ _ _) nq⟩
     have HR : Aside0 (W.heap[w.heap.size]? = some (.cells #[.int .i64 0, .int .i64 0, .string ⟨#[]⟩, .int .i64 0, .int .i64 0] 57 (0, 0))) := ⟨by rw [← hW]; exact blk_drewN (blk_far (heap_alloc_new w _) HNE.out _) nq⟩
     clear hW hc0 hc1 hf1
     go_wp2
     have hd0 := cellS88_0 HI1.out.1
     have hd1 := cellS88_1 HI1.out.1
     have q0 := blk_cell HR.out 0
     have q1 := blk_cell HR.out 1
     have q2 := blk_cell HR.out 2
     have q3 := blk_cell HR.out 3
     have q4 := blk_cell HR.out 4
     have z0 := blk_frozen HR.out 0
     have z1 := blk_frozen HR.out 1
     have z2 := blk_frozen HR.out 2
     have z3 := blk_frozen HR.out 3
     have z4 := blk_frozen HR.out 4
     have n1 : (0 : Int) ≤ (p : Int) := by omega
     have n2 : (p : Int) ≤ (p : Int) + 1 := by omega
     have n3 : (p : Int) + 1 ≤ (s.size : Int) := by have := HP.out; omega
     go_region
     go_wp2
     obtain ⟨a1, a2, a3, a4⟩ := put5 HI1.out HB1.out HK1.out rfl HR.out (Nat.le_refl _) HB0.out.size HNE0.out (.int .i64 7) (.int .i64 p) (.string (s.extract p (p + 1))) (.int .i64 0) (.int .i64 0)
     refine bodyPost_ret (results_ct rfl _ _ w.heap.size 57 #[.int .i64 7, .int .i64 p, .string (s.extract p (p + 1)), .int .i64 0, .int .i64 0] (0, 0) _ rfl (blk_drew a4) Tryz.underlying57 rfl (by kernel_rfl)) rfl ?_
     unfold signR; rw [if_neg (fun h => by have h5 := HBB2.out.symm.trans h.2.2; rw [h5] at h61; exact absurd h61 (by decide)), if_neg (fun h => absurd (HBB.out.symm.trans h) (by rw [H60.out]; decide))]
     exact ⟨rfl, a1.drew, below_drew1 a2, keep_drew a3⟩
   ·have HH2 := Aside0.mk h2
    have q7 : ((p : Int) + 1 < (s.size : Int)) = False := eq_false (by omega)
    have q8 : (p + 1 < s.size) = False := eq_false h2
    clear h2
    go_enter Tryz.func134, Tryz.ntmps134
    go_wp2
    go_quiet (fail)
    obtain ⟨W, hW⟩ : ∃ W, (((w.alloc (.cells #[.int .i64 0, .int .i64 0, .string ⟨#[]⟩, .int .i64 0, .int .i64 0] 57)).setCell ⟨g, 1, none⟩ (.int .i64 ((p : Int) + 1))).drewN nq) = W := ⟨_, rfl⟩
    rw [hW]
    have HI1 : Aside0 (IsS88 w0 W g s ((p : Int) + 1) l e3 e4) := ⟨by rw [← hW]; exact (IA.out.set_1 ((p : Int) + 1)).drewN nq⟩
    have HB1 : Aside0 (Below w0.heap.size w0 W) := ⟨by rw [← hW]; exact pw_below_drewN (below_set (below_alloc HB0.out _) HGE.out) nq⟩
    have HK1 : Aside0 (KeepBut w W g none) := ⟨by rw [← hW]; exact keep_drewN ((keep_alloc (KeepBut.refl w g none) _).set_ _ _) nq⟩
    have HR : Aside0 (W.heap[w.heap.size]? = some (.cells #[.int .i64 0, .int .i64 0, .string ⟨#[]⟩, .int .i64 0, .int .i64 0] 57 (0, 0))) := ⟨by rw [← hW]; exact blk_drewN (blk_far (heap_alloc_new w _) HNE.out _) nq⟩
    clear hW hc0 hc1 hf1
    go_wp2
    have hd0 := cellS88_0 HI1.out.1
    have hd1 := cellS88_1 HI1.out.1
    have q0 := blk_cell HR.out 0
    have q1 := blk_cell HR.out 1
    have q2 := blk_cell HR.out 2
    have q3 := blk_cell HR.out 3
    have q4 := blk_cell HR.out 4
    have z0 := blk_frozen HR.out 0
    have z1 := blk_frozen HR.out 1
    have z2 := blk_frozen HR.out 2
    have z3 := blk_frozen HR.out 3
    have z4 := blk_frozen HR.out 4
    have n1 : (0 : Int) ≤ (p : Int) := by omega
    have n2 : (p : Int) ≤ (p : Int) + 1 := by omega
    have n3 : (p : Int) + 1 ≤ (s.size : Int) := by have := HP.out; omega
    go_region
    go_wp2
    obtain ⟨a1, a2, a3, a4⟩ := put5 HI1.out HB1.out HK1.out rfl HR.out (Nat.le_refl _) HB0.out.size HNE0.out (.int .i64 7) (.int .i64 p) (.string (s.extract p (p + 1))) (.int .i64 0) (.int .i64 0)
    refine bodyPost_ret (results_ct rfl _ _ w.heap.size 57 #[.int .i64 7, .int .i64 p, .string (s.extract p (p + 1)), .int .i64 0, .int .i64 0] (0, 0) _ rfl (blk_drew a4) Tryz.underlying57 rfl (by kernel_rfl)) rfl ?_
    unfold signR; rw [if_neg (fun h => HH2.out h.2.1), if_neg (fun h => absurd (HBB.out.symm.trans h) (by rw [H60.out]; decide))]
    exact ⟨rfl, a1.drew, below_drew1 a2, keep_drew a3⟩
  ·have k60 : (b == 60) = false := beq_eq_false_iff_ne.mpr h60
   have H60 := Aside0.mk h60
   clear h60
   by_cases h62 : b = 62
   ·have k62 : (b == 62) = true := beq_iff_eq.mpr h62
    have H62 := Aside0.mk h62
    clear h62
    by_cases h2 : p + 1 < s.size
    ·have HH2 := Aside0.mk h2
     have q7 : ((p : Int) + 1 < (s.size : Int)) = True := eq_true (by omega)
     have p7 : ((0 : Int) ≤ (p : Int) + 1) = True := eq_true (by omega)
     have hx2 : ∀ h : p + 1 < s.size, ((s[p + 1]'h).toNat : Int) = bt s ((p + 1 : Nat) : Int) := fun h => bt_at s ((p + 1 : Nat) : Int) h
     generalize hb2 : bt s ((p + 1 : Nat) : Int) = b2 at hx2
     have HBB2 := Aside0.mk hb2
     clear hb2 h2
     cases h61 : (b2 == 61) with
     | true =>
      go_enter Tryz.func134, Tryz.ntmps134
      go_wp2
      go_quiet (fail)
      go_wp2
      obtain ⟨W, hW⟩ : ∃ W, ((((w.alloc (.cells #[.int .i64 0, .int .i64 0, .string ⟨#[]⟩, .int .i64 0, .int .i64 0] 57)).setCell ⟨g, 1, none⟩ (.int .i64 ((p : Int) + 1))).drewN nq).setCell ⟨g, 1, none⟩ (.int .i64 ((p : Int) + 2))) = W := ⟨_, rfl⟩
      rw [hW]
      have HI1 : Aside0 (IsS88 w0 W g s ((p : Int) + 2) l e3 e4) := ⟨by rw [← hW]; exact ((IA.out.set_1 ((p : Int) + 1)).drewN nq).set_1 ((p : Int) + 2)⟩
      have HB1 : Aside0 (Below w0.heap.size w0 W) := ⟨by rw [← hW]; exact below_set (pw_below_drewN (below_set (below_alloc HB0.out _) HGE.out) nq) HGE.out⟩
      have HK1 : Aside0 (KeepBut w W g none) := ⟨by rw [← hW]; exact (keep_drewN ((keep_alloc (KeepBut.refl w g none) _).set_ _ _) nq).set_ _ _⟩
      have HR : Aside0 (W.heap[w.heap.size]? = some (.cells #[.int .i64 0, .int .i64 0, .string ⟨#[]⟩, .int .i64 0, .int .i64 0] 57 (0, 0))) := ⟨by rw [← hW]; exact blk_far (blk_drewN (blk_far (heap_alloc_new w _) HNE.out _) nq) HNE.out _⟩
      clear hW hc0 hc1 hf1
      have hd0 := cellS88_0 HI1.out.1
      have hd1 := cellS88_1 HI1.out.1
      have q0 := blk_cell HR.out 0
      have q1 := blk_cell HR.out 1
      have q2 := blk_cell HR.out 2
      have q3 := blk_cell HR.out 3
      have q4 := blk_cell HR.out 4
      have z0 := blk_frozen HR.out 0
      have z1 := blk_frozen HR.out 1
      have z2 := blk_frozen HR.out 2
      have z3 := blk_frozen HR.out 3
      have z4 := blk_frozen HR.out 4
      have n1 : (0 : Int) ≤ (p : Int) := by omega
      have n2 : (p : Int) ≤ (p : Int) + 2 := by omega
      have n3 : (p : Int) + 2 ≤ (s.size : Int) := by have := HP.out; have := HH2.out; omega
      go_region
      go_wp2
      obtain ⟨a1, a2, a3, a4⟩ := put5 HI1.out HB1.out HK1.out rfl HR.out (Nat.le_refl _) HB0.out.size HNE0.out (.int .i64 7) (.int .i64 p) (.string (s.extract p (p + 2))) (.int .i64 0) (.int .i64 0)
      refine bodyPost_ret (results_ct rfl _ _ w.heap.size 57 #[.int .i64 7, .int .i64 p, .string (s.extract p (p + 2)), .int .i64 0, .int .i64 0] (0, 0) _ rfl (blk_drew a4) Tryz.underlying57 rfl (by kernel_rfl)) rfl ?_
      unfold signR; rw [if_pos ⟨Or.inr (Or.inr (HBB.out.trans H62.out)), HH2.out, HBB2.out.trans (beq_iff_eq.mp h61)⟩]
      exact ⟨rfl, a1.drew, below_drew1 a2, keep_drew a3⟩
     | false =>
      go_enter Tryz.func134, Tryz.ntmps134
      go_wp2
      go_quiet (fail)
      obtain ⟨W, hW⟩ : ∃ W, (((w.alloc (.cells #[.int .i64 0, .int .i64 0, .string ⟨#[]⟩, .int .i64 0, .int .i64 0] 57)).setCell ⟨g, 1, none⟩ (.int .i64 ((p : Int) + 1))).drewN nq) = W := ⟨_, rfl⟩
      rw [hW]
      have HI1 : Aside0 (IsS88 w0 W g s ((p : Int) + 1) l e3 e4) := ⟨by rw [← hW]; exact (IA.out.set_1 ((p : Int) + 1)).drewN nq⟩
      have HB1 : Aside0 (Below w0.heap.size w0 W) := ⟨by rw [← hW]; exact pw_below_drewN (below_set (below_alloc HB0.out _) HGE.out) nq⟩
      have HK1 : Aside0 (KeepBut w W g none) := ⟨by rw [← hW]; exact keep_drewN ((keep_alloc (KeepBut.refl w g none) _).set_ _ _) nq⟩
      have HR : Aside0 (W.heap[w.heap.size]? = some (.cells #[.int .i64 0, .int .i64 0, .string ⟨#[]⟩, .int .i64 0, .int .i64 0] 57 (0, 0))) := ⟨by rw [← hW]; exact blk_drewN (blk_far (heap_alloc_new w _) HNE.out _) nq⟩
      clear hW hc0 hc1 hf1
      go_wp2
      have hd0 := cellS88_0 HI1.out.1
      have hd1 := cellS88_1 HI1.out.1
      have q0 := blk_cell HR.out 0
      have q1 := blk_cell HR.out 1
      have q2 := blk_cell HR.out 2
      have q3 := blk_cell HR.out 3
      have q4 := blk_cell HR.out 4
      have z0 := blk_frozen HR.out 0
      have z1 := blk_frozen HR.out 1
      have z2 := blk_frozen HR.out 2
      have z3 := blk_frozen HR.out 3
      have z4 := blk_frozen HR.out 4
      have n1 : (0 : Int) ≤ (p : Int) := by omega
      have n2 : (p : Int) ≤ (p : Int) + 1 := by omega
      have n3 : (p : Int) + 1 ≤ (s.size : Int) := by have := HP.out; omega
      go_region
      go_wp2
      obtain ⟨a1, a2, a3, a4⟩ := put5 HI1.out HB1.out HK1.out rfl HR.out (Nat.le_refl _) HB0.out.size HNE0.out (.int .i64 7) (.int .i64 p) (.string (s.extract p (p + 1))) (.int .i64 0) (.int .i64 0)
      refine bodyPost_ret (results_ct rfl _ _ w.heap.size 57 #[.int .i64 7, .int .i64 p, .string (s.extract p (p + 1)), .int .i64 0, .int .i64 0] (0, 0) _ rfl (blk_drew a4) Tryz.underlying57 rfl (by kernel_rfl)) rfl ?_
      unfold signR; rw [if_neg (fun h => by have h5 := HBB2.out.symm.trans h.2.2; rw [h5] at h61; exact absurd h61 (by decide)), if_neg (fun h => absurd (HBB.out.symm.trans h) (by rw [H62.out]; decide))]
      exact ⟨rfl, a1.drew, below_drew1 a2, keep_drew a3⟩
    ·have HH2 := Aside0.mk h2
     have q7 : ((p : Int) + 1 < (s.size : Int)) = False := eq_false (by omega)
     have q8 : (p + 1 < s.size) = False := eq_false h2
     clear h2
     go_enter Tryz.func134, Tryz.ntmps134
     go_wp2
     go_quiet (fail)
     obtain ⟨W, hW⟩ : ∃ W, (((w.alloc (.cells #[.int .i64 0, .int .i64 0, .string ⟨#[]⟩, .int .i64 0, .int .i64 0] 57)).setCell ⟨g, 1, none⟩ (.int .i64 ((p : Int) + 1))).drewN nq) = W := ⟨_, rfl⟩
     rw [hW]
     have HI1 : Aside0 (IsS88 w0 W g s ((p : Int) + 1) l e3 e4) := ⟨by rw [← hW]; exact (IA.out.set_1 ((p : Int) + 1)).drewN nq⟩
     have HB1 : Aside0 (Below w0.heap.size w0 W) := ⟨by rw [← hW]; exact pw_below_drewN (below_set (below_alloc HB0.out _) HGE.out) nq⟩
     have HK1 : Aside0 (KeepBut w W g none) := ⟨by rw [← hW]; exact keep_drewN ((keep_alloc (KeepBut.refl w g none) _).set_ _ _) nq⟩
     have HR : Aside0 (W.heap[w.heap.size]? = some (.cells #[.int .i64 0, .int .i64 0, .string ⟨#[]⟩, .int .i64 0, .int .i64 0] 57 (0, 0))) := ⟨by rw [← hW]; exact blk_drewN (blk_far (heap_alloc_new w _) HNE.out _) nq⟩
     clear hW hc0 hc1 hf1
     go_wp2
     have hd0 := cellS88_0 HI1.out.1
     have hd1 := cellS88_1 HI1.out.1
     have q0 := blk_cell HR.out 0
     have q1 := blk_cell HR.out 1
     have q2 := blk_cell HR.out 2
     have q3 := blk_cell HR.out 3
     have q4 := blk_cell HR.out 4
     have z0 := blk_frozen HR.out 0
     have z1 := blk_frozen HR.out 1
     have z2 := blk_frozen HR.out 2
     have z3 := blk_frozen HR.out 3
     have z4 := blk_frozen HR.out 4
     have n1 : (0 : Int) ≤ (p : Int) := by omega
     have n2 : (p : Int) ≤ (p : Int) + 1 := by omega
     have n3 : (p : Int) + 1 ≤ (s.size : Int) := by have := HP.out; omega
     go_region
     go_wp2
     obtain ⟨a1, a2, a3, a4⟩ := put5 HI1.out HB1.out HK1.out rfl HR.out (Nat.le_refl _) HB0.out.size HNE0.out (.int .i64 7) (.int .i64 p) (.string (s.extract p (p + 1))) (.int .i64 0) (.int .i64 0)
     refine bodyPost_ret (results_ct rfl _ _ w.heap.size 57 #[.int .i64 7, .int .i64 p, .string (s.extract p (p + 1)), .int .i64 0, .int .i64 0] (0, 0) _ rfl (blk_drew a4) Tryz.underlying57 rfl (by kernel_rfl)) rfl ?_
     unfold signR; rw [if_neg (fun h => HH2.out h.2.1), if_neg (fun h => absurd (HBB.out.symm.trans h) (by rw [H62.out]; decide))]
     exact ⟨rfl, a1.drew, below_drew1 a2, keep_drew a3⟩
   ·have k62 : (b == 62) = false := beq_eq_false_iff_ne.mpr h62
    have H62 := Aside0.mk h62
    clear h62
    go_enter Tryz.func134, Tryz.ntmps134
    go_wp2
    go_quiet (fail)
    obtain ⟨W, hW⟩ : ∃ W, (((w.alloc (.cells #[.int .i64 0, .int .i64 0, .string ⟨#[]⟩, .int .i64 0, .int .i64 0] 57)).setCell ⟨g, 1, none⟩ (.int .i64 ((p : Int) + 1))).drewN nq) = W := ⟨_, rfl⟩
    rw [hW]
    have HI1 : Aside0 (IsS88 w0 W g s ((p : Int) + 1) l e3 e4) := ⟨by rw [← hW]; exact (IA.out.set_1 ((p : Int) + 1)).drewN nq⟩
    have HB1 : Aside0 (Below w0.heap.size w0 W) := ⟨by rw [← hW]; exact pw_below_drewN (below_set (below_alloc HB0.out _) HGE.out) nq⟩
    have HK1 : Aside0 (KeepBut w W g none) := ⟨by rw [← hW]; exact keep_drewN ((keep_alloc (KeepBut.refl w g none) _).set_ _ _) nq⟩
    have HR : Aside0 (W.heap[w.heap.size]? = some (.cells #[.int .i64 0, .int .i64 0, .string ⟨#[]⟩, .int .i64 0, .int .i64 0] 57 (0, 0))) := ⟨by rw [← hW]; exact blk_drewN (blk_far (heap_alloc_new w _) HNE.out _) nq⟩
    clear hW hc0 hc1 hf1
    go_wp2
    have hd0 := cellS88_0 HI1.out.1
    have hd1 := cellS88_1 HI1.out.1
    have q0 := blk_cell HR.out 0
    have q1 := blk_cell HR.out 1
    have q2 := blk_cell HR.out 2
    have q3 := blk_cell HR.out 3
    have q4 := blk_cell HR.out 4
    have z0 := blk_frozen HR.out 0
    have z1 := blk_frozen HR.out 1
    have z2 := blk_frozen HR.out 2
    have z3 := blk_frozen HR.out 3
    have z4 := blk_frozen HR.out 4
    have n1 : (0 : Int) ≤ (p : Int) := by omega
    have n2 : (p : Int) ≤ (p : Int) + 1 := by omega
    have n3 : (p : Int) + 1 ≤ (s.size : Int) := by have := HP.out; omega
    go_region
    go_wp2
    obtain ⟨a1, a2, a3, a4⟩ := put5 HI1.out HB1.out HK1.out rfl HR.out (Nat.le_refl _) HB0.out.size HNE0.out (.int .i64 7) (.int .i64 p) (.string (s.extract p (p + 1))) (.int .i64 0) (.int .i64 0)
    refine bodyPost_ret (results_ct rfl _ _ w.heap.size 57 #[.int .i64 7, .int .i64 p, .string (s.extract p (p + 1)), .int .i64 0, .int .i64 0] (0, 0) _ rfl (blk_drew a4) Tryz.underlying57 rfl (by kernel_rfl)) rfl ?_
    unfold signR; rw [if_neg (fun h => by rcases h.1 with h | h | h; exact H33.out (HBB.out.symm.trans h); exact H60.out (HBB.out.symm.trans h); exact H62.out (HBB.out.symm.trans h)), if_neg (fun h => H33.out (HBB.out.symm.trans h))]
    exact ⟨rfl, a1.drew, below_drew1 a2, keep_drew a3⟩
end Go.Proofs.YtjlclkenfmbahaaGreatDoor.PA
