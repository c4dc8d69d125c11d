/- The scanner's name, walked by hand: the longest run of letters, digits and underscores; too long a name is a fault. Conditions: the place lies in the text, the text is of at most 8000 bytes. -/
import Derived.Test.YtjlclkenfmbahaaGreatDoorVScBase
import Derived.BigRegion
import Derived.RegionTactic
import Derived.ChangeAlike
import Derived.Test.YtjlclkenfmbahaaGreatDoorVPAx0
import Derived.Test.YtjlclkenfmbahaaGreatDoorVL
namespace Go.Proofs.YtjlclkenfmbahaaGreatDoor.PA
open Go.RowKit Go.Proofs.YtjlclkenfmbahaaGreatDoorW.PrintWords Go.Proofs.YtjlclkenfmbahaaGreatDoorW.PrintLast Go.Proofs.YtjlclkenfmbahaaGreatDoorW.PrintMore
set_option linter.unusedVariables false
set_option linter.unusedSimpArgs false
def Told (w0 w : World) (g : Nat) (s : ByteArray) (l : Bool) (r : S57 × Bool × Nat × Int × Int) (e : Ending) (w' : World) : Prop :=
 e = .returned (.tuple #[.agg #[.int .i64 r.1.f0, .int .i64 r.1.f1, .string r.1.f2, .int .i64 r.1.f3, .int .i64 r.1.f4], .bool r.2.1]) ∧
 IsS88 w0 w' g s (r.2.2.1 : Int) l r.2.2.2.1 r.2.2.2.2 ∧ Below w0.heap.size w0 w' ∧ KeepBut w w' g none
theorem put5 {w0 w W : World} {g h : Nat} {s : ByteArray} {x : Int} {l : Bool} {e3 e4 : Int} (hI : IsS88 w0 W g s x l e3 e4) (hB : Below w0.heap.size w0 W) (hK : KeepBut w W g none) {cs : Array Value} (hcs : cs.size = 5)
  (hh : W.heap[h]? = some (.cells cs 57 (0, 0))) (hw : w.heap.size ≤ h) (hw0 : w0.heap.size ≤ h) (hg : g ≠ h) (v0 v1 v2 v3 v4 : Value) :
  IsS88 w0 (((((W.setCell ⟨h, 0, none⟩ v0).setCell ⟨h, 1, none⟩ v1).setCell ⟨h, 2, none⟩ v2).setCell ⟨h, 3, none⟩ v3).setCell ⟨h, 4, none⟩ v4) g s x l e3 e4 ∧
  Below w0.heap.size w0 (((((W.setCell ⟨h, 0, none⟩ v0).setCell ⟨h, 1, none⟩ v1).setCell ⟨h, 2, none⟩ v2).setCell ⟨h, 3, none⟩ v3).setCell ⟨h, 4, none⟩ v4) ∧
  KeepBut w (((((W.setCell ⟨h, 0, none⟩ v0).setCell ⟨h, 1, none⟩ v1).setCell ⟨h, 2, none⟩ v2).setCell ⟨h, 3, none⟩ v3).setCell ⟨h, 4, none⟩ v4) g none ∧
  (((((W.setCell ⟨h, 0, none⟩ v0).setCell ⟨h, 1, none⟩ v1).setCell ⟨h, 2, none⟩ v2).setCell ⟨h, 3, none⟩ v3).setCell ⟨h, 4, none⟩ v4).heap[h]? = some (.cells #[v0, v1, v2, v3, v4] 57 (0, 0)) := by
 obtain ⟨l⟩ := cs
 match l, hcs with
 | [c0, c1, c2, c3, c4], _ =>
 exact ⟨((((hI.far hg _).far hg _).far hg _).far hg _).far hg _, below_set (below_set (below_set (below_set (below_set hB hw0) hw0) hw0) hw0) hw0,
  keep_far (keep_far (keep_far (keep_far (keep_far hK hw _) hw _) hw _) hw _) hw _,
  blk_put (cs' := #[v0, v1, v2, v3, v4]) (blk_put (cs' := #[v0, v1, v2, v3, c4]) (blk_put (cs' := #[v0, v1, v2, c3, c4]) (blk_put (cs' := #[v0, v1, c2, c3, c4]) (blk_put (cs' := #[v0, c1, c2, c3, c4]) hh 0 v0 rfl) 1 v1 rfl) 2 v2 rfl) 3 v3 rfl) 4 v4 rfl⟩
def nameR (s : ByteArray) (p : Nat) (e3 e4 : Int) : S57 × Bool × Nat × Int × Int :=
 if runP isWd s p ≤ 12 then (⟨1, p, s.extract p (p + runP isWd s p), 0, 0⟩, true, p + runP isWd s p, e3, e4)
 else (⟨0, 0, ⟨#[]⟩, 0, 0⟩, false, p + runP isWd s p, 40, p)
set_option maxRecDepth 100000 in
set_option maxHeartbeats 4000000 in
theorem name_calls (g : Nat) (s : ByteArray) (p : Nat) (l : Bool) (e3 e4 : Int) (w0 w : World) (hs : s.size ≤ 8000) (hp : p ≤ s.size) (hT : Tabs w0) (hI : IsS88 w0 w g s (p : Int) l e3 e4) (hB : Below w0.heap.size w0 w) :
  Calls Tryz.prog 131 #[.pointer (some ⟨g, 0, none⟩)] w (Told w0 w g s l (nameR s p e3 e4)) := by
 have HS := Aside0.mk hs
 have HP := Aside0.mk hp
 have HT := Aside0.mk hT
 have HI0 := Aside0.mk hI
 have HB0 := Aside0.mk hB
 have hgl := hI.lt
 have hc := cellS88_1 hI.1
 have hf := blk_frozen hI.1 1
 have hca := World.cell?_alloc_lt w (.cells #[.int .i64 0, .int .i64 0, .string ⟨#[]⟩, .int .i64 0, .int .i64 0] 57) ⟨g, 1, none⟩ hgl
 rw [hc] at hca
 clear hs hp hT hI hB hc
 go_enter Tryz.func131, Tryz.ntmps131
 go_wp2
 have hr0 : (w.alloc (.cells #[.int .i64 0, .int .i64 0, .string ⟨#[]⟩, .int .i64 0, .int .i64 0] 57)).heap[w.heap.size]? = some (.cells #[.int .i64 0, .int .i64 0, .string ⟨#[]⟩, .int .i64 0, .int .i64 0] 57 (0, 0)) := heap_alloc_new w _
 go_loopg [] (runP isWd s p + 1) (fun kq w' => ∃ j, Hid (kq = runP isWd s (p + j) + 1 ∧ p + j + runP isWd s (p + j) = p + runP isWd s p ∧ p + j ≤ s.size ∧ IsS88 w0 w' g s ((p + j : Nat) : Int) l e3 e4 ∧ Below w0.heap.size w0 w' ∧ KeepBut w w' g none ∧ w'.heap[w.heap.size]? = some (.cells #[.int .i64 0, .int .i64 0, .string ⟨#[]⟩, .int .i64 0, .int .i64 0] 57 (0, 0))))
 case atStart =>
  have hle := HP.out
  exact ⟨0, rfl, by rw [Nat.add_zero], by omega, HI0.out.alloc _, below_alloc HB0.out _, keep_alloc (KeepBut.refl w g none) _, hr0⟩
 case round =>
  obtain ⟨j, hh⟩ := hrel
  obtain ⟨hk, hsum, hle, hI, hB, hK, hr⟩ := hh.out
  clear hh hca hr0
  have HK := Aside0.mk hk
  have HSUM := Aside0.mk hsum
  have HLE := Aside0.mk hle
  have HI := Aside0.mk hI
  have HB := Aside0.mk hB
  have HKB := Aside0.mk hK
  have HR := Aside0.mk hr
  have hc1 := cellS88_1 hI.1
  have hf1 := blk_frozen hI.1 1
  clear hk hsum hle hI hB hK hr hf
  have hrn : ∀ W, KeepBut wr W g none → W.heap[w.heap.size]? = some (.cells #[.int .i64 0, .int .i64 0, .string ⟨#[]⟩, .int .i64 0, .int .i64 0] 57 (0, 0)) := fun W hk => (hk.2 w.heap.size (blk_lt HR.out) (by omega) (by simp)).trans HR.out
  have HRN := Aside0.mk hrn
  clear hrn
  cases hy : isC 7 s (p + j) with
  | true =>
   obtain ⟨hrun, hlt⟩ := runP_yes (p := isWd) (s := s) (i := p + j) (by rw [← isC_7]; exact hy)
   cases gk with
   | zero => exact absurd HK.out (by omega)
   | succ k1 =>
   go_wp2_with (first | (go_at_call 201; refine (is_at g s _ l e3 e4 (p + j) 7 w0 _ HT.out HI.out HB.out).mono ?_; rintro e w1 ⟨rfl, hI1, hB1, hK1⟩; have hd1 := cellS88_1 hI1.1; have hg1 := blk_frozen hI1.1 1; have HI1 := Aside0.mk hI1; have HB1 := Aside0.mk hB1; have HK1 := Aside0.mk hK1; clear hI1 hB1 hK1))
   go_roundg k1
   case measure => omega
   case rel =>
    have hi1 : ((p + (j + 1) : Nat) : Int) = wrap64 ((p : Int) + (j : Int) + 1) := by have := HS.out; have := HLE.out; unfold wrap64; omega
    refine ⟨j + 1, ?_, ?_, ?_, ?_, ?_, ?_, ?_⟩
    ·have := HK.out; rw [← Nat.add_assoc]; omega
    ·have := HSUM.out; rw [← Nat.add_assoc]; omega
    ·omega
    ·rw [hi1]; exact HI1.out.set_1 _
    ·exact below_set HB1.out (IsS88.ge HI1.out)
    ·exact (KeepBut.trans HKB.out HK1.out (.inl rfl)).set_ _ _
    ·exact blk_far (HRN.out _ HK1.out) (by show w.heap.size ≠ g; omega) _
  | false =>
   have hj : j = runP isWd s p := by
    have h0 := runP_no (p := isWd) (s := s) (i := p + j) (by rw [← isC_7]; exact hy)
    have := HSUM.out
    omega
   have hjs : p + j ≤ s.size := HLE.out
   have hw : wrap64 ((p : Int) + (j : Int) - (p : Int)) = (j : Int) := by have := HS.out; unfold wrap64; omega
   have HJ := Aside0.mk hj
   have HJS := Aside0.mk hjs
   clear hj hjs
   by_cases h12 : j ≤ 12
   ·have c12 : (j : Int) ≤ 12 := by omega
    go_wp2_with (first | (go_at_call 201; refine (is_at g s _ l e3 e4 (p + j) 7 w0 _ HT.out HI.out HB.out).mono ?_; rintro e w1 ⟨rfl, hI1, hB1, hK1⟩; have hd1 := cellS88_1 hI1.1; have hd0 := cellS88_0 hI1.1; have HI1 := Aside0.mk hI1; have HB1 := Aside0.mk hB1; have HK1 := Aside0.mk hK1; clear hI1 hB1 hK1))
    have hr1 := HRN.out _ HK1.out
    have q0 := blk_cell hr1 0
    have q1 := blk_cell hr1 1
    have q2 := blk_cell hr1 2
    have q3 := blk_cell hr1 3
    have q4 := blk_cell hr1 4
    have z0 := blk_frozen hr1 0
    have z1 := blk_frozen hr1 1
    have z2 := blk_frozen hr1 2
    have z3 := blk_frozen hr1 3
    have z4 := blk_frozen hr1 4
    have n1 : (0 : Int) ≤ (p : Int) := by omega
    have n2 : (p : Int) ≤ (p : Int) + (j : Int) := by omega
    have n3 : (p : Int) + (j : Int) ≤ (s.size : Int) := by have := HJS.out; omega
    clear hr1
    go_region
    go_wp2
    obtain ⟨a1, a2, a3, a4⟩ := put5 HI1.out HB1.out (KeepBut.trans (HKB.out) HK1.out (.inl rfl)) rfl (HRN.out _ HK1.out) (Nat.le_refl _) HB0.out.size (Nat.ne_of_lt hgl) (.int .i64 1) (.int .i64 p) (.string (s.extract p (p + j))) (.int .i64 0) (.int .i64 0)
    refine bodyPost_ret (results_ct rfl _ _ w.heap.size 57 #[.int .i64 1, .int .i64 p, .string (s.extract p (p + j)), .int .i64 0, .int .i64 0] (0, 0) _ rfl (blk_drew a4) Tryz.underlying57 rfl (by kernel_rfl)) rfl ?_
    unfold nameR
    rw [← HJ.out, if_pos h12]
    exact ⟨rfl, a1.drew, below_drew1 a2, keep_drew a3⟩
   ·have c12 : 12 < (j : Int) := by omega
    go_wp2_with (first | (go_at_call 201; refine (is_at g s _ l e3 e4 (p + j) 7 w0 _ HT.out HI.out HB.out).mono ?_; rintro e w1 ⟨rfl, hI1, hB1, hK1⟩; have hd1 := cellS88_1 hI1.1; have hg1 := blk_frozen hI1.1 1; have HI1 := Aside0.mk hI1; have HB1 := Aside0.mk hB1; have HK1 := Aside0.mk hK1; clear hI1 hB1 hK1) | (go_at_call 135; refine (words_scanner_fail.calls g s _ l e3 e4 40 (p : Int) _ _ _ _ _ _ _ _ _ _ _ w0 _ HI1.out HB1.out rfl).mono ?_; rintro e w2 ⟨rfl, hI2, hB2, hK2⟩; have hr2 := HRN.out _ (KeepBut.trans HK1.out hK2 (.inl rfl)); have q0 := blk_cell hr2 0; have q1 := blk_cell hr2 1; have q2 := blk_cell hr2 2; have q3 := blk_cell hr2 3; have q4 := blk_cell hr2 4; have z0 := blk_frozen hr2 0; have z1 := blk_frozen hr2 1; have z2 := blk_frozen hr2 2; have z3 := blk_frozen hr2 3; have z4 := blk_frozen hr2 4; have HI2 := Aside0.mk hI2; have HB2 := Aside0.mk hB2; have HK2 := Aside0.mk hK2; have HR2 := Aside0.mk hr2; clear hI2 hB2 hK2 hr2))
    obtain ⟨a1, a2, a3, a4⟩ := put5 HI2.out HB2.out (KeepBut.trans (KeepBut.trans HKB.out HK1.out (.inl rfl)) HK2.out (.inl rfl)) rfl HR2.out (Nat.le_refl _) HB0.out.size (Nat.ne_of_lt hgl) (.int .i64 0) (.int .i64 0) (.string ⟨#[]⟩) (.int .i64 0) (.int .i64 0)
    refine bodyPost_ret (results_ct rfl _ _ w.heap.size 57 #[.int .i64 0, .int .i64 0, .string ⟨#[]⟩, .int .i64 0, .int .i64 0] (0, 0) _ rfl a4 Tryz.underlying57 rfl (by kernel_rfl)) rfl ?_
    unfold nameR
    rw [← HJ.out, if_neg h12]
    exact ⟨rfl, a1, a2, a3⟩
end Go.Proofs.YtjlclkenfmbahaaGreatDoor.PA
