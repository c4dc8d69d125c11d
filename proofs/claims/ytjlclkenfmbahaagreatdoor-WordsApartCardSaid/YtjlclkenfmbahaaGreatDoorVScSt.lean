/- What stands while a method of the scanner runs: the scanner's cells, the method's result cells still empty, all else as it lay. No condition. -/
import Derived.Test.YtjlclkenfmbahaaGreatDoorVScName
import Derived.Test.YtjlclkenfmbahaaGreatDoorVPAx0
import Derived.Test.YtjlclkenfmbahaaGreatDoorVL
namespace Go.Proofs.YtjlclkenfmbahaaGreatDoor.PA
open Go.RowKit Go.Proofs.YtjlclkenfmbahaaGreatDoorW.PrintWords Go.Proofs.YtjlclkenfmbahaaGreatDoorW.PrintLast Go.Proofs.YtjlclkenfmbahaaGreatDoorW.PrintMore
set_option linter.unusedVariables false
structure St (w0 w W : World) (g : Nat) (s : ByteArray) (x : Int) (l : Bool) (e3 e4 : Int) : Prop where
 i : IsS88 w0 W g s x l e3 e4
 b : Below w0.heap.size w0 W
 k : KeepBut w W g none
 r : W.heap[w.heap.size]? = some (.cells #[.int .i64 0, .int .i64 0, .string ⟨#[]⟩, .int .i64 0, .int .i64 0] 57 (0, 0))
 gl : g < w.heap.size
 wl : w0.heap.size ≤ w.heap.size
section
variable {w0 w W W' : World} {g : Nat} {s : ByteArray} {x : Int} {l : Bool} {e3 e4 : Int}
theorem St.start (hI : IsS88 w0 w g s x l e3 e4) (hB : Below w0.heap.size w0 w) : St w0 w (w.alloc (.cells #[.int .i64 0, .int .i64 0, .string ⟨#[]⟩, .int .i64 0, .int .i64 0] 57)) g s x l e3 e4 :=
 ⟨hI.alloc _, below_alloc hB _, keep_alloc (KeepBut.refl w g none) _, heap_alloc_new w _, hI.lt, hB.size⟩
theorem St.drewN (h : St w0 w W g s x l e3 e4) (n : Nat) : St w0 w (W.drewN n) g s x l e3 e4 := ⟨h.i.drewN n, pw_below_drewN h.b n, keep_drewN h.k n, blk_drewN h.r n, h.gl, h.wl⟩
theorem St.drew (h : St w0 w W g s x l e3 e4) : St w0 w W.drew g s x l e3 e4 := ⟨h.i.drew, below_drew1 h.b, keep_drew h.k, blk_drew h.r, h.gl, h.wl⟩
theorem St.set1 (h : St w0 w W g s x l e3 e4) (y : Int) : St w0 w (W.setCell ⟨g, 1, none⟩ (.int .i64 y)) g s y l e3 e4 :=
 ⟨h.i.set_1 y, below_set h.b h.i.ge, h.k.set_ _ _, blk_far h.r (p := ⟨g, 1, none⟩) (Nat.ne_of_gt h.gl) _, h.gl, h.wl⟩
theorem St.set2 (h : St w0 w W g s x l e3 e4) (y : Bool) : St w0 w (W.setCell ⟨g, 2, none⟩ (.bool y)) g s x y e3 e4 :=
 ⟨h.i.set_2 y, below_set h.b h.i.ge, h.k.set_ _ _, blk_far h.r (p := ⟨g, 2, none⟩) (Nat.ne_of_gt h.gl) _, h.gl, h.wl⟩
theorem St.call {x' : Int} {l' : Bool} {e3' e4' : Int} (h : St w0 w W g s x l e3 e4) (hI : IsS88 w0 W' g s x' l' e3' e4') (hB : Below w0.heap.size w0 W') (hK : KeepBut W W' g none) : St w0 w W' g s x' l' e3' e4' :=
 ⟨hI, hB, KeepBut.trans h.k hK (.inl rfl), (hK.2 _ (blk_lt h.r) (Nat.ne_of_gt h.gl) (by simp)).trans h.r, h.gl, h.wl⟩
theorem St.step (h : St w0 w W g s x l e3 e4) (hb : Below (w.heap.size + 1) W W') (hsz : w.heap.size + 1 ≤ W.heap.size) : St w0 w W' g s x l e3 e4 := by
 have hs : W.heap.size ≤ W'.heap.size := hb.size
 refine ⟨⟨(hb.block g (by have := h.gl; omega)).trans h.i.1, h.i.2⟩, ?_, ⟨Nat.le_trans h.k.1 hs, fun i hi hg hr => (hb.block i (by omega)).trans (h.k.2 i hi hg hr)⟩, (hb.block _ (by omega)).trans h.r, h.gl, h.wl⟩
 exact h.b.trans (hb.mono (by have := h.wl; omega))
theorem St.alloc_ (h : St w0 w W g s x l e3 e4) (o : Obj) : St w0 w (W.alloc o) g s x l e3 e4 := h.step ((Below.refl _ _).alloc (blk_lt h.r) o) (blk_lt h.r)
theorem St.size (h : St w0 w W g s x l e3 e4) : w.heap.size + 1 ≤ W.heap.size := blk_lt h.r
theorem St.c0 (h : St w0 w W g s x l e3 e4) : W.cell? ⟨g, 0, none⟩ = some (.string s) := cellS88_0 h.i.1
theorem St.c1 (h : St w0 w W g s x l e3 e4) : W.cell? ⟨g, 1, none⟩ = some (.int .i64 x) := cellS88_1 h.i.1
theorem St.c2 (h : St w0 w W g s x l e3 e4) : W.cell? ⟨g, 2, none⟩ = some (.bool l) := cellS88_2 h.i.1
theorem St.f (h : St w0 w W g s x l e3 e4) (j : Nat) : W.frozen? ⟨g, j, none⟩ = false := blk_frozen h.i.1 j
theorem St.q0 (h : St w0 w W g s x l e3 e4) : W.cell? ⟨w.heap.size, 0, none⟩ = some (.int .i64 0) := (blk_cell h.r 0).trans rfl
theorem St.q1 (h : St w0 w W g s x l e3 e4) : W.cell? ⟨w.heap.size, 1, none⟩ = some (.int .i64 0) := (blk_cell h.r 1).trans rfl
theorem St.q2 (h : St w0 w W g s x l e3 e4) : W.cell? ⟨w.heap.size, 2, none⟩ = some (.string ⟨#[]⟩) := (blk_cell h.r 2).trans rfl
theorem St.q3 (h : St w0 w W g s x l e3 e4) : W.cell? ⟨w.heap.size, 3, none⟩ = some (.int .i64 0) := (blk_cell h.r 3).trans rfl
theorem St.q4 (h : St w0 w W g s x l e3 e4) : W.cell? ⟨w.heap.size, 4, none⟩ = some (.int .i64 0) := (blk_cell h.r 4).trans rfl
theorem St.z (h : St w0 w W g s x l e3 e4) (j : Nat) : W.frozen? ⟨w.heap.size, j, none⟩ = false := blk_frozen h.r j
theorem St.put (h : St w0 w W g s x l e3 e4) (v0 v1 v2 v3 v4 : Value) :
  IsS88 w0 (((((W.setCell ⟨w.heap.size, 0, none⟩ v0).setCell ⟨w.heap.size, 1, none⟩ v1).setCell ⟨w.heap.size, 2, none⟩ v2).setCell ⟨w.heap.size, 3, none⟩ v3).setCell ⟨w.heap.size, 4, none⟩ v4) g s x l e3 e4 ∧
  Below w0.heap.size w0 (((((W.setCell ⟨w.heap.size, 0, none⟩ v0).setCell ⟨w.heap.size, 1, none⟩ v1).setCell ⟨w.heap.size, 2, none⟩ v2).setCell ⟨w.heap.size, 3, none⟩ v3).setCell ⟨w.heap.size, 4, none⟩ v4) ∧
  KeepBut w (((((W.setCell ⟨w.heap.size, 0, none⟩ v0).setCell ⟨w.heap.size, 1, none⟩ v1).setCell ⟨w.heap.size, 2, none⟩ v2).setCell ⟨w.heap.size, 3, none⟩ v3).setCell ⟨w.heap.size, 4, none⟩ v4) g none ∧
  (((((W.setCell ⟨w.heap.size, 0, none⟩ v0).setCell ⟨w.heap.size, 1, none⟩ v1).setCell ⟨w.heap.size, 2, none⟩ v2).setCell ⟨w.heap.size, 3, none⟩ v3).setCell ⟨w.heap.size, 4, none⟩ v4).heap[w.heap.size]? = some (.cells #[v0, v1, v2, v3, v4] 57 (0, 0)) :=
 put5 h.i h.b h.k rfl h.r (Nat.le_refl _) h.wl (Nat.ne_of_lt h.gl) v0 v1 v2 v3 v4
theorem fail_st (h : St w0 w W g s x l e3 e4) (c p : Int) :
  Calls Tryz.prog 135 #[.pointer (some ⟨g, 0, none⟩), .int .i64 c, .int .i64 p] W fun e w' => e = .returned (.tuple #[.agg #[.int .i64 0, .int .i64 0, .string ⟨#[]⟩, .int .i64 0, .int .i64 0], .bool false]) ∧ St w0 w w' g s x l c p := by
 refine (words_scanner_fail.calls g s x l e3 e4 c p _ _ _ _ _ _ _ _ _ _ _ w0 W h.i h.b rfl).mono ?_
 rintro e w2 ⟨rfl, hI2, hB2, hK2⟩
 exact ⟨rfl, h.call hI2 hB2 hK2⟩
theorem is_st (h : St w0 w W g s x l e3 e4) (hT : Tabs w0) (i : Nat) (m : Int) :
  Calls Tryz.prog 201 #[.pointer (some ⟨g, 0, none⟩), .int .i64 (i : Int), .int .u8 m] W fun e w' => e = .returned (.bool (isC m s i)) ∧ St w0 w w' g s x l e3 e4 := by
 refine (is_at g s x l e3 e4 i m w0 W hT h.i h.b).mono ?_
 rintro e w2 ⟨rfl, hI2, hB2, hK2⟩
 exact ⟨rfl, h.call hI2 hB2 hK2⟩
end
end Go.Proofs.YtjlclkenfmbahaaGreatDoor.PA
