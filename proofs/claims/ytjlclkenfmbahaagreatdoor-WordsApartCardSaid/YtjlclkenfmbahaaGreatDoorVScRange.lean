/- A range over the scanner's iterator: what the caller owes: an invariant on its own cells, its assignment and its body walked once. Condition: what 'next' tells (a hypothesis). -/
import Derived.Test.YtjlclkenfmbahaaGreatDoorVScAll
namespace Go.Proofs.YtjlclkenfmbahaaGreatDoor.PA
open Go.RowKit Go.Shelf Go.Proofs.YtjlclkenfmbahaaGreatDoorW.PrintWords Go.Proofs.YtjlclkenfmbahaaGreatDoorW.PrintLast Go.Proofs.YtjlclkenfmbahaaGreatDoorW.PrintMore
set_option linter.unusedVariables false
set_option linter.unusedSimpArgs false
structure KeepR (B G n0 : Nat) (W W' : World) : Prop where
 others : ∀ (k : Nat) (o : Obj), B ≤ k → W.heap[k]? = some o → o.isCells = false → W'.heap[k]? = some o
 scan : W'.heap[G]? = W.heap[G]?
 old : Below n0 W W'
theorem KeepR.trans {B G n0 : Nat} {X Y Z : World} (h : KeepR B G n0 X Y) (k : KeepR B G n0 Y Z) : KeepR B G n0 X Z :=
 ⟨fun i o hi ho hc => k.others i o hi (h.others i o hi ho hc) hc, k.scan.trans h.scan, h.old.trans k.old⟩
theorem KeepR.alloc {B G n0 : Nat} (W : World) (o : Obj) (hG : G < W.heap.size) (hn : n0 ≤ W.heap.size) : KeepR B G n0 W (W.alloc o) :=
 ⟨fun k o' _ h _ => (Below.heap_alloc W o k (Array.getElem?_eq_some_iff.1 h).1).trans h, Below.heap_alloc W o G hG, (Below.refl n0 W).alloc hn o⟩
theorem KeepR.put {B G n0 : Nat} {W : World} {l : Nat} {o : Obj} (o' : Obj) (hl : W.heap[l]? = some o) (hG : G < B) (hB : B ≤ l) (hn : n0 ≤ B) : (W.putObj l o').heap[G]? = W.heap[G]? ∧ Below n0 W (W.putObj l o') :=
 ⟨World.putObj_heap_other (by omega), (Below.refl n0 W).grown (grownBy_putObj' W l o') (by have := (Array.getElem?_eq_some_iff.1 hl).1; omega) (fun k e => by cases e; omega)⟩
def bodyR (B G n0 : Nat) (I Ix : List S57 → World → Prop) (xs : List S57) (W : World) : Exit → Act → World → Prop
 | .normal, _, W' => KeepR B G n0 W W' ∧ I xs W'
 | .ret, _, W' => KeepR B G n0 W W' ∧ Ix xs W'
 | _, _, _ => False
set_option maxHeartbeats 4000000 in
theorem range_all (m : Nat) (hm : 2 ≤ m) {g : Operand} {ps : Array Tmp} {assign body : Code} {Q : Exit → Act → World → Prop} {a : Act} {w : World} (G : Nat) (hg : a.eval g = .func (.func 43) #[.pointer (some ⟨G, 0, none⟩)] #[]) (hps : ps.size = 1)
  (s : ByteArray) (w0 : World) (NX : Nat → Bool → Nx) (hNX : NextIs NX w0 G s) (hle : ∀ p l, p ≤ s.size → (NX p l).2.2.1 ≤ s.size) (p : Nat) (hp0 : p ≤ s.size) (l0 : Bool) (xs : List S57) (r : Nat × Bool × Int × Int) (hG : Gives NX p l0 xs r) (N : Nat) (hN : xs.length ≤ N)
  (hI : IsS88 w0 w G s (p : Int) l0 0 0) (hB : Below w0.heap.size w0 w)
  (I Ix : List S57 → World → Prop) (Ax : S57 → Act → World → Prop)
  (hIk : ∀ pre X Y, I pre X → KeepBut X Y G none → Below w0.heap.size w0 Y → (∃ cs, Y.heap[G]? = some (.cells cs 88 (0, 0))) → I pre Y)
  (hIp : ∀ pre X (l : Nat) (o o' : Obj), I pre X → w.heap.size ≤ l → X.heap[l]? = some o → o.isCells = false → I pre (X.putObj l o'))
  (hIxp : ∀ pre X (l : Nat) (o o' : Obj), Ix pre X → w.heap.size ≤ l → X.heap[l]? = some o → o.isCells = false → Ix pre (X.putObj l o'))
  (hAxp : ∀ x a' X (l : Nat) (o o' : Obj), Ax x a' X → w.heap.size ≤ l → X.heap[l]? = some o → o.isCells = false → Ax x a' (X.putObj l o'))
  (h0 : I [] w)
  (hassign : ∀ (l : Nat) (pre : List S57) (x : S57) (W : World) (K : Act → World → Prop), w.heap.size ≤ W.heap.size → I pre W → (∀ a' W', KeepR w.heap.size G w0.heap.size W W' → I pre W' → Ax x a' W' → K a' W') →
   assign.wpIn (Fence.wide.inRound l) (m - 1 - 1) Tryz.prog (Exit.then K (fun _ _ _ => False)) { tmps := (ps.zip #[tokV x]).foldl (fun t (p, v) => t.setIfInBounds p v) a.tmps, defers := [] } W)
  (hbody : ∀ (l : Nat) (pre : List S57) (x : S57) (a' : Act) (W : World), w.heap.size ≤ W.heap.size → I pre W → Ax x a' W → pre.length < N → body.wpIn (Fence.wide.inRound l) (m - 1 - 1) Tryz.prog (bodyR w.heap.size G w0.heap.size I Ix (pre ++ [x]) W) a' W)
  (hdone : ∀ (D : Nat) (W : World), w.heap.size ≤ D → I xs W → IsS88 w0 W G s (r.1 : Int) r.2.1 r.2.2.1 r.2.2.2 → Below w0.heap.size w0 W → W.heap[D]? = some (.deferred (some [])) →
   Q .normal { a with defers := { target := .collected D, args := #[] } :: a.defers } W)
  (hstop : ∀ (D : Nat) (pre : List S57) (W : World), w.heap.size ≤ D → pre <+: xs → Ix pre W → W.heap[D]? = some (.deferred (some [])) →
   Code.ret.wpIn Fence.wide m Tryz.prog Q { a with defers := { target := .collected D, args := #[] } :: a.defers } W) :
  (Code.rangeFunc g ps assign body).wpIn Fence.wide m Tryz.prog Q a w := by
 have hGlt : G < w.heap.size := hI.lt
 have hw0 : w0.heap.size ≤ w.heap.size := hB.size
 refine wpIn_rangeFunc ?_
 intro fn hfn
 obtain ⟨rec, hrec⟩ : ∃ rec : LoopState → Option Code → Loop, rec = fun st pe => { state := st, pending := pe, fn, tmps := a.tmps, params := ps, assign, body, defers := w.heap.size } := ⟨_, rfl⟩
 obtain ⟨W1, hW1⟩ : ∃ W1, (w.alloc (.deferred (some []))).alloc (.loop (rec .ready none)) = W1 := ⟨_, rfl⟩
 have hL1 : W1.heap[w.heap.size + 1]? = some (.loop (rec .ready none)) := by
  rw [← hW1]; have := World.alloc_heap_new (w.alloc (.deferred (some []))) (.loop (rec .ready none)); rwa [World.size_alloc] at this
 have hK1 : W1.heap[w.heap.size]? = some (.deferred (some [])) := by
  rw [← hW1]; exact (Below.heap_alloc _ _ _ (by simp)).trans (World.alloc_heap_new w _)
 have hI1 : I [] W1 := by rw [← hW1]; exact hIk _ _ _ (hIk _ _ _ h0 (keep_alloc (KeepBut.refl w G none) _) (below_alloc hB _) ⟨_, (hI.alloc _).1⟩) (keep_alloc (KeepBut.refl _ G none) _) (below_alloc (below_alloc hB _) _) ⟨_, ((hI.alloc _).alloc _).1⟩
 have hS1 : IsS88 w0 W1 G s (p : Int) l0 0 0 := by rw [← hW1]; exact (hI.alloc _).alloc _
 have hB1 : Below w0.heap.size w0 W1 := by rw [← hW1]; exact below_alloc (below_alloc hB _) _
 refine ⟨w.heap.size + 1, [{ target := .collected w.heap.size, args := #[] }], W1, { target := .fn (.func 43) #[], args := #[.pointer (some ⟨G, 0, none⟩), .func (.yield (w.heap.size + 1)) #[] #[]] }, W1, 43,
  #[.pointer (some ⟨G, 0, none⟩), .func (.yield (w.heap.size + 1)) #[] #[]], W1, ?_, ?_, ?_, ?_, fun _ => by omega, ?_⟩
 ·rw [← hW1, hrec]; exact run_enterLoop_outer _ _ _ _ _
 ·simp only [resolve, hg]
  simp [go_sem]
 ·intro f' hf'; trivial
 ·simp [invoke, go_sem, enters_of Tryz.func43 (by kernel_rfl) rfl]
 ·refine (all_in (m - 1) (by omega) (w.heap.size + 1) G s w0 NX hNX hle
   (fun pre W => I pre W ∧ w.heap.size ≤ W.heap.size ∧ W.heap[w.heap.size + 1]? = some (.loop (rec .ready none)) ∧ W.heap[w.heap.size]? = some (.deferred (some [])))
   (fun pre W => Ix pre W ∧ W.heap[w.heap.size + 1]? = some (.loop (rec .done (some .ret))) ∧ W.heap[w.heap.size]? = some (.deferred (some [])))
   (fun pre X Y ⟨hi, hs, hl, hd⟩ hk hbY hsY => ⟨hIk _ _ _ hi hk hbY hsY, Nat.le_trans hs hk.1, (hk.2 _ (Array.getElem?_eq_some_iff.1 hl).1 (by omega) (by simp)).trans hl, (hk.2 _ (Array.getElem?_eq_some_iff.1 hd).1 (by omega) (by simp)).trans hd⟩)
   N ?_ p l0 xs r hG hN hp0 W1 hS1 hB1 ⟨hI1, by rw [← hW1]; simp; omega, hL1, hK1⟩).mono ?_
  ·
   rintro pre x W ⟨hi, hsz, hl, hd⟩ hlen
   have hy := run_yield (P := Tryz.prog) (args := #[tokV x]) hl (by rw [hrec]; exact hps.symm)
   rw [hrec] at hy
   refine ⟨fn, _, assign, body, hy, roundIn_of_wpIn hfn (hassign _ pre x W _ hsz hi ?_)⟩
   clear hy
   intro a' Wa hka hia hax
   have hla := hka.others _ _ (by omega) hl rfl
   have hda := hka.others _ _ (Nat.le_refl _) hd rfl
   have hsza : w.heap.size ≤ Wa.heap.size := by have := (Array.getElem?_eq_some_iff.1 hla).1; omega
   refine ⟨_, run_beginRound hla (by rw [hrec]), ?_⟩
   have hlt : w.heap.size + 1 < Wa.heap.size := (Array.getElem?_eq_some_iff.1 hla).1
   have hl2 : (Wa.putObj (w.heap.size + 1) (.loop { rec .ready none with state := .busy })).heap[w.heap.size + 1]? = some (.loop { rec .ready none with state := .busy }) := World.putObj_heap_same hlt
   have hd2 : (Wa.putObj (w.heap.size + 1) (.loop { rec .ready none with state := .busy })).heap[w.heap.size]? = some (.deferred (some [])) := (World.putObj_heap_other (by omega)).trans hda
   have hp2 := KeepR.put (n0 := w0.heap.size) (.loop { rec .ready none with state := .busy }) hla hGlt (by omega) hw0
   refine wpIn_mono (hbody _ pre x a' _ (by simpa using hsza) (hIp _ _ _ _ _ hia (by omega) hla rfl) (hAxp _ _ _ _ _ _ hax (by omega) hla rfl) hlen) ?_
   have fin : ∀ (jump : Option Code) (W3 : World), KeepR w.heap.size G w0.heap.size (Wa.putObj (w.heap.size + 1) (.loop { rec .ready none with state := .busy })) W3 →
     (Instr.endRound (w.heap.size + 1) jump).run Tryz.prog W3 = .ok (.bool jump.isNone) (W3.putObj (w.heap.size + 1) (.loop (rec (if jump.isNone then .ready else .done) jump))) ∧
     W3.heap[w.heap.size + 1]? = some (.loop { rec .ready none with state := .busy }) ∧
     (W3.putObj (w.heap.size + 1) (.loop (rec (if jump.isNone then .ready else .done) jump))).heap[w.heap.size + 1]? = some (.loop (rec (if jump.isNone then .ready else .done) jump)) ∧
     (W3.putObj (w.heap.size + 1) (.loop (rec (if jump.isNone then .ready else .done) jump))).heap[w.heap.size]? = some (.deferred (some [])) := fun jump W3 hk3 => by
    have hl3 := hk3.others _ _ (by omega) hl2 rfl
    have hd3 := hk3.others _ _ (Nat.le_refl _) hd2 rfl
    have he := run_endRound (P := Tryz.prog) jump hl3
    rw [hrec] at he hl3 ⊢
    exact ⟨he, hl3, World.putObj_heap_same (Array.getElem?_eq_some_iff.1 hl3).1, (World.putObj_heap_other (by omega)).trans hd3⟩
   rintro e a3 W3 hp
   cases e with
   | normal =>
    obtain ⟨hk3, hi3⟩ := hp
    obtain ⟨hr3, hl3, hl4, hd4⟩ := fin none W3 hk3
    have hp3 := KeepR.put (n0 := w0.heap.size) (.loop (rec .ready none)) hl3 hGlt (by omega) hw0
    refine ⟨_, _, hr3, .inl ⟨rfl, ⟨hIp _ _ _ _ _ hi3 (by omega) hl3 rfl, ?_, hl4, hd4⟩, ?_⟩⟩
    ·have := (Array.getElem?_eq_some_iff.1 hl4).1; omega
    ·exact ⟨(hp3.1.trans hk3.scan).trans (hp2.1.trans hka.scan), ((hka.old.trans hp2.2).trans hk3.old).trans hp3.2⟩
   | ret =>
    obtain ⟨hk3, hi3⟩ := hp
    obtain ⟨hr3, hl3, hl4, hd4⟩ := fin (some .ret) W3 hk3
    exact ⟨_, _, hr3, .inr ⟨rfl, hIxp _ _ _ _ _ hi3 (by omega) hl3 rfl, hl4, hd4⟩⟩
   | exit id => exact hp.elim
   | goto t => exact hp.elim
   | panic ch => exact hp.elim
   | outgrown => exact hp.elim
  ·
   rintro e W2 ⟨⟨v, rfl⟩, (⟨⟨hi, hsz, hl, hd⟩, hs, hb⟩ | ⟨pre, hpre, hi, hl, hd⟩)⟩
   ·refine ⟨none, _, by have := run_endLoop (P := Tryz.prog) hl (by rw [hrec]; simp); rw [hrec] at this; exact this, ?_⟩
    have hp3 := fun o' => KeepR.put (n0 := w0.heap.size) o' hl hGlt (by omega) hw0
    exact hdone w.heap.size _ (Nat.le_refl _) (hIp _ _ _ _ _ hi (by omega) hl rfl) ⟨(hp3 _).1.trans hs.1, hs.2⟩ (hb.trans (hp3 _).2) ((World.putObj_heap_other (by omega)).trans hd)
   ·refine ⟨some .ret, _, by have := run_endLoop (P := Tryz.prog) hl (by rw [hrec]; simp); rw [hrec] at this; exact this, ?_⟩
    exact hstop w.heap.size pre _ (Nat.le_refl _) hpre (hIxp _ _ _ _ _ hi (by omega) hl rfl) ((World.putObj_heap_other (by omega)).trans hd)
end Go.Proofs.YtjlclkenfmbahaaGreatDoor.PA
