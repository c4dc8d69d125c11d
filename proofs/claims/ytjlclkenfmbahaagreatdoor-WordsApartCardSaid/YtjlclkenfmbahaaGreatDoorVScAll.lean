/- The scanner's iterator: goes on with 'next' until there is no token or the loop's body says no. Condition: what 'next' tells (a hypothesis here, shown elsewhere). -/
import Derived.Test.YtjlclkenfmbahaaGreatDoorVScSt
import Derived.RangeFuncNested
import Derived.RangeFuncBound
import Derived.RangeFuncCalls
import Derived.RangeFuncLeaves
import Derived.Shelf.Abstract
import Derived.Shelf.RegionOpen
import Derived.WalkKit
import Derived.OwnWalkIn
import Derived.TacticsInMore
import Derived.LoopNIn
import Derived.LoopIn
import Derived.Test.YtjlclkenfmbahaaGreatDoorVPAx0
import Derived.Test.YtjlclkenfmbahaaGreatDoorVL
namespace Go.Proofs.YtjlclkenfmbahaaGreatDoor.PA
open Go.RowKit Go.Shelf Go.Proofs.YtjlclkenfmbahaaGreatDoorW.PrintWords Go.Proofs.YtjlclkenfmbahaaGreatDoorW.PrintLast Go.Proofs.YtjlclkenfmbahaaGreatDoorW.PrintMore
attribute [local go_sem] Oper.semAt_some
set_option linter.unusedVariables false
set_option linter.unusedSimpArgs false
abbrev Nx := S57 × Bool × Nat × Bool × Int × Int
inductive Gives (NX : Nat → Bool → Nx) : Nat → Bool → List S57 → Nat × Bool × Int × Int → Prop
 | stop {p : Nat} {l : Bool} {t : S57} {r : Nat × Bool × Int × Int} (h : NX p l = (t, false, r)) : Gives NX p l [] r
 | more {p p' : Nat} {l l' : Bool} {t : S57} {xs : List S57} {r : Nat × Bool × Int × Int} (h : NX p l = (t, true, p', l', 0, 0)) (hr : Gives NX p' l' xs r) : Gives NX p l (t :: xs) r
theorem Gives.one {NX : Nat → Bool → Nx} {p : Nat} {l : Bool} {xs ys : List S57} {r r' : Nat × Bool × Int × Int} (h : Gives NX p l xs r) (h' : Gives NX p l ys r') : xs = ys := by
 induction h generalizing ys r' with
 | stop h =>
  cases h' with
  | stop h1 => rfl
  | more h1 _ => rw [h] at h1; cases h1
 | more h _ ih =>
  cases h' with
  | stop h1 => rw [h] at h1; cases h1
  | more h1 h2 =>
   rw [h] at h1
   cases h1
   rw [ih h2]
open Classical in
noncomputable def lenG (NX : Nat → Bool → Nx) (p : Nat) (l : Bool) : Nat := if h : ∃ q : List S57 × (Nat × Bool × Int × Int), Gives NX p l q.1 q.2 then (Classical.choose h).1.length else 0
theorem lenG_eq {NX : Nat → Bool → Nx} {p : Nat} {l : Bool} {xs : List S57} {r : Nat × Bool × Int × Int} (h : Gives NX p l xs r) : lenG NX p l = xs.length := by
 have hex : ∃ q : List S57 × (Nat × Bool × Int × Int), Gives NX p l q.1 q.2 := ⟨(xs, r), h⟩
 unfold lenG
 rw [dif_pos hex]
 exact congrArg List.length (Gives.one (Classical.choose_spec hex) h)
def posOf (g : Nat) (W : World) : Nat := match W.cell? ⟨g, 1, none⟩ with | some (.int _ n) => n.toNat | _ => 0
def lineOf (g : Nat) (W : World) : Bool := match W.cell? ⟨g, 2, none⟩ with | some (.bool b) => b | _ => false
theorem posOf_eq {w0 W : World} {g p : Nat} {s : ByteArray} {l : Bool} {e3 e4 : Int} (h : IsS88 w0 W g s (p : Int) l e3 e4) : posOf g W = p := by
 unfold posOf; rw [cellS88_1 h.1]; simp
theorem lineOf_eq {w0 W : World} {g p : Nat} {s : ByteArray} {l : Bool} {e3 e4 : Int} (h : IsS88 w0 W g s (p : Int) l e3 e4) : lineOf g W = l := by
 unfold lineOf; rw [cellS88_2 h.1]
def tokV (x : S57) : Value := .agg #[.int .i64 x.f0, .int .i64 x.f1, .string x.f2, .int .i64 x.f3, .int .i64 x.f4]
def NextIs (NX : Nat → Bool → Nx) (w0 : World) (g : Nat) (s : ByteArray) : Prop := ∀ (W : World) (p : Nat) (l : Bool), p ≤ s.size → IsS88 w0 W g s (p : Int) l 0 0 → Below w0.heap.size w0 W →
 Calls Tryz.prog 85 #[.pointer (some ⟨g, 0, none⟩)] W fun e W' => e = .returned (.tuple #[tokV (NX p l).1, .bool (NX p l).2.1]) ∧
  IsS88 w0 W' g s ((NX p l).2.2.1 : Int) (NX p l).2.2.2.1 (NX p l).2.2.2.2.1 (NX p l).2.2.2.2.2 ∧ Below w0.heap.size w0 W' ∧ KeepBut W W' g none
def RoundK (w0 : World) (g : Nat) (W W' : World) : Prop := W'.heap[g]? = W.heap[g]? ∧ Below w0.heap.size W W'
set_option maxRecDepth 100000 in
set_option maxHeartbeats 4000000 in
theorem all_in (m : Nat) (hm : 1 ≤ m) (l g : Nat) (s : ByteArray) (w0 : World) (NX : Nat → Bool → Nx) (hNX : NextIs NX w0 g s) (hle : ∀ p l, p ≤ s.size → (NX p l).2.2.1 ≤ s.size) (J Jx : List S57 → World → Prop)
  (hJ : ∀ pre X Y, J pre X → KeepBut X Y g none → Below w0.heap.size w0 Y → (∃ cs, Y.heap[g]? = some (.cells cs 88 (0, 0))) → J pre Y)
  (N : Nat) (hY : ∀ pre x W1, J pre W1 → pre.length < N → YieldAt Fence.wide (m - 1) Tryz.prog l #[tokV x] W1 fun e W' =>
   (e = .returned (.bool true) ∧ J (pre ++ [x]) W' ∧ RoundK w0 g W1 W') ∨ (e = .returned (.bool false) ∧ Jx (pre ++ [x]) W'))
  (p : Nat) (l0 : Bool) (xs : List S57) (r : Nat × Bool × Int × Int) (hG : Gives NX p l0 xs r) (hN : xs.length ≤ N) (hp0 : p ≤ s.size) (W : World) (hI : IsS88 w0 W g s (p : Int) l0 0 0) (hB : Below w0.heap.size w0 W) (h0 : J [] W) :
  CallsIn Fence.wide m Tryz.prog 43 #[.pointer (some ⟨g, 0, none⟩), .func (.yield l) #[] #[]] W fun e W' => (∃ v, e = .returned v) ∧
   ((J xs W' ∧ IsS88 w0 W' g s (r.1 : Int) r.2.1 r.2.2.1 r.2.2.2 ∧ Below w0.heap.size w0 W') ∨ ∃ pre, pre <+: xs ∧ Jx pre W') := by
 refine callsIn_of_wp Tryz.func43 rfl trivial ?_ rfl
 simp only [Tryz.ntmps43, List.size_toArray, List.length_cons, List.length_nil, Nat.reduceAdd, Nat.reduceSub, Array.replicate_succ, Array.replicate_zero, List.push_toArray, List.append_toArray, List.nil_append, List.cons_append]
 gi_wp2
 gi_loopw [] (fun wr => ∃ (pre rest : List S57) (q : Nat) (lb : Bool), xs = pre ++ rest ∧ q ≤ s.size ∧ Gives NX q lb rest r ∧ IsS88 w0 wr g s (q : Int) lb 0 0 ∧ Below w0.heap.size w0 wr ∧ J pre wr)
  (fun wr => lenG NX (posOf g wr) (lineOf g wr))
 case atStart => exact ⟨[], xs, p, l0, rfl, hp0, hG, hI, hB, h0⟩
 case round =>
  obtain ⟨pre, rest, q, lb, hx, hq, hg, hi, hb, hj⟩ := hrel
  cases hg with
  | @stop _ _ tk _ hn =>
   gi_wp2_with (refine ⟨trivial, ?_⟩; gi_at_call 85; refine (callsIn_wide.2 (hNX _ q lb hq hi hb)).mono ?_; rw [hn]; dsimp only [tokV]; rintro e w1 ⟨rfl, hI1, hB1, hK1⟩; have hj1 := hJ _ _ _ hj hK1 hB1 ⟨_, hI1.1⟩)
   refine ⟨fun f hf => (by cases hf), ?_⟩
   gi_wp2
   refine bodyPost_ret (results_none rfl _ _ _) rfl ⟨⟨_, rfl⟩, .inl ⟨?_, hI1.alloc _, below_alloc hB1 _⟩⟩
   rw [hx, List.append_nil]
   exact hJ _ _ _ hj1 (keep_alloc (KeepBut.refl w1 g none) _) (below_alloc hB1 _) ⟨_, (hI1.alloc _).1⟩
  | @more _ q' _ lb' x rest' _ hn hr =>
   gi_wp2_with (refine ⟨trivial, ?_⟩; gi_at_call 85; refine (callsIn_wide.2 (hNX _ q lb hq hi hb)).mono ?_; rw [hn]; dsimp only [tokV]; rintro e w1 ⟨rfl, hI1, hB1, hK1⟩; have hj1 := hJ _ _ _ hj hK1 hB1 ⟨_, hI1.1⟩; have hj2 := hJ _ _ _ hj1 (keep_alloc (KeepBut.refl w1 g none) (.cells #[.int .i64 x.f0, .int .i64 x.f1, .string x.f2, .int .i64 x.f3, .int .i64 x.f4] 57)) (below_alloc hB1 _) ⟨_, (hI1.alloc _).1⟩; obtain ⟨fn, tmps, assign, body, hy, hR⟩ := hY pre x _ hj2 (by rw [hx] at hN; simp at hN; omega); dsimp only [tokV] at hy)
   refine hR.mono ?_
   rintro e W3 (⟨rfl, hJ3, hk3⟩ | ⟨rfl, hJx3⟩)
   ·gi_wp2
    have hi3 : IsS88 w0 W3 g s (q' : Int) lb' 0 0 := ⟨hk3.1.trans (hI1.alloc _).1, hI1.2⟩
    refine ⟨⟨pre ++ [x], rest', q', lb', by rw [hx, List.append_assoc]; rfl, by have h := hle q lb hq; rw [hn] at h; exact h, hr, hi3, (below_alloc hB1 _).trans (hk3.2.mono (Nat.le_refl _)), hJ3⟩, ?_⟩
    rw [posOf_eq hi3, lineOf_eq hi3, posOf_eq hi, lineOf_eq hi, lenG_eq hr, lenG_eq (.more hn hr)]
    simp
   ·gi_wp2
    refine bodyPost_ret (results_none rfl _ _ _) rfl ⟨⟨_, rfl⟩, .inr ⟨pre ++ [x], ?_, hJx3⟩⟩
    exact ⟨rest', by rw [hx, List.append_assoc]; rfl⟩
end Go.Proofs.YtjlclkenfmbahaaGreatDoor.PA
