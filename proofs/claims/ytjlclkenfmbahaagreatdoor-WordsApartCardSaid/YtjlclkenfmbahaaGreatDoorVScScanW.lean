/- words.Scan walked by hand: the range over the scanner's iterator, each round's token appended. Condition: what 'next' tells (a hypothesis here, shown elsewhere). -/
import Derived.Test.YtjlclkenfmbahaaGreatDoorVScRange
import Derived.RangeFuncNested
import Derived.RangeFuncBound
import Derived.RangeFuncCalls
import Derived.RangeFuncLeaves
import Derived.Shelf.Abstract
import Derived.Shelf.RegionOpen
import Derived.WalkKit
import Derived.OwnWalkIn
import Derived.TacticsInMore
import Derived.LoopNIn
import Derived.LoopIn
import Derived.Maps.AppendAt
import Derived.BigRegion
import Derived.RegionTactic
import Derived.ChangeAlike
import Derived.Test.YtjlclkenfmbahaaGreatDoorVPAx0
import Derived.Test.YtjlclkenfmbahaaGreatDoorVL
namespace Go.Proofs.YtjlclkenfmbahaaGreatDoor.PA
open Go.RowKit Go.Shelf Go.Proofs.YtjlclkenfmbahaaGreatDoorW.PrintWords Go.Proofs.YtjlclkenfmbahaaGreatDoorW.PrintLast Go.Proofs.YtjlclkenfmbahaaGreatDoorW.PrintMore
attribute [local go_sem] Oper.semAt_some
set_option linter.unusedVariables false
set_option linter.unusedSimpArgs false
abbrev cT (x : S57) : Array Value := #[.int .i64 x.f0, .int .i64 x.f1, .string x.f2, .int .i64 x.f3, .int .i64 x.f4]
abbrev TRow (b : Nat) (W : World) (v : Value) (xs : List S57) : Prop := Kd.R k57 57 W b (fun _ => True) v xs
theorem TRow.keep {b G : Nat} {X Y : World} {v : Value} {xs : List S57} (h : TRow b X v xs) (hk : KeepBut X Y G none) (hG : G < b) : TRow b Y v xs :=
 Kd.R_mono (Kd.R_step (Kd.R_bound h) (fun k hb hlt => hk.2 k hlt (by have := hb.2.1; omega) (by simp))) (fun _ _ => trivial)
theorem TRow.put {b l : Nat} {X : World} {v : Value} {xs : List S57} {o : Obj} (o' : Obj) (h : TRow b X v xs) (hl : X.heap[l]? = some o) (ho : o.isCells = false) : TRow b (X.putObj l o') v xs :=
 Kd.R_mono (Kd.R_step (Kd.R_bound h) (fun k hb hlt => World.putObj_heap_other (by
  rintro rfl
  obtain ⟨q, _, cells, hc⟩ := hb.2.2.2
  rw [hl] at hc
  cases hc
  cases ho))) (fun _ _ => trivial)
theorem TRow.set {b B : Nat} {X : World} {v : Value} {xs : List S57} (h : TRow b X v xs) (hB : B < b) (u : Value) : TRow b (X.setCell ⟨B, 0, none⟩ u) v xs :=
 Kd.R_mono (Kd.R_step (Kd.R_bound h) (fun k hb hlt => Below.heap_setCell X ⟨B, 0, none⟩ u k (by have := hb.2.1; show k ≠ B; omega))) (fun _ _ => trivial)
theorem boxed_put {W : World} {B l : Nat} {t : TypeId} {v : Value} {o : Obj} (o' : Obj) (h : Boxed W B t v) (hl : W.heap[l]? = some o) (ho : o.isCells = false) : Boxed (W.putObj l o') B t v :=
 (World.putObj_heap_other (by
  rintro rfl
  have hc : W.heap[B]? = some (.cells #[v] t (0, 0)) := h
  rw [hl] at hc
  cases hc
  cases ho)).trans h
section
variable {F : Fence} {n : Nat} {P : Program} {ops : Array Oper} {rest : List Oper} {o : Oper} {a : Act} {Q : Exit → Act → World → Prop}
theorem append_tok {W : World} {b : Nat} {x : S57} (hgd : o.guard = none) (sl xx : Operand) (t : TypeId) (ho : o.op = .call { callee := .builtin .append, args := #[sl, xx], argTypes := #[t, t] })
  (ht : P.underlying t = some (.slice 57)) (hinfo : (P.info? 57).map (fun i => (i.zero, i.size, i.bytes)) = some (some (.agg #[(.int .i64 0), (.int .i64 0), (.string ⟨#[]⟩), (.int .i64 0), (.int .i64 0)]), 5, 48)) (v : Value) (xs : List S57)
  (hs : a.eval sl = v) (hx : a.eval xx = .slice (some ⟨W.heap.size, 0, none⟩) 1 1) (HO : TRow b W v xs) (hsz : b ≤ W.heap.size) (hl : xs.length ≤ 100000)
  (h : ∀ v1 w1, TRow b w1 v1 (xs ++ [x]) → W.grownBy w1 v.ownBlock → wpListIn F n P ops Q rest (a.put o.dst v1) w1) :
  wpListIn F n P ops Q (o :: rest) a (W.alloc (.cells (cT x) 57)) := by
 obtain ⟨i0, hi, hzz⟩ := Option.map_eq_some_iff.1 hinfo
 simp only [Prod.mk.injEq] at hzz
 obtain ⟨hz0, hz1, hz2⟩ := hzz
 obtain ⟨h0, inner, hown, hr⟩ := HO
 refine wpListIn_append_own _ hgd sl xx t ho b 57 i0 _ 5 48 ht hi hz0 hz1 hz2 rfl (by decide) v xs.length inner hs (hown.alloc _) ⟨W.heap.size, 0, none⟩ 1 1 (cT x).toList hx rfl
  (World.news_of_block (cs := cT x) (t := 57) (fr := (0, 0)) (heap_alloc_new W _)) (by simp [Value.oneCell']) (by simp only [maxLen]; omega) (by omega) (by simp; omega) ?_
 intro v1 w1 hown1 hg1 _
 refine h v1 w1 ⟨fun _ _ => trivial, inner ++ (cT x).toList, by rw [List.length_append]; exact hown1, ?_⟩ ?_
 ·exact (hr.imp_ (fun p c hp => by rw [k57_openM hp]; exact k57_mkM _ _ _ p)).snoc (k57_mkM _ _ _ x) rfl
 ·exact (World.grownBy_alloc W _ v.ownBlock).trans hg1
end
set_option maxRecDepth 100000 in
set_option maxHeartbeats 4000000 in
theorem scan_walk (s : ByteArray) (hs : s.size ≤ 8000) (w : World) (NX : Nat → Bool → Nx) (hNX : NextIs NX w w.heap.size s) (hle : ∀ p l, p ≤ s.size → (NX p l).2.2.1 ≤ s.size) (xs : List S57) (r : Nat × Bool × Int × Int) (hG : Gives NX 0 false xs r) (hn : xs.length ≤ 100000) :
  Calls Tryz.prog 12 #[.string s] w fun e w' => ∃ v0 : Value, e = .returned (.tuple #[v0, .int .i64 (if r.2.2.1 = 0 then 0 else r.2.2.2), .int .i64 r.2.2.1]) ∧
   Kd.R k57 57 w' w.heap.size (fun _ => True) v0 (if r.2.2.1 = 0 then xs else []) ∧ Below w.heap.size w w' := by
 refine (callsIn_wide (n := 6)).1 ?_
 have k8 : ((8000 : Int) < (s.size : Int)) = False := eq_false (by omega)
 have k8n : (8000 < s.size) = False := eq_false (by omega)
 refine callsIn_of_wp_marks Tryz.func12 rfl trivial ?_ rfl
 simp only [Tryz.ntmps12, List.size_toArray, List.length_cons, List.length_nil, Nat.reduceAdd, Nat.reduceSub, Array.replicate_succ, Array.replicate_zero, List.push_toArray, List.append_toArray, List.nil_append, List.cons_append]
 gi_wp2
 refine range_all 6 (by decide) w.heap.size rfl rfl s w NX hNX hle 0 (Nat.zero_le _) false xs r hG 100000 hn
  ⟨(Below.heap_alloc (w.alloc (.cells #[.string s, .int .i64 0, .bool false, .int .i64 0, .int .i64 0] 88)) _ w.heap.size (by simp)).trans (heap_alloc_new w _), Nat.le_refl _⟩ (below_alloc (below_alloc (Below.refl _ _) _) _)
  (fun pre W => ∃ v, Boxed W (w.heap.size + 1) 22 v ∧ TRow (w.heap.size + 2) W v pre ∧ w.heap.size + 2 ≤ W.heap.size) (fun _ _ => False)
  (fun x a' W => ∃ Bx, w.heap.size + 2 ≤ Bx ∧ W.heap[Bx]? = some (.cells (cT x) 57 (0, 0)) ∧ a' = { tmps := #[.string s, undef, .slice none 0 0, .int .i64 0, .int .i64 0, .pointer (some ⟨w.heap.size, 0, none⟩), .pointer (some ⟨w.heap.size + 1, 0, none⟩), .pointer (some ⟨Bx, 0, none⟩), .string s, .int .i64 s.size, .bool false, .string s, .agg #[.string s, .int .i64 0, .bool false, .int .i64 0, .int .i64 0], .pointer (some ⟨w.heap.size, 0, none⟩), .pointer (some ⟨w.heap.size, 0, none⟩), .func (.func 43) #[.pointer (some ⟨w.heap.size, 0, none⟩)] #[], tokV x, undef, undef, undef, undef, undef, undef, undef, undef, undef, undef, undef, undef, undef, undef, undef, undef, undef, undef], defers := [] })
  ?_ ?_ (fun _ _ _ _ _ h => h.elim) ?_ ?_ ?assign ?body ?done (fun _ _ _ _ _ h => h.elim)
 ·rintro pre X Y ⟨v, hb, ho, hs⟩ hk _ _
  exact ⟨v, (hk.2 _ hb.lt (by omega) (by simp)).trans hb, ho.keep hk (by omega), Nat.le_trans hs hk.1⟩
 ·rintro pre X l o o' ⟨v, hb, ho, hs⟩ _ hl hc
  exact ⟨v, boxed_put o' hb hl hc, ho.put o' hl hc, by simpa using hs⟩
 ·rintro x a' X l o o' ⟨Bx, hB, hx, rfl⟩ _ hl hc
  refine ⟨Bx, hB, (World.putObj_heap_other (by rintro rfl; rw [hl] at hx; cases hx; cases hc)).trans hx, rfl⟩
 ·refine ⟨.slice none 0 0, ?_, Kd.R_nil _ _ _ _ _, by simp⟩
  have h := World.alloc_heap_new (w.alloc (.cells #[.string s, .int .i64 0, .bool false, .int .i64 0, .int .i64 0] 88)) (.cells #[.slice none 0 0] 22)
  rw [World.size_alloc] at h
  exact h
 case assign =>
  intro l pre x W K hsz hi hK
  replace hsz : w.heap.size ≤ W.heap.size := Nat.le_trans (by simp; omega) hsz
  dsimp only [tokV]
  gi_wp2
  exact hK _ _ (KeepR.alloc W _ (by have := hi.choose_spec.2.2; omega) hsz) (by
   obtain ⟨v, hb, ho, hs2⟩ := hi
   exact ⟨v, hb.alloc _, Kd.R_alloc ho _, by simp; omega⟩) ⟨W.heap.size, by obtain ⟨v, hb, ho, hs2⟩ := hi; exact hs2, heap_alloc_new W _, rfl⟩
 case body =>
  rintro l pre x a' W hsz ⟨v, hb, ho, hs2⟩ ⟨Bx, hBx, hx, rfl⟩ hlen
  have hbc := hb.cell
  have hbf := hb.frozen
  have x0 := (blk_cell hx 0).trans (show _ = some (Value.int .i64 x.f0) from rfl)
  have x1 := (blk_cell hx 1).trans (show _ = some (Value.int .i64 x.f1) from rfl)
  have x2 := (blk_cell hx 2).trans (show _ = some (Value.string x.f2) from rfl)
  have x3 := (blk_cell hx 3).trans (show _ = some (Value.int .i64 x.f3) from rfl)
  have x4 := (blk_cell hx 4).trans (show _ = some (Value.int .i64 x.f4) from rfl)
  dsimp only [tokV]
  gi_wp2_with (gi_at_builtin; refine append_tok (b := w.heap.size + 2) (x := x) rfl (.tmp 17) (.tmp 19) 22 rfl Tryz.underlying22 info57 v pre rfl rfl ho hs2 (by omega) ?_; intro v1 w1 ho1 hg1; obtain ⟨g1, c1, rfl, hgb1, hgl1, hgt1⟩ := Kd.R_form ho1 (by simp); have hb1 : Boxed w1 (w.heap.size + 1) 22 v := hb.kept hg1 (fun e => by have := Kd.R_base ho _ e.symm; omega); have hbc1 := hb1.cell; have hbf1 := hb1.frozen)
  have e : (pre ++ [x]).length = pre.length + 1 := by simp
  rw [e] at ho1
  refine ⟨⟨fun k o hk h hc => ?_, ?_, ?_⟩, ⟨_, hb1.set _, ho1.set (B := w.heap.size + 1) (by omega) _, ?_⟩⟩
  ·have hne1 : some k ≠ v.ownBlock := fun e => by obtain ⟨cells, hcl⟩ := Kd.R_typed ho k e.symm; rw [h] at hcl; cases hcl; cases hc
   have hneB : k ≠ w.heap.size + 1 := by
    rintro rfl
    have hbb : W.heap[w.heap.size + 1]? = some (.cells #[v] 22 (0, 0)) := hb
    rw [h] at hbb; cases hbb; cases hc
   exact (Below.heap_setCell w1 ⟨w.heap.size + 1, 0, none⟩ _ k hneB).trans ((hg1.block k (Array.getElem?_eq_some_iff.1 h).1 hne1).trans h)
  ·exact (Below.heap_setCell w1 ⟨w.heap.size + 1, 0, none⟩ _ w.heap.size (by show w.heap.size ≠ w.heap.size + 1; omega)).trans (hg1.block w.heap.size (by omega) (fun e => by have := Kd.R_base ho _ e.symm; omega))
  ·exact ((Below.refl w.heap.size W).grown hg1 (by omega) (fun k e => by have := Kd.R_base ho k e; omega)).setCell (p := ⟨w.heap.size + 1, 0, none⟩) (by show w.heap.size ≤ w.heap.size + 1; omega) _
  ·have := hg1.size
   simpa [World.setCell] using Nat.le_trans hs2 this
 case done =>
  rintro D W hD ⟨v, hb, ho, hs2⟩ hS hB hK
  have hbc := hb.cell
  have hS3 := cellS88_3 hS.1
  have hS4 := cellS88_4 hS.1
  by_cases h0 : r.2.2.1 = 0
  ·gi_wp2
   have hD' : w.heap.size ≤ D := Nat.le_trans (by simp; omega) hD
   refine ⟨by simp, .inl ⟨_, _, rfl, run_takeDeferred hK, ?_⟩⟩
   refine ⟨.tuple #[v, .int .i64 0, .int .i64 0], by simp [results, Tryz.f12, go_sem], v, rfl, Kd.R_lower (ho.put _ hK rfl) (by omega), hB.trans (belowK_b (w := w) (Nat.le_refl _) W D _ _ hD' hK rfl rfl)⟩
  ·gi_wp2
   gi_region
   all_goals gi_wp2
   have hD' : w.heap.size ≤ D := Nat.le_trans (by simp; omega) hD
   have hK' : W.drew.heap[D]? = some (.deferred (some [])) := hK
   refine ⟨by simp, .inl ⟨_, _, rfl, run_takeDeferred hK', ?_⟩⟩
   refine ⟨.tuple #[.slice none 0 0, .int .i64 r.2.2.2, .int .i64 r.2.2.1], by simp [results, Tryz.f12, go_sem], .slice none 0 0, rfl, Kd.R_nil _ _ _ _ _, (below_drew1 hB).trans (belowK_b (w := w) (Nat.le_refl _) W.drew D _ _ hD' hK' rfl rfl)⟩
end Go.Proofs.YtjlclkenfmbahaaGreatDoor.PA
