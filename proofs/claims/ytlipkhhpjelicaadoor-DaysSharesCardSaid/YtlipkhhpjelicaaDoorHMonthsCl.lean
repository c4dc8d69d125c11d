/- The contract of the iterator that days.Months hands back, where it is called with a closure of levylaw2.pieces, walked by hand: for every from and to it gives the months of the span, one by one, and stops where the closure says so. Condition: the world holds the table of the months' lengths ('Tabs'). -/
import Derived.Test.YtlipkhhpjelicaaDoorHMonths
import Derived.RangeFuncNested
import Derived.RangeFuncBound
import Derived.RangeFuncCalls
import Derived.RangeFuncLeaves
import Derived.Shelf.Abstract
import Derived.Shelf.RegionOpen
import Derived.WalkKit
import Derived.OwnWalkIn
import Derived.TacticsInMore
import Derived.LoopNIn
import Derived.LoopIn
import Derived.Test.YtlipkhhpjelicaaDoorPAx0
import Derived.Test.YtlipkhhpjelicaaDoorPAx2
import Derived.Test.YtlipkhhpjelicaaDoorPAx6
namespace Go.Proofs.YtlipkhhpjelicaaDoor.PA
open Go.RowKit Go.Shelf Go.Proofs.YtlipkhhpjelicaaDoorW.PrintWords Go.Proofs.YtlipkhhpjelicaaDoorW.PrintLast Go.Proofs.YtlipkhhpjelicaaDoorW.PrintMore Go.Proofs.YtlipkhhpjelicaaDoor.Days Go.Proofs.YtlipkhhpjelicaaDoor.Cal
attribute [local go_sem] Oper.semAt_some
attribute [local go_sem] max2_int min2_int max_two min_two
set_option linter.unusedVariables false
set_option linter.unusedSimpArgs false

set_option maxRecDepth 100000 in
set_option maxHeartbeats 8000000 in
theorem months_loop_cl (fn0 : Func) (hfn : fn0 = Tryd.f44) (m : Nat) (p0 p1 p2 p3 : Value) (hm : 1 ≤ m) (Ba Bb : Nat) (n0 la : Int) (xs : List Pc) (hl : la ≤ 109572) (h00 : 0 ≤ n0) (hxs : MF la n0 xs) (J Jx : List Pc → World → Prop)
    (W : World) (hT : Tabs W) (hJ : ∀ pre X Y, J pre X → Below X.heap.size X Y → J pre Y)
    (hY : ∀ pre (x : Pc) W1, J pre W1 → pre.length < xs.length → Calls Tryd.prog 46 #[.agg #[.int .i64 x.1.1, .int .i64 x.1.2.1, .int .i64 x.1.2.2], .int .i64 x.2, p0, p1, p2, p3] W1 fun e W' =>
      ∃ c : Bool, e = .returned (.bool c) ∧ (c = true → J (pre ++ [x]) W' ∧ Below 1 W1 W') ∧ (c = false → Jx (pre ++ [x]) W'))
    (h0 : J [] W) (u6 u7 u8 u9 u10 u11 u12 u13 u14 u15 u16 u17 u18 u19 u20 u21 u22 u23 u24 u25 u26 u27 u28 u29 u30 u31 u32 u33 u34 u35 u36 u37 : Value) :
    monthsLoop.wpIn Fence.wide m Tryd.prog (Exit.inBlock 0 (bodyPost Tryd.prog fn0 (fun e W' => (∃ v, e = .returned v) ∧ ((∃ ys, ys = xs ∧ J ys W') ∨ (∃ pre, pre <+: xs ∧ Jx pre W')))))
      { tmps := #[.func (.func 46) #[] #[p0, p1, p2, p3], .pointer (some ⟨Bb, 0, none⟩), .pointer (some ⟨Ba, 0, none⟩), undef, .int .i64 la, .int .i64 n0, u6, u7, u8, u9, u10, u11, u12, u13, u14, u15, u16, u17, u18, u19, u20, u21, u22, u23, u24, u25, u26, u27, u28, u29, u30, u31, u32, u33, u34, u35, u36, u37], defers := [] } W := by
  have hmx : Tryd.prog.follows .mixedOrders = true := by kernel_rfl
  have HFN := Aside0.mk hfn
  clear hfn
  unfold monthsLoop
  simp only [Tryd.f44]
  gi_loopw [5] (fun p wr => ∃ (pre rest : List Pc) (n : Int), p = .int .i64 n ∧ xs = pre ++ rest ∧ MF la n rest ∧ 0 ≤ n ∧ Tabs wr ∧ J pre wr) (fun p wr => (la + 1 - intOf p).toNat)
  case atStart =>
    exact ⟨[], xs, n0, congrArg (Value.int .i64) (by omega), rfl, hxs, by omega, hT, h0⟩
  case round =>
    obtain ⟨pre, rest, n, rfl, hx, hmf, h0n, hTr, hJs⟩ := hrel
    cases hmf with
    | nil hlt =>
      have hc2 : ¬ n ≤ la := by omega
      gi_wp2
      obtain rfl := HFN.out
      go_end0
      exact ⟨⟨_, rfl⟩, .inl hJs⟩
    | @cons _ k rest hk hle hr =>
      obtain ⟨K, hK⟩ := date_p hk
      have hd := hK K (Nat.le_refl _)
      have hlE := last_p 0 (dateS n k).1 (dateS n k).2.1
      obtain ⟨q, hq⟩ : ∃ q : Int × Int × Int, q = dateS n k := ⟨_, rfl⟩
      rw [← hq] at hd hlE hx
      obtain ⟨y, mo, dd⟩ := q
      have hc3 : n ≤ la := by omega
      gi_wp2_with (refine ⟨trivial, ?_⟩; gi_at_call 45; (with_reducible refine (callsIn_wide.2 (days_date.calls K n y mo dd _ hTr hd)).mono ?_); rintro e w1 ⟨rfl, hB1⟩)
      have hbk := World.alloc_heap_new w1 (.cells #[.int .i64 y, .int .i64 mo, .int .i64 dd] 33)
      have hB2 : Below wr.heap.size wr (w1.alloc (.cells #[.int .i64 y, .int .i64 mo, .int .i64 dd] 33)) := hB1.alloc hB1.size _
      obtain ⟨W2, hW2⟩ : ∃ W2, w1.alloc (.cells #[.int .i64 y, .int .i64 mo, .int .i64 dd] 33) = W2 := ⟨_, rfl⟩
      rw [hW2] at hbk hB2 ⊢
      have c0 := (blk_cell hbk 0).trans rfl
      have c1 := (blk_cell hbk 1).trans rfl
      have c2 := (blk_cell hbk 2).trans rfl
      have hT1 := hTr.below hB2
      have hT2 := hT1.drew
      have hE := Aside0.mk (month_facts (last := la) hk hq hle hl)
      obtain ⟨sz, hsz⟩ : ∃ sz, sz = min (B (k + 1)) (la + 1) - n := ⟨_, rfl⟩
      rw [← hsz] at hx hE
      have HS := Aside0.mk hsz
      clear hsz
      refine wpIn_mono (Q := Exit.then (fun a' w' => (∃ nd, w' = W2.drewN nd) ∧ ∃ V x12 x13 x14 x15 x16 x17 x18 x19 x20 x21 x22 x23 x24 x25 x26 x27 x28 x29 x30 x31 x32 x33 x34 x35 x36 x37, V = Value.int .i64 sz ∧ a' = { tmps := #[.func (.func 46) #[] #[p0, p1, p2, p3], .pointer (some ⟨Bb, 0, none⟩), .pointer (some ⟨Ba, 0, none⟩), undef, .int .i64 (la), .int .i64 n, .pointer (some ⟨w1.heap.size, 0, none⟩), V, u8, u9, u10, u11, x12, x13, x14, x15, x16, x17, x18, x19, x20, x21, x22, x23, x24, x25, x26, x27, x28, x29, x30, x31, x32, x33, x34, x35, x36, x37], defers := [] }) (fun _ _ _ => False)) ?region ?rest
      case region =>
        have HR := Aside0.mk hr
        clear hr
        gi_region_with_o (refine ⟨trivial, ?_⟩; gi_at_call 17; (with_reducible refine (callsIn_wide.2 (days_Last.calls 1 y mo _ _ hT2 hlE)).mono ?_); rintro e w' ⟨rfl, ⟨nd, rfl⟩⟩)
        all_goals refine ⟨⟨1 + nd, rfl⟩, _, _, _, _, _, _, _, _, _, _, _, _, _, _, _, _, _, _, _, _, _, _, _, _, _, _, _, ?_, rfl⟩
        all_goals exact congrArg (Value.int .i64) (hE.out la rfl)
      case rest =>
        rintro e a' w' h
        cases e with
        | normal =>
          obtain ⟨⟨nd, rfl⟩, V, x12, x13, x14, x15, x16, x17, x18, x19, x20, x21, x22, x23, x24, x25, x26, x27, x28, x29, x30, x31, x32, x33, x34, x35, x36, x37, rfl, rfl⟩ := h
          have hJ2 : J pre (W2.drewN nd) := hJ _ _ _ hJs (pw_below_drewN hB2 _)
          have hYc := hY pre ((y, mo, dd), sz) (W2.drewN nd) hJ2 (by rw [hx]; simp)
          have HY := Aside0.mk hY
          clear hY
          gi_wp2_with (refine ⟨trivial, ?_⟩; gi_at_call 46; (with_reducible refine (callsIn_wide.2 hYc).mono ?_); rintro e W3 ⟨c, rfl, hgo, hend⟩; clear hYc; cases c)
          · obtain rfl := HFN.out
            refine bodyPost_ret (results_none rfl _ _ _) rfl ?_
            exact ⟨⟨_, rfl⟩, .inr ⟨pre ++ [((y, mo, dd), sz)], ⟨rest, by simp [hx]⟩, hend trivial⟩⟩
          · obtain ⟨hJ3, hk3⟩ := hgo trivial
            have hT3 := (hT1.drewN nd).one hk3
            have hns : wrap64 (n + sz) = min (B (k + 1)) (la + 1) := month_next hk hle hl HS.out
            exact ⟨⟨pre ++ [((y, mo, dd), sz)], rest, min (B (k + 1)) (la + 1), congrArg (Value.int .i64) hns, by simp [hx], hr, month_pos hk hle, hT3, hJ3⟩, month_less hk hle hns⟩
        | _ => exact h.elim


set_option maxRecDepth 100000 in
set_option maxHeartbeats 2000000 in
/-- **The iterator's contract.** -/
theorem months_cl (m : Nat) (p0 p1 p2 p3 : Value) (hm : 1 ≤ m) (Ba Bb : Nat) (a b : Int) (xs : List Pc) (hxs : MF (min b 109572) (max a 0) xs) (J Jx : List Pc → World → Prop)
    (W : World) (hT : Tabs W) (ha : W.cell? ⟨Ba, 0, none⟩ = some (.int .i64 a)) (hb : W.cell? ⟨Bb, 0, none⟩ = some (.int .i64 b))
    (hJ : ∀ pre X Y, J pre X → Below X.heap.size X Y → J pre Y)
    (hY : ∀ pre (x : Pc) W1, J pre W1 → pre.length < xs.length → Calls Tryd.prog 46 #[.agg #[.int .i64 x.1.1, .int .i64 x.1.2.1, .int .i64 x.1.2.2], .int .i64 x.2, p0, p1, p2, p3] W1 fun e W' =>
      ∃ c : Bool, e = .returned (.bool c) ∧ (c = true → J (pre ++ [x]) W' ∧ Below 1 W1 W') ∧ (c = false → Jx (pre ++ [x]) W'))
    (h0 : J [] W) :
    CallsIn Fence.wide m Tryd.prog 44 #[.func (.func 46) #[] #[p0, p1, p2, p3], .pointer (some ⟨Bb, 0, none⟩), .pointer (some ⟨Ba, 0, none⟩)] W (fun e W' => (∃ v, e = .returned v) ∧ ((∃ ys, ys = xs ∧ J ys W') ∨ (∃ pre, pre <+: xs ∧ Jx pre W'))) := by
  refine callsIn_of_wp Tryd.func44 rfl trivial ?_ rfl
  simp only [Tryd.ntmps44, List.size_toArray, List.length_cons, List.length_nil, Nat.reduceAdd, Nat.reduceSub, Array.replicate_succ, Array.replicate_zero, List.push_toArray, List.append_toArray, List.nil_append, List.cons_append]
  gi_wp2
  · exact months_loop_cl Tryd.f44 rfl m p0 p1 p2 p3 hm Ba Bb 0 109572 xs (by omega) (by omega) (by have e1 : min b 109572 = 109572 := (by omega); have e2 : max a 0 = 0 := (by omega); rw [e1, e2] at hxs; exact hxs) J Jx W hT hJ hY h0 _ _ _ _ _ _ _ _ _ _ _ _ _ _ _ _ _ _ _ _ _ _ _ _ _ _ _ _ _ _ _ _
  · exact months_loop_cl Tryd.f44 rfl m p0 p1 p2 p3 hm Ba Bb a 109572 xs (by omega) (by omega) (by have e1 : min b 109572 = 109572 := (by omega); have e2 : max a 0 = a := (by omega); rw [e1, e2] at hxs; exact hxs) J Jx W hT hJ hY h0 _ _ _ _ _ _ _ _ _ _ _ _ _ _ _ _ _ _ _ _ _ _ _ _ _ _ _ _ _ _ _ _
  · exact months_loop_cl Tryd.f44 rfl m p0 p1 p2 p3 hm Ba Bb 0 b xs (by omega) (by omega) (by have e1 : min b 109572 = b := (by omega); have e2 : max a 0 = 0 := (by omega); rw [e1, e2] at hxs; exact hxs) J Jx W hT hJ hY h0 _ _ _ _ _ _ _ _ _ _ _ _ _ _ _ _ _ _ _ _ _ _ _ _ _ _ _ _ _ _ _ _
  · exact months_loop_cl Tryd.f44 rfl m p0 p1 p2 p3 hm Ba Bb a b xs (by omega) (by omega) (by have e1 : min b 109572 = b := (by omega); have e2 : max a 0 = a := (by omega); rw [e1, e2] at hxs; exact hxs) J Jx W hT hJ hY h0 _ _ _ _ _ _ _ _ _ _ _ _ _ _ _ _ _ _ _ _ _ _ _ _ _ _ _ _ _ _ _ _

end Go.Proofs.YtlipkhhpjelicaaDoor.PA
