/- The contract of the iterator that days.Months hands back, walked by hand: for every from and to it gives the months of the span, one by one, and stops where a round says so. Condition: the world holds the table of the months' lengths ('Tabs'). -/
import Derived.Test.YtlipkhhpjelicaaDoorMonths
import Derived.RangeFuncNested
import Derived.RangeFuncBound
import Derived.RangeFuncCalls
import Derived.RangeFuncLeaves
import Derived.Shelf.Abstract
import Derived.Shelf.RegionOpen
import Derived.WalkKit
import Derived.OwnWalkIn
import Derived.TacticsInMore
import Derived.LoopNIn
import Derived.LoopIn
import Derived.Test.YtlipkhhpjelicaaDoorPAx0
import Derived.Test.YtlipkhhpjelicaaDoorPAx2
import Derived.Test.YtlipkhhpjelicaaDoorPAx6
namespace Go.Proofs.YtlipkhhpjelicaaDoor.PA
open Go.RowKit Go.Shelf Go.Proofs.YtlipkhhpjelicaaDoorW.PrintWords Go.Proofs.YtlipkhhpjelicaaDoorW.PrintLast Go.Proofs.YtlipkhhpjelicaaDoorW.PrintMore Go.Proofs.YtlipkhhpjelicaaDoor.Days Go.Proofs.YtlipkhhpjelicaaDoor.Cal
attribute [local go_sem] Oper.semAt_some
attribute [local go_sem] max2_int min2_int max_two min_two
set_option linter.unusedVariables false
set_option linter.unusedSimpArgs false

/-- A piece as the round is handed it. -/
abbrev encPc (x : Pc) : Array Value := #[.agg #[.int .i64 x.1.1, .int .i64 x.1.2.1, .int .i64 x.1.2.2], .int .i64 x.2]

theorem Tabs.one {w w' : World} (h : Tabs w) (hb : Below 1 w w') : Tabs w' :=
  ⟨Nat.le_trans h.size hb.size, fun i a b => (hb.cell (p := ⟨0, i.toNat, none⟩) (show 0 < 1 by decide)).trans (h.c0 i a b)⟩

theorem month_facts {last : Int} {n : Int} {k : Nat} {y mo dd : Int} (hk : Mon n k) (hq : (y, mo, dd) = dateS n k) (hle : n ≤ last) (hl : last ≤ 109572) (T : Int) (hT : T = last) :
    IntKind.i64.wrap ((if IntKind.i64.wrap (T - n) < IntKind.i64.wrap (lastD y mo - dd) then IntKind.i64.wrap (T - n) else IntKind.i64.wrap (lastD y mo - dd)) + 1) = min (B (k + 1)) (last + 1) - n := by
  subst hT
  obtain ⟨rfl, h2⟩ := Prod.mk.inj hq
  obtain ⟨rfl, rfl⟩ := Prod.mk.inj h2
  have hL : lastD (1900 + ((k / 12 : Nat) : Int)) (((k % 12 : Nat) : Int) + 1) = Cal.len k := rfl
  have hkl := hk.2.1
  have hku : n < B k + Cal.len k := hk.2.2
  have hlb := len_bd k
  have hB0 := B_nonneg k
  have hBs : B (k + 1) = B k + Cal.len k := rfl
  rw [hL]
  simp only [i64_w]
  rw [wr (x := T - n) (by omega) (by omega), wr (x := Cal.len k - (n - B k + 1)) (by omega) (by omega), hBs]
  split
  · rw [wr (by omega) (by omega)]; omega
  · rw [wr (by omega) (by omega)]; omega
theorem month_next {last n sz : Int} {k : Nat} (hk : Mon n k) (hle : n ≤ last) (hl : last ≤ 109572) (hsz : sz = min (B (k + 1)) (last + 1) - n) : wrap64 (n + sz) = min (B (k + 1)) (last + 1) := by
  have := hk.2.2
  have := hk.day
  rw [hsz, wr (by omega) (by omega)]; omega
theorem month_pos {last n : Int} {k : Nat} (hk : Mon n k) (hle : n ≤ last) : 0 ≤ min (B (k + 1)) (last + 1) := by
  have := hk.2.2
  have := hk.day
  omega
theorem month_less {last n z : Int} {k : Nat} (hk : Mon n k) (hle : n ≤ last) (hz : z = min (B (k + 1)) (last + 1)) : (last + 1 - z).toNat < (last + 1 - n).toNat := by
  have := hk.2.2
  omega

/-- The loop of the iterator's code. -/
noncomputable def monthsLoop : Code := match Tryd.f44.body with
  | some (.seq _ (.seq _ (.block _ c))) => c
  | _ => .skip

set_option maxRecDepth 100000 in
set_option maxHeartbeats 8000000 in
theorem months_loop (fn0 : Func) (hfn : fn0 = Tryd.f44) (m l : Nat) (hm : 1 ≤ m) (Ba Bb : Nat) (n0 la : Int) (xs : List Pc) (hl : la ≤ 109572) (h00 : 0 ≤ n0) (hxs : MF la n0 xs) (J Jx : List Pc → World → Prop)
    (W : World) (hT : Tabs W) (hJ : AbidesFrom W.heap.size J)
    (hY : ∀ pre x W1, J pre W1 → pre.length < xs.length → YieldAt Fence.wide (m - 1) Tryd.prog l (encPc x) W1 fun e W' =>
      (e = .returned (.bool true) ∧ J (pre ++ [x]) W' ∧ Below 1 W1 W') ∨ (e = .returned (.bool false) ∧ Jx (pre ++ [x]) W'))
    (h0 : J [] W) (u6 u7 u8 u9 u10 u11 u12 u13 u14 u15 u16 u17 u18 u19 u20 u21 u22 u23 u24 u25 u26 u27 u28 u29 u30 u31 u32 u33 u34 u35 u36 u37 : Value) :
    monthsLoop.wpIn Fence.wide m Tryd.prog (Exit.inBlock 0 (bodyPost Tryd.prog fn0 (fun e W' => (∃ v, e = .returned v) ∧ ((∃ ys, ys = xs ∧ J ys W') ∨ (∃ pre, pre <+: xs ∧ Jx pre W')))))
      { tmps := #[.func (.yield l) #[] #[], .pointer (some ⟨Bb, 0, none⟩), .pointer (some ⟨Ba, 0, none⟩), undef, .int .i64 la, .int .i64 n0, u6, u7, u8, u9, u10, u11, u12, u13, u14, u15, u16, u17, u18, u19, u20, u21, u22, u23, u24, u25, u26, u27, u28, u29, u30, u31, u32, u33, u34, u35, u36, u37], defers := [] } W := by
  have hmx : Tryd.prog.follows .mixedOrders = true := by kernel_rfl
  have HFN := Aside0.mk hfn
  clear hfn
  unfold monthsLoop
  simp only [Tryd.f44]
  gi_loopw [5] (fun p wr => ∃ (pre rest : List Pc) (n : Int), p = .int .i64 n ∧ xs = pre ++ rest ∧ MF la n rest ∧ 0 ≤ n ∧ Tabs wr ∧ J pre wr) (fun p wr => (la + 1 - intOf p).toNat)
  case atStart =>
    exact ⟨[], xs, n0, congrArg (Value.int .i64) (by omega), rfl, hxs, by omega, hT, h0⟩
  case round =>
    obtain ⟨pre, rest, n, rfl, hx, hmf, h0n, hTr, hJs⟩ := hrel
    cases hmf with
    | nil hlt =>
      have hc2 : ¬ n ≤ la := by omega
      gi_wp2
      obtain rfl := HFN.out
      go_end0
      exact ⟨⟨_, rfl⟩, .inl hJs⟩
    | @cons _ k rest hk hle hr =>
      obtain ⟨K, hK⟩ := date_p hk
      have hd := hK K (Nat.le_refl _)
      have hlE := last_p 0 (dateS n k).1 (dateS n k).2.1
      obtain ⟨q, hq⟩ : ∃ q : Int × Int × Int, q = dateS n k := ⟨_, rfl⟩
      rw [← hq] at hd hlE hx
      obtain ⟨y, mo, dd⟩ := q
      have hc3 : n ≤ la := by omega
      gi_wp2_with (refine ⟨trivial, ?_⟩; gi_at_call 45; (with_reducible refine (callsIn_wide.2 (days_date.calls K n y mo dd _ hTr hd)).mono ?_); rintro e w1 ⟨rfl, hB1⟩)
      have hbk := World.alloc_heap_new w1 (.cells #[.int .i64 y, .int .i64 mo, .int .i64 dd] 33)
      have hB2 : Below wr.heap.size wr (w1.alloc (.cells #[.int .i64 y, .int .i64 mo, .int .i64 dd] 33)) := hB1.alloc hB1.size _
      obtain ⟨W2, hW2⟩ : ∃ W2, w1.alloc (.cells #[.int .i64 y, .int .i64 mo, .int .i64 dd] 33) = W2 := ⟨_, rfl⟩
      rw [hW2] at hbk hB2 ⊢
      have c0 := (blk_cell hbk 0).trans rfl
      have c1 := (blk_cell hbk 1).trans rfl
      have c2 := (blk_cell hbk 2).trans rfl
      have hT1 := hTr.below hB2
      have hT2 := hT1.drew
      have hE := Aside0.mk (month_facts (last := la) hk hq hle hl)
      obtain ⟨sz, hsz⟩ : ∃ sz, sz = min (B (k + 1)) (la + 1) - n := ⟨_, rfl⟩
      rw [← hsz] at hx hE
      have HS := Aside0.mk hsz
      clear hsz
      refine wpIn_mono (Q := Exit.then (fun a' w' => (∃ nd, w' = W2.drewN nd) ∧ ∃ V x12 x13 x14 x15 x16 x17 x18 x19 x20 x21 x22 x23 x24 x25 x26 x27 x28 x29 x30 x31 x32 x33 x34 x35 x36 x37, V = Value.int .i64 sz ∧ a' = { tmps := #[.func (.yield l) #[] #[], .pointer (some ⟨Bb, 0, none⟩), .pointer (some ⟨Ba, 0, none⟩), undef, .int .i64 (la), .int .i64 n, .pointer (some ⟨w1.heap.size, 0, none⟩), V, u8, u9, u10, u11, x12, x13, x14, x15, x16, x17, x18, x19, x20, x21, x22, x23, x24, x25, x26, x27, x28, x29, x30, x31, x32, x33, x34, x35, x36, x37], defers := [] }) (fun _ _ _ => False)) ?region ?rest
      case region =>
        have HR := Aside0.mk hr
        clear hr
        gi_region_with_o (refine ⟨trivial, ?_⟩; gi_at_call 17; (with_reducible refine (callsIn_wide.2 (days_Last.calls 1 y mo _ _ hT2 hlE)).mono ?_); rintro e w' ⟨rfl, ⟨nd, rfl⟩⟩)
        all_goals refine ⟨⟨1 + nd, rfl⟩, _, _, _, _, _, _, _, _, _, _, _, _, _, _, _, _, _, _, _, _, _, _, _, _, _, _, _, ?_, rfl⟩
        all_goals exact congrArg (Value.int .i64) (hE.out la rfl)
      case rest =>
        rintro e a' w' h
        cases e with
        | normal =>
          obtain ⟨⟨nd, rfl⟩, V, x12, x13, x14, x15, x16, x17, x18, x19, x20, x21, x22, x23, x24, x25, x26, x27, x28, x29, x30, x31, x32, x33, x34, x35, x36, x37, rfl, rfl⟩ := h
          have hJ2 : J pre (W2.drewN nd) := hJ _ _ _ none hJs (grown_of_below (pw_below_drewN hB2 _) none) (fun r e => by cases e)
          obtain ⟨fn, tmps, assign, body, hy, hR⟩ := hY pre ((y, mo, dd), sz) (W2.drewN nd) hJ2 (by rw [hx]; simp)
          dsimp only [encPc] at hy
          gi_wp2
          refine hR.mono ?_
          rintro e W3 (⟨rfl, hJ3, hk3⟩ | ⟨rfl, hJx3⟩)
          · have hT3 := (hT1.drewN nd).one hk3
            have hns : wrap64 (n + sz) = min (B (k + 1)) (la + 1) := month_next hk hle hl HS.out
            gi_wp2
            refine ⟨?_, ?measure⟩
            (repeat apply Exists.intro)
            exact ⟨congrArg (Value.int .i64) hns, (show xs = (pre ++ [((y, mo, dd), sz)]) ++ rest by simp [hx]), hr, month_pos hk hle, hT3, hJ3⟩
            case measure => exact month_less hk hle hns
          · gi_wp2
            obtain rfl := HFN.out
            refine bodyPost_ret (results_none rfl _ _ _) rfl ?_
            exact ⟨⟨_, rfl⟩, .inr ⟨pre ++ [((y, mo, dd), sz)], ⟨rest, by simp [hx]⟩, hJx3⟩⟩
        | _ => exact h.elim


set_option maxRecDepth 100000 in
set_option maxHeartbeats 2000000 in
/-- **The iterator's contract.** -/
theorem months_in (m l : Nat) (hm : 1 ≤ m) (Ba Bb : Nat) (a b : Int) (xs : List Pc) (hxs : MF (min b 109572) (max a 0) xs) (J Jx : List Pc → World → Prop)
    (W : World) (hT : Tabs W) (ha : W.cell? ⟨Ba, 0, none⟩ = some (.int .i64 a)) (hb : W.cell? ⟨Bb, 0, none⟩ = some (.int .i64 b))
    (hJ : AbidesFrom W.heap.size J)
    (hY : ∀ pre x W1, J pre W1 → pre.length < xs.length → YieldAt Fence.wide (m - 1) Tryd.prog l (encPc x) W1 fun e W' =>
      (e = .returned (.bool true) ∧ J (pre ++ [x]) W' ∧ Below 1 W1 W') ∨ (e = .returned (.bool false) ∧ Jx (pre ++ [x]) W'))
    (h0 : J [] W) :
    CallsIn Fence.wide m Tryd.prog 44 #[.func (.yield l) #[] #[], .pointer (some ⟨Bb, 0, none⟩), .pointer (some ⟨Ba, 0, none⟩)] W (fun e W' => (∃ v, e = .returned v) ∧ ((∃ ys, ys = xs ∧ J ys W') ∨ (∃ pre, pre <+: xs ∧ Jx pre W'))) := by
  refine callsIn_of_wp Tryd.func44 rfl trivial ?_ rfl
  simp only [Tryd.ntmps44, List.size_toArray, List.length_cons, List.length_nil, Nat.reduceAdd, Nat.reduceSub, Array.replicate_succ, Array.replicate_zero, List.push_toArray, List.append_toArray, List.nil_append, List.cons_append]
  gi_wp2
  · exact months_loop Tryd.f44 rfl m l hm Ba Bb 0 109572 xs (by omega) (by omega) (by have e1 : min b 109572 = 109572 := (by omega); have e2 : max a 0 = 0 := (by omega); rw [e1, e2] at hxs; exact hxs) J Jx W hT hJ hY h0 _ _ _ _ _ _ _ _ _ _ _ _ _ _ _ _ _ _ _ _ _ _ _ _ _ _ _ _ _ _ _ _
  · exact months_loop Tryd.f44 rfl m l hm Ba Bb a 109572 xs (by omega) (by omega) (by have e1 : min b 109572 = 109572 := (by omega); have e2 : max a 0 = a := (by omega); rw [e1, e2] at hxs; exact hxs) J Jx W hT hJ hY h0 _ _ _ _ _ _ _ _ _ _ _ _ _ _ _ _ _ _ _ _ _ _ _ _ _ _ _ _ _ _ _ _
  · exact months_loop Tryd.f44 rfl m l hm Ba Bb 0 b xs (by omega) (by omega) (by have e1 : min b 109572 = b := (by omega); have e2 : max a 0 = 0 := (by omega); rw [e1, e2] at hxs; exact hxs) J Jx W hT hJ hY h0 _ _ _ _ _ _ _ _ _ _ _ _ _ _ _ _ _ _ _ _ _ _ _ _ _ _ _ _ _ _ _ _
  · exact months_loop Tryd.f44 rfl m l hm Ba Bb a b xs (by omega) (by omega) (by have e1 : min b 109572 = b := (by omega); have e2 : max a 0 = a := (by omega); rw [e1, e2] at hxs; exact hxs) J Jx W hT hJ hY h0 _ _ _ _ _ _ _ _ _ _ _ _ _ _ _ _ _ _ _ _ _ _ _ _ _ _ _ _ _ _ _ _

end Go.Proofs.YtlipkhhpjelicaaDoor.PA
