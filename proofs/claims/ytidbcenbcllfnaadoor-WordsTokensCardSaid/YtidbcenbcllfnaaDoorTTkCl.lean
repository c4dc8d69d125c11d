/- The iterator that words.Tokens hands back, called with a closure of levylaw4.gone, walked by hand: the tokens one by one, until the closure says no. Condition: a world that holds the tables ('Tabs'). -/
import Derived.Test.YtidbcenbcllfnaaDoorTTkBase
import Derived.Test.YtidbcenbcllfnaaDoorTScScan
import Derived.Test.YtidbcenbcllfnaaDoorTPAx0
import Derived.Test.YtidbcenbcllfnaaDoorTK
namespace Go.Proofs.YtidbcenbcllfnaaDoor.PA
open Go.RowKit Go.Shelf Go.Proofs.YtidbcenbcllfnaaDoorW.PrintWords Go.Proofs.YtidbcenbcllfnaaDoorW.PrintLast Go.Proofs.YtidbcenbcllfnaaDoorW.PrintMore
attribute [local go_sem] Oper.semAt_some
set_option linter.unusedVariables false
set_option linter.unusedSimpArgs false

theorem below_put {n : Nat} {w0 X : World} {l : Nat} {o : Obj} (o' : Obj) (h : Below n w0 X) (hl : X.heap[l]? = some o) (hn : n ≤ l) : Below n w0 (X.putObj l o') :=
  h.grown (grownBy_putObj' X l o') (by have := (Array.getElem?_eq_some_iff.1 hl).1; omega) (fun k e => by cases e; exact hn)

set_option maxRecDepth 100000 in
set_option maxHeartbeats 8000000 in
theorem toks1_cl (q0 q1 q2 q3 : Value) (s : ByteArray) (w0 w : World) (hT : Tabs w0) (hBw : Below w0.heap.size w0 w) (B : Nat) (ht : Boxed w B 9 (.string s))
    (xs : List S33) (hbig : 8000 < s.size → xs = []) (hG : ¬ 8000 < s.size → ∃ r, Gives (NXs s) 0 false xs r) (hN : xs.length ≤ 20000)
    (J Jx : List S33 → World → Prop)
    (hJk : ∀ pre X Y, J pre X → KeepBut X Y (w.heap.size + 1) none → J pre Y)
    (hJp : ∀ pre X (l : Nat) (o o' : Obj), J pre X → w.heap.size ≤ l → X.heap[l]? = some o → o.isCells = false → J pre (X.putObj l o'))
    (hJxp : ∀ pre X (l : Nat) (o o' : Obj), Jx pre X → w.heap.size ≤ l → X.heap[l]? = some o → o.isCells = false → Jx pre (X.putObj l o'))
    (hJn : ∀ pre X u, J pre X → J pre (X.setCell ⟨w.heap.size + 1 + 1, 0, none⟩ u))
    (hY : ∀ pre (x : S33) W1, J pre W1 → w.heap.size + 3 ≤ W1.heap.size → pre.length < 20000 → Calls Tryd.prog 29 #[.int .i64 (pre.length : Int), tokV x, q0, q1, q2, q3] W1 fun e W' =>
      ∃ c : Bool, e = .returned (.bool c) ∧ Below w0.heap.size W1 W' ∧ KeepT W1 W' ∧ (c = true → J (pre ++ [x]) W') ∧ (c = false → Jx (pre ++ [x]) W'))
    (h0 : J [] w) :
    Calls Tryd.prog 50 #[(.func (.func 29) #[] #[q0, q1, q2, q3]), .pointer (some ⟨B, 0, none⟩)] w fun e W' => (∃ v, e = .returned v) ∧ Below w0.heap.size w0 W' ∧ (J xs W' ∨ ∃ pre, pre <+: xs ∧ Jx pre W') := by
  have hBt := ht.lt
  have hsz0 := hBw.size
  have cB := (ht.alloc (.cells #[(.func (.func 29) #[] #[q0, q1, q2, q3])] 57)).cell
  refine (callsIn_wide (n := 6)).1 ?_
  refine callsIn_of_wp_marks Tryd.func50 rfl trivial ?_ rfl
  simp only [Tryd.ntmps50, List.size_toArray, List.length_cons, List.length_nil, Nat.reduceAdd, Nat.reduceSub, Array.replicate_succ, Array.replicate_zero, List.push_toArray, List.append_toArray, List.nil_append, List.cons_append]
  by_cases hs : 8000 < s.size
  · have k8 : ((8000 : Int) < (s.size : Int)) = True := eq_true (by omega)
    have k8n : (8000 < s.size) = True := eq_true hs
    gi_wp2
    exact ⟨_, results_none rfl _ _ _, ⟨_, rfl⟩, below_alloc hBw _, .inl (by rw [hbig hs]; exact hJk _ _ _ h0 (keep_alloc (KeepBut.refl w _ none) _))⟩
  · have k8 : ((8000 : Int) < (s.size : Int)) = False := eq_false (by omega)
    have k8n : (8000 < s.size) = False := eq_false hs
    obtain ⟨r, hGr⟩ := hG hs
    gi_wp2
    have hGb := World.alloc_heap_new (w.alloc (.cells #[(.func (.func 29) #[] #[q0, q1, q2, q3])] 57)) (.cells #[.string s, .int .i64 0, .bool false, .int .i64 0, .int .i64 0] 50)
    rw [World.size_alloc] at hGb
    have hIS : IsS50 w0 (((w.alloc (.cells #[(.func (.func 29) #[] #[q0, q1, q2, q3])] 57)).alloc (.cells #[.string s, .int .i64 0, .bool false, .int .i64 0, .int .i64 0] 50)).alloc (.cells #[.int .i64 0] 3)) (w.heap.size + 1) s ((0 : Nat) : Int) false 0 0 := IsS50.alloc ⟨hGb, by omega⟩ _
    refine range_all 6 (by decide) (w.heap.size + 1) rfl rfl s w0 (NXs s) (next_is hs w0 _ hT) next_le 0 (Nat.zero_le _) false xs r hGr 20000 hN
      hIS (below_alloc (below_alloc (below_alloc hBw _) _) _)
      (fun pre W => J pre W ∧ Below w0.heap.size w0 W ∧ w.heap.size + 3 ≤ W.heap.size ∧ Boxed W w.heap.size 57 (.func (.func 29) #[] #[q0, q1, q2, q3]) ∧ Boxed W (w.heap.size + 1 + 1) 3 (.int .i64 (pre.length : Int)) ∧ ∃ cs, W.heap[w.heap.size + 1]? = some (.cells cs 50 (0, 0)))
      (fun pre W => Jx pre W ∧ Below w0.heap.size w0 W)
      (fun x a' W => ∃ Bx, w.heap.size + 3 ≤ Bx ∧ W.heap[Bx]? = some (.cells (cT x) 33 (0, 0)) ∧ a' = { tmps := #[(.func (.func 29) #[] #[q0, q1, q2, q3]), .pointer (some ⟨B, 0, none⟩), .pointer (some ⟨w.heap.size, 0, none⟩), .pointer (some ⟨w.heap.size + 1, 0, none⟩), .pointer (some ⟨w.heap.size + 1 + 1, 0, none⟩), .pointer (some ⟨Bx, 0, none⟩), .string s, .int .i64 s.size, .bool false, .string s, .agg #[.string s, .int .i64 0, .bool false, .int .i64 0, .int .i64 0], .pointer (some ⟨w.heap.size + 1, 0, none⟩), .pointer (some ⟨w.heap.size + 1, 0, none⟩), .func (.func 26) #[.pointer (some ⟨w.heap.size + 1, 0, none⟩)] #[], tokV x, undef, undef, undef, undef, undef, undef, undef], defers := [] })
      ?hIk ?hIp ?hIxp ?hAxp ?h0 ?assign ?body ?done ?stop
    case hIk =>
      rintro pre X Z ⟨hj, hbw, hsz, hby, hbn, hsc⟩ hk hbZ hsZ
      exact ⟨hJk _ _ _ hj hk, hbZ, Nat.le_trans hsz hk.1, (hk.2 _ hby.lt (by omega) (by simp)).trans hby, (hk.2 _ hbn.lt (by omega) (by simp)).trans hbn, hsZ⟩
    case hIp =>
      rintro pre X l o o' ⟨hj, hbw, hsz, hby, hbn, cs, hsc⟩ hl hX hc
      have hl' : w.heap.size ≤ l := Nat.le_trans (by simp; omega) hl
      exact ⟨hJp _ _ _ _ _ hj hl' hX hc, below_put _ hbw hX (by omega), by simpa using hsz, boxed_put o' hby hX hc, boxed_put o' hbn hX hc, cs, (World.putObj_heap_other (by rintro rfl; rw [hX] at hsc; cases hsc; cases hc)).trans hsc⟩
    case hIxp =>
      rintro pre X l o o' ⟨hj, hbw⟩ hl hX hc
      have hl' : w.heap.size ≤ l := Nat.le_trans (by simp; omega) hl
      exact ⟨hJxp _ _ _ _ _ hj hl' hX hc, below_put _ hbw hX (by omega)⟩
    case hAxp =>
      rintro x a' X l o o' ⟨Bx, hBx, hx, rfl⟩ hl hX hc
      exact ⟨Bx, hBx, (World.putObj_heap_other (by rintro rfl; rw [hX] at hx; cases hx; cases hc)).trans hx, rfl⟩
    case h0 =>
      have hby := Boxed.new w 57 (.func (.func 29) #[] #[q0, q1, q2, q3])
      have hbn := Boxed.new ((w.alloc (.cells #[(.func (.func 29) #[] #[q0, q1, q2, q3])] 57)).alloc (.cells #[.string s, .int .i64 0, .bool false, .int .i64 0, .int .i64 0] 50)) 3 (.int .i64 0)
      rw [World.size_alloc, World.size_alloc] at hbn
      refine ⟨hJk _ _ _ h0 (keep_alloc (keep_alloc (keep_alloc (KeepBut.refl w _ none) _) _) _), below_alloc (below_alloc (below_alloc hBw _) _) _, by simp, (hby.alloc _).alloc _, hbn, _, hIS.1⟩
    case assign =>
      rintro l pre x W K hsz hi hK
      dsimp only [tokV]
      gi_wp2
      obtain ⟨hj, hbw, hs2, hby, hbn, cs, hsc⟩ := hi
      refine hK _ _ (KeepR.alloc W _ (by omega) (by omega)) ?_ ⟨W.heap.size, hs2, heap_alloc_new W _, rfl⟩
      exact ⟨hJk _ _ _ hj (keep_alloc (KeepBut.refl W _ none) _), below_alloc hbw _, by simp; omega, hby.alloc _, hbn.alloc _, cs, (Below.heap_alloc W _ _ (by omega)).trans hsc⟩
    case body =>
      rintro l pre x a' W hsz ⟨hj, hbw, hs2, hby, hbn, cs, hsc⟩ ⟨Bx, hBx, hx, rfl⟩ hlen
      have cby := hby.cell
      have cbn := hbn.cell
      have x0 := (blk_cell hx 0).trans (show _ = some (Value.int .i64 x.f0) from rfl)
      have x1 := (blk_cell hx 1).trans (show _ = some (Value.int .i64 x.f1) from rfl)
      have x2 := (blk_cell hx 2).trans (show _ = some (Value.string x.f2) from rfl)
      have x3 := (blk_cell hx 3).trans (show _ = some (Value.int .i64 x.f3) from rfl)
      have x4 := (blk_cell hx 4).trans (show _ = some (Value.int .i64 x.f4) from rfl)
      have hYc := Aside0.mk (hY pre x W hj hs2 hlen)
      have HS := Aside0.mk hs2
      have HN := Aside0.mk hbn
      have HLEN := Aside0.mk hlen
      clear hlen hY
      dsimp only [tokV]
      gi_wp2_with (refine ⟨trivial, ?_⟩; gi_at_call 29; refine (CallsIn.inRound l (callsIn_wide.2 hYc.out)).mono ?_; rintro e W3 ⟨c, rfl, hb3, hk3, hgo, hend⟩; have hbn3 := hk3.boxed HN.out (by decide); have cbn3 := hbn3.cell; have fbn3 := hbn3.frozen; have HG := Aside0.mk hgo; have HE := Aside0.mk hend; have HB3 := Aside0.mk hb3; have HK3 := Aside0.mk hk3; clear hgo hend hb3 hk3; cases c)
      · have hk := HK3.out
        have hb := HB3.out
        exact ⟨⟨fun k o _ hko hc => hk k o hko (fun cs t fr e => by subst e; cases hc), (hk _ _ hsc (fun cs t fr e => by injection e with _ e; rw [← e]; decide)).trans hsc.symm, hb⟩, HE.out (by trivial), hbw.trans hb⟩
      · have hk := HK3.out
        have hb := HB3.out
        have hn3 := hk.boxed HN.out (by decide)
        have hy3 := hk.boxed hby (by decide)
        have hs3 := hk _ _ hsc (fun cs t fr e => by injection e with _ e; rw [← e]; decide)
        have hne1 : w.heap.size + 1 ≠ w.heap.size + 1 + 1 := by omega
        have hne0 : w.heap.size ≠ w.heap.size + 1 + 1 := by omega
        have hq : wrap64 ((pre.length : Int) + 1) = ((pre ++ [x]).length : Int) := by
          have := HLEN.out
          rw [List.length_append, List.length_singleton]
          simp only [wrap64]
          omega
        rw [hq]
        refine ⟨⟨fun k o _ hko hc => ?_, ?_, hb.setCell (p := ⟨w.heap.size + 1 + 1, 0, none⟩) (by show w0.heap.size ≤ w.heap.size + 1 + 1; omega) _⟩, hJn _ _ _ (HG.out (by trivial)), (hbw.trans hb).setCell (p := ⟨w.heap.size + 1 + 1, 0, none⟩) (by show w0.heap.size ≤ w.heap.size + 1 + 1; omega) _, ?_, hy3.other hne0 _, hn3.set _, cs, ?_⟩
        · have h3 := hk k o hko (fun cs t fr e => by subst e; cases hc)
          refine (Below.heap_setCell W3 ⟨w.heap.size + 1 + 1, 0, none⟩ _ k ?_).trans h3
          rintro rfl
          have hbb : W3.heap[w.heap.size + 1 + 1]? = some (.cells _ 3 (0, 0)) := hn3
          rw [h3] at hbb
          cases hbb
          cases hc
        · exact ((Below.heap_setCell W3 ⟨w.heap.size + 1 + 1, 0, none⟩ _ _ hne1).trans hs3).trans hsc.symm
        · have h1 := hb.size
          have h2 := HS.out
          simp only [World.setCell, Array.size_modify]
          omega
        · exact (Below.heap_setCell W3 ⟨w.heap.size + 1 + 1, 0, none⟩ _ _ hne1).trans hs3
    case done =>
      rintro D W hD ⟨hj, hbw, hs2, hby, hbn, cs, hsc⟩ hS hB hK
      have hD' : w.heap.size ≤ D := Nat.le_trans (by simp; omega) hD
      refine ⟨by simp, .inl ⟨_, _, rfl, run_takeDeferred hK, ?_⟩⟩
      exact ⟨_, results_none rfl _ _ _, ⟨_, rfl⟩, below_put _ hbw hK (by omega), .inl (hJp _ _ _ _ _ hj hD' hK rfl)⟩
    case stop =>
      rintro D pre W hD hpre ⟨hj, hbw⟩ hK
      have hD' : w.heap.size ≤ D := Nat.le_trans (by simp; omega) hD
      gi_wp2
      refine ⟨by simp, .inl ⟨_, _, rfl, run_takeDeferred hK, ?_⟩⟩
      exact ⟨_, results_none rfl _ _ _, ⟨_, rfl⟩, below_put _ hbw hK (by omega), .inr ⟨pre, hpre, hJxp _ _ _ _ _ hj hD' hK rfl⟩⟩

set_option maxRecDepth 100000 in
set_option maxHeartbeats 8000000 in
theorem toks2_cl (q0 : Value) (s : ByteArray) (w0 w : World) (hT : Tabs w0) (hBw : Below w0.heap.size w0 w) (B : Nat) (ht : Boxed w B 9 (.string s))
    (xs : List S33) (hbig : 8000 < s.size → xs = []) (hG : ¬ 8000 < s.size → ∃ r, Gives (NXs s) 0 false xs r) (hN : xs.length ≤ 20000)
    (J Jx : List S33 → World → Prop)
    (hJk : ∀ pre X Y, J pre X → KeepBut X Y (w.heap.size + 1) none → J pre Y)
    (hJp : ∀ pre X (l : Nat) (o o' : Obj), J pre X → w.heap.size ≤ l → X.heap[l]? = some o → o.isCells = false → J pre (X.putObj l o'))
    (hJxp : ∀ pre X (l : Nat) (o o' : Obj), Jx pre X → w.heap.size ≤ l → X.heap[l]? = some o → o.isCells = false → Jx pre (X.putObj l o'))
    (hJn : ∀ pre X u, J pre X → J pre (X.setCell ⟨w.heap.size + 1 + 1, 0, none⟩ u))
    (hY : ∀ pre (x : S33) W1, J pre W1 → w.heap.size + 3 ≤ W1.heap.size → pre.length < 20000 → Calls Tryd.prog 30 #[.int .i64 (pre.length : Int), tokV x, q0] W1 fun e W' =>
      ∃ c : Bool, e = .returned (.bool c) ∧ Below w0.heap.size W1 W' ∧ KeepT W1 W' ∧ (c = true → J (pre ++ [x]) W') ∧ (c = false → Jx (pre ++ [x]) W'))
    (h0 : J [] w) :
    Calls Tryd.prog 50 #[(.func (.func 30) #[] #[q0]), .pointer (some ⟨B, 0, none⟩)] w fun e W' => (∃ v, e = .returned v) ∧ Below w0.heap.size w0 W' ∧ (J xs W' ∨ ∃ pre, pre <+: xs ∧ Jx pre W') := by
  have hBt := ht.lt
  have hsz0 := hBw.size
  have cB := (ht.alloc (.cells #[(.func (.func 30) #[] #[q0])] 57)).cell
  refine (callsIn_wide (n := 6)).1 ?_
  refine callsIn_of_wp_marks Tryd.func50 rfl trivial ?_ rfl
  simp only [Tryd.ntmps50, List.size_toArray, List.length_cons, List.length_nil, Nat.reduceAdd, Nat.reduceSub, Array.replicate_succ, Array.replicate_zero, List.push_toArray, List.append_toArray, List.nil_append, List.cons_append]
  by_cases hs : 8000 < s.size
  · have k8 : ((8000 : Int) < (s.size : Int)) = True := eq_true (by omega)
    have k8n : (8000 < s.size) = True := eq_true hs
    gi_wp2
    exact ⟨_, results_none rfl _ _ _, ⟨_, rfl⟩, below_alloc hBw _, .inl (by rw [hbig hs]; exact hJk _ _ _ h0 (keep_alloc (KeepBut.refl w _ none) _))⟩
  · have k8 : ((8000 : Int) < (s.size : Int)) = False := eq_false (by omega)
    have k8n : (8000 < s.size) = False := eq_false hs
    obtain ⟨r, hGr⟩ := hG hs
    gi_wp2
    have hGb := World.alloc_heap_new (w.alloc (.cells #[(.func (.func 30) #[] #[q0])] 57)) (.cells #[.string s, .int .i64 0, .bool false, .int .i64 0, .int .i64 0] 50)
    rw [World.size_alloc] at hGb
    have hIS : IsS50 w0 (((w.alloc (.cells #[(.func (.func 30) #[] #[q0])] 57)).alloc (.cells #[.string s, .int .i64 0, .bool false, .int .i64 0, .int .i64 0] 50)).alloc (.cells #[.int .i64 0] 3)) (w.heap.size + 1) s ((0 : Nat) : Int) false 0 0 := IsS50.alloc ⟨hGb, by omega⟩ _
    refine range_all 6 (by decide) (w.heap.size + 1) rfl rfl s w0 (NXs s) (next_is hs w0 _ hT) next_le 0 (Nat.zero_le _) false xs r hGr 20000 hN
      hIS (below_alloc (below_alloc (below_alloc hBw _) _) _)
      (fun pre W => J pre W ∧ Below w0.heap.size w0 W ∧ w.heap.size + 3 ≤ W.heap.size ∧ Boxed W w.heap.size 57 (.func (.func 30) #[] #[q0]) ∧ Boxed W (w.heap.size + 1 + 1) 3 (.int .i64 (pre.length : Int)) ∧ ∃ cs, W.heap[w.heap.size + 1]? = some (.cells cs 50 (0, 0)))
      (fun pre W => Jx pre W ∧ Below w0.heap.size w0 W)
      (fun x a' W => ∃ Bx, w.heap.size + 3 ≤ Bx ∧ W.heap[Bx]? = some (.cells (cT x) 33 (0, 0)) ∧ a' = { tmps := #[(.func (.func 30) #[] #[q0]), .pointer (some ⟨B, 0, none⟩), .pointer (some ⟨w.heap.size, 0, none⟩), .pointer (some ⟨w.heap.size + 1, 0, none⟩), .pointer (some ⟨w.heap.size + 1 + 1, 0, none⟩), .pointer (some ⟨Bx, 0, none⟩), .string s, .int .i64 s.size, .bool false, .string s, .agg #[.string s, .int .i64 0, .bool false, .int .i64 0, .int .i64 0], .pointer (some ⟨w.heap.size + 1, 0, none⟩), .pointer (some ⟨w.heap.size + 1, 0, none⟩), .func (.func 26) #[.pointer (some ⟨w.heap.size + 1, 0, none⟩)] #[], tokV x, undef, undef, undef, undef, undef, undef, undef], defers := [] })
      ?hIk ?hIp ?hIxp ?hAxp ?h0 ?assign ?body ?done ?stop
    case hIk =>
      rintro pre X Z ⟨hj, hbw, hsz, hby, hbn, hsc⟩ hk hbZ hsZ
      exact ⟨hJk _ _ _ hj hk, hbZ, Nat.le_trans hsz hk.1, (hk.2 _ hby.lt (by omega) (by simp)).trans hby, (hk.2 _ hbn.lt (by omega) (by simp)).trans hbn, hsZ⟩
    case hIp =>
      rintro pre X l o o' ⟨hj, hbw, hsz, hby, hbn, cs, hsc⟩ hl hX hc
      have hl' : w.heap.size ≤ l := Nat.le_trans (by simp; omega) hl
      exact ⟨hJp _ _ _ _ _ hj hl' hX hc, below_put _ hbw hX (by omega), by simpa using hsz, boxed_put o' hby hX hc, boxed_put o' hbn hX hc, cs, (World.putObj_heap_other (by rintro rfl; rw [hX] at hsc; cases hsc; cases hc)).trans hsc⟩
    case hIxp =>
      rintro pre X l o o' ⟨hj, hbw⟩ hl hX hc
      have hl' : w.heap.size ≤ l := Nat.le_trans (by simp; omega) hl
      exact ⟨hJxp _ _ _ _ _ hj hl' hX hc, below_put _ hbw hX (by omega)⟩
    case hAxp =>
      rintro x a' X l o o' ⟨Bx, hBx, hx, rfl⟩ hl hX hc
      exact ⟨Bx, hBx, (World.putObj_heap_other (by rintro rfl; rw [hX] at hx; cases hx; cases hc)).trans hx, rfl⟩
    case h0 =>
      have hby := Boxed.new w 57 (.func (.func 30) #[] #[q0])
      have hbn := Boxed.new ((w.alloc (.cells #[(.func (.func 30) #[] #[q0])] 57)).alloc (.cells #[.string s, .int .i64 0, .bool false, .int .i64 0, .int .i64 0] 50)) 3 (.int .i64 0)
      rw [World.size_alloc, World.size_alloc] at hbn
      refine ⟨hJk _ _ _ h0 (keep_alloc (keep_alloc (keep_alloc (KeepBut.refl w _ none) _) _) _), below_alloc (below_alloc (below_alloc hBw _) _) _, by simp, (hby.alloc _).alloc _, hbn, _, hIS.1⟩
    case assign =>
      rintro l pre x W K hsz hi hK
      dsimp only [tokV]
      gi_wp2
      obtain ⟨hj, hbw, hs2, hby, hbn, cs, hsc⟩ := hi
      refine hK _ _ (KeepR.alloc W _ (by omega) (by omega)) ?_ ⟨W.heap.size, hs2, heap_alloc_new W _, rfl⟩
      exact ⟨hJk _ _ _ hj (keep_alloc (KeepBut.refl W _ none) _), below_alloc hbw _, by simp; omega, hby.alloc _, hbn.alloc _, cs, (Below.heap_alloc W _ _ (by omega)).trans hsc⟩
    case body =>
      rintro l pre x a' W hsz ⟨hj, hbw, hs2, hby, hbn, cs, hsc⟩ ⟨Bx, hBx, hx, rfl⟩ hlen
      have cby := hby.cell
      have cbn := hbn.cell
      have x0 := (blk_cell hx 0).trans (show _ = some (Value.int .i64 x.f0) from rfl)
      have x1 := (blk_cell hx 1).trans (show _ = some (Value.int .i64 x.f1) from rfl)
      have x2 := (blk_cell hx 2).trans (show _ = some (Value.string x.f2) from rfl)
      have x3 := (blk_cell hx 3).trans (show _ = some (Value.int .i64 x.f3) from rfl)
      have x4 := (blk_cell hx 4).trans (show _ = some (Value.int .i64 x.f4) from rfl)
      have hYc := Aside0.mk (hY pre x W hj hs2 hlen)
      have HS := Aside0.mk hs2
      have HN := Aside0.mk hbn
      have HLEN := Aside0.mk hlen
      clear hlen hY
      dsimp only [tokV]
      gi_wp2_with (refine ⟨trivial, ?_⟩; gi_at_call 30; refine (CallsIn.inRound l (callsIn_wide.2 hYc.out)).mono ?_; rintro e W3 ⟨c, rfl, hb3, hk3, hgo, hend⟩; have hbn3 := hk3.boxed HN.out (by decide); have cbn3 := hbn3.cell; have fbn3 := hbn3.frozen; have HG := Aside0.mk hgo; have HE := Aside0.mk hend; have HB3 := Aside0.mk hb3; have HK3 := Aside0.mk hk3; clear hgo hend hb3 hk3; cases c)
      · have hk := HK3.out
        have hb := HB3.out
        exact ⟨⟨fun k o _ hko hc => hk k o hko (fun cs t fr e => by subst e; cases hc), (hk _ _ hsc (fun cs t fr e => by injection e with _ e; rw [← e]; decide)).trans hsc.symm, hb⟩, HE.out (by trivial), hbw.trans hb⟩
      · have hk := HK3.out
        have hb := HB3.out
        have hn3 := hk.boxed HN.out (by decide)
        have hy3 := hk.boxed hby (by decide)
        have hs3 := hk _ _ hsc (fun cs t fr e => by injection e with _ e; rw [← e]; decide)
        have hne1 : w.heap.size + 1 ≠ w.heap.size + 1 + 1 := by omega
        have hne0 : w.heap.size ≠ w.heap.size + 1 + 1 := by omega
        have hq : wrap64 ((pre.length : Int) + 1) = ((pre ++ [x]).length : Int) := by
          have := HLEN.out
          rw [List.length_append, List.length_singleton]
          simp only [wrap64]
          omega
        rw [hq]
        refine ⟨⟨fun k o _ hko hc => ?_, ?_, hb.setCell (p := ⟨w.heap.size + 1 + 1, 0, none⟩) (by show w0.heap.size ≤ w.heap.size + 1 + 1; omega) _⟩, hJn _ _ _ (HG.out (by trivial)), (hbw.trans hb).setCell (p := ⟨w.heap.size + 1 + 1, 0, none⟩) (by show w0.heap.size ≤ w.heap.size + 1 + 1; omega) _, ?_, hy3.other hne0 _, hn3.set _, cs, ?_⟩
        · have h3 := hk k o hko (fun cs t fr e => by subst e; cases hc)
          refine (Below.heap_setCell W3 ⟨w.heap.size + 1 + 1, 0, none⟩ _ k ?_).trans h3
          rintro rfl
          have hbb : W3.heap[w.heap.size + 1 + 1]? = some (.cells _ 3 (0, 0)) := hn3
          rw [h3] at hbb
          cases hbb
          cases hc
        · exact ((Below.heap_setCell W3 ⟨w.heap.size + 1 + 1, 0, none⟩ _ _ hne1).trans hs3).trans hsc.symm
        · have h1 := hb.size
          have h2 := HS.out
          simp only [World.setCell, Array.size_modify]
          omega
        · exact (Below.heap_setCell W3 ⟨w.heap.size + 1 + 1, 0, none⟩ _ _ hne1).trans hs3
    case done =>
      rintro D W hD ⟨hj, hbw, hs2, hby, hbn, cs, hsc⟩ hS hB hK
      have hD' : w.heap.size ≤ D := Nat.le_trans (by simp; omega) hD
      refine ⟨by simp, .inl ⟨_, _, rfl, run_takeDeferred hK, ?_⟩⟩
      exact ⟨_, results_none rfl _ _ _, ⟨_, rfl⟩, below_put _ hbw hK (by omega), .inl (hJp _ _ _ _ _ hj hD' hK rfl)⟩
    case stop =>
      rintro D pre W hD hpre ⟨hj, hbw⟩ hK
      have hD' : w.heap.size ≤ D := Nat.le_trans (by simp; omega) hD
      gi_wp2
      refine ⟨by simp, .inl ⟨_, _, rfl, run_takeDeferred hK, ?_⟩⟩
      exact ⟨_, results_none rfl _ _ _, ⟨_, rfl⟩, below_put _ hbw hK (by omega), .inr ⟨pre, hpre, hJxp _ _ _ _ _ hj hD' hK rfl⟩⟩
end Go.Proofs.YtidbcenbcllfnaaDoor.PA
