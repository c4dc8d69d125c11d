/- The program's Append, walked. Condition: the disk is one that can be. (Printed by gen_papp.py.) -/
import Derived.Test.YthneomomhoilkaaDoorMDkPappL
import Derived.Defers
import Derived.Deep.RegionHeld3
import Derived.Deep.RegionLaw
import Derived.Test.YthneomomhoilkaaDoorML
namespace Go.Proofs.YthneomomhoilkaaDoor.PA
open Go.RowKit Go.Maps Go.Proofs.YthneomomhoilkaaDoorW.PrintWords Go.Proofs.YthneomomhoilkaaDoorW.PrintLast Go.Proofs.YthneomomhoilkaaDoorW.PrintMore
set_option linter.unusedVariables false
set_option linter.unusedSimpArgs false
theorem capp_no (gf ge : Nat) (u : FrameMode) (w : World) (h0 : w.cell? ⟨gf, 0, none⟩ = some (.bool false)) :
    CallsD Tryd.prog 47 #[.pointer (some ⟨gf, 0, none⟩), .pointer (some ⟨ge, 0, none⟩)] u w fun e u' w' => u' = u ∧ (e = .returned (.tuple #[]) ∧ w' = w) := by
  go_enter_d Tryd.func47, Tryd.ntmps47
  go_wp2
  go_end0
  exact ⟨rfl, rfl⟩
theorem capp_yes (gf ge : Nat) (v : Int) (u : FrameMode) (w : World) (h0 : w.cell? ⟨gf, 0, none⟩ = some (.bool true)) (h1 : w.cell? ⟨ge, 0, none⟩ = some (.int .i64 v)) (h2 : w.frozen? ⟨ge, 0, none⟩ = false) :
    CallsD Tryd.prog 47 #[.pointer (some ⟨gf, 0, none⟩), .pointer (some ⟨ge, 0, none⟩)] u w fun e u' w' => u' = u ∧ (e = .returned (.tuple #[]) ∧ w' = w.setCell ⟨ge, 0, none⟩ (.int .i64 190)) := by
  go_enter_d Tryd.func47, Tryd.ntmps47
  go_wp2
  go_end0
  exact ⟨rfl, rfl⟩
theorem set_other_cell {W : World} {g g' : Nat} {v u : Value} (hne : g ≠ g') (h : W.cell? ⟨g, 0, none⟩ = some u) : (W.setCell ⟨g', 0, none⟩ v).cell? ⟨g, 0, none⟩ = some u := by
  rw [← h]
  unfold World.cell?
  rw [Below.heap_setCell W ⟨g', 0, none⟩ v g hne]
theorem set_frozen {W : World} {g : Nat} {v : Value} (h : W.frozen? ⟨g, 0, none⟩ = false) : (W.setCell ⟨g, 0, none⟩ v).frozen? ⟨g, 0, none⟩ = false := by
  simpa using h
theorem ppost_set {b g : Nat} {w W5 W : World} {col colX : RCol} {d : Dk} (h : PPost b W5 colX g d W) (hc : Ch b w col W5 colX isP) {ge : Nat} (hge : w.heap.size ≤ ge) (hlt : ge < W5.heap.size) (htm : colX ge = .tm) (x y : Value) :
    PPost b w col g d ((W.setCell ⟨ge, 0, none⟩ x).setCell ⟨ge, 0, none⟩ y) ∧ PPost b w col g d (W.setCell ⟨ge, 0, none⟩ x) := by
  obtain ⟨col', h1, h2⟩ := h
  have htg : col' ge = .tm := (h1.same _ hlt).trans htm
  have hbg : b ≤ ge := Nat.le_trans hc.le hge
  have hs1 : Ch b W col' (W.setCell ⟨ge, 0, none⟩ x) col' (fun r => r = .tm) := htg ▸ Ch.one_set h1.le' hbg 0 x
  have hs2 : Ch b (W.setCell ⟨ge, 0, none⟩ x) col' ((W.setCell ⟨ge, 0, none⟩ x).setCell ⟨ge, 0, none⟩ y) col' (fun r => r = .tm) := htg ▸ Ch.one_set hs1.le' hbg 0 y
  have k1 := h2.ch hs1 (fun r hr e => by subst e; exact hr)
  have k2 := k1.ch hs2 (fun r hr e => by subst e; exact hr)
  have c1 := (hc.trans h1).set_new (p := ⟨ge, 0, none⟩) hge x
  exact ⟨⟨col', c1.set_new (p := ⟨ge, 0, none⟩) hge y, k2⟩, ⟨col', c1, k1⟩⟩
theorem papp_pre {b g m : Nat} {w W0 w3 Wa Wb : World} {col col4 : RCol} {d d3 : Dk} {gb : ByteArray → Nat} {ar ar5 : Bool} {u u5 : Int} {DA : Option Addr} {xs : List Int} {FL : Bool} (hP0 : PDm b W0 (colN col w.heap.size fun _ => .tm) g d m gb ar u) (hc0 : Ch b w col W0 (colN col w.heap.size fun _ => .tm) isP)
    (hX0 : XRow W0 (colN col w.heap.size fun _ => .tm) isP DA xs) (hge : W0.heap[w.heap.size]? = some (.cells #[.int .i64 0] 34 (0, 0))) (hgg : w.heap.size ≠ g) (htm : (colN col w.heap.size fun _ => .tm) w.heap.size = Role.tm)
    (hg3 : W0.grownBy w3 (some g)) (hP3 : PDm b w3 (colN col w.heap.size fun _ => .tm) g d3 m gb ar5 u5) (hWa : Wa = w3.alloc (.cells #[.bool FL] 4)) (hWb : Wb = Wa.alloc (.cells #[.slice none 0 0, .int .i64 0] 76))
    (hPb : PDm b Wb col4 g d3 m gb ar5 u5) (hxb : Wb.heap[w3.heap.size + 1]? = some (.cells #[.slice none 0 0, .int .i64 0] 76 (0, 0))) (hbb : Below Wa.heap.size Wa Wb) (hcb : Ch b Wa (colN col w.heap.size fun _ => .tm) Wb col4 isP) (hNa : Wa.heap.size = w3.heap.size + 1) :
    Aside0 (∀ W5, Wb.grownBy W5 (some m) → Ch b Wb col4 W5 col4 isP → XRow W5 col4 isP DA xs ∧ Ch b w col W5 col4 isP ∧ W5.heap[w3.heap.size + 1]? = some (.cells #[.slice none 0 0, .int .i64 0] 76 (0, 0)) ∧
      W5.heap[w.heap.size]? = some (.cells #[.int .i64 0] 34 (0, 0)) ∧ W5.heap[w3.heap.size]? = some (.cells #[.bool FL] 4 (0, 0)) ∧ col4 w.heap.size = .tm) := by
  have hba : Below w3.heap.size w3 Wa := by rw [hWa]; exact below_alloc (Below.refl _ _) _
  have hca : Ch b w3 (colN col w.heap.size fun _ => .tm) Wa (colN col w.heap.size fun _ => .tm) isP := Ch.of_below hba hP3.base
  have hc3 := hP0.ch_of hg3
  have htot := ((hc0.trans hc3).trans hca).trans hcb
  have hgfa : Wa.heap[w3.heap.size]? = some (.cells #[.bool FL] 4 (0, 0)) := by rw [hWa]; exact heap_alloc_new w3 _
  have hgf : Wb.heap[w3.heap.size]? = some (.cells #[.bool FL] 4 (0, 0)) := (hbb.block _ (by omega)).trans hgfa
  have hge3 : w3.heap[w.heap.size]? = some (.cells #[.int .i64 0] 34 (0, 0)) := (hg3.block _ (blk_lt hge) (fun e => hgg (by injection e))).trans hge
  have hgea : Wa.heap[w.heap.size]? = _ := (hba.block _ (blk_lt hge3)).trans hge3
  have hgeb : Wb.heap[w.heap.size]? = _ := (hbb.block _ (blk_lt hgea)).trans hgea
  have hm := hPb.map
  refine ⟨fun W5 hg5 hc5 => ?_⟩
  have hne : ∀ (k : Nat) (cs : Array Value) (t : TypeId), Wb.heap[k]? = some (.cells cs t (0, 0)) → W5.heap[k]? = some (.cells cs t (0, 0)) := fun k cs t h => (hg5.block k (blk_lt h) (fun e => by
    injection e with e
    obtain ⟨es, clock, hb, _⟩ := hm
    rw [← e, h] at hb
    cases hb)).trans h
  exact ⟨(((hX0.ch hc3 (fun _ h => h)).ch hca (fun _ h => h)).ch hcb (fun _ h => h)).ch hc5 (fun _ h => h), htot.trans hc5, hne _ _ _ hxb, hne _ _ _ hgeb, hne _ _ _ hgf, (hcb.same _ (blk_lt hgea)).trans htm⟩
set_option maxRecDepth 100000 in
set_option maxHeartbeats 8000000 in
theorem pappend (b g m : Nat) (d : Dk) (gb : ByteArray → Nat) (ar : Bool) (u : Int) (col : RCol) (nm : ByteArray) (DA : Option Addr) (dc : Nat) (xs : List Int) (w : World) (hP : PDm b w col g d m gb ar u) (hd : d.Ok) (hs : nm.size ≤ 140737488355328)
    (hX : XRow w col isP DA xs) (hdc : xs.length ≤ dc) (hxl : xs.length ≤ 140737488355328) :
    Calls Tryd.prog 35 #[.pointer (some ⟨g, 0, none⟩), .string nm, .slice DA xs.length dc] w fun e w' => e = .returned (.int .i64 (d.app nm xs).1) ∧ PPost b w col g (d.app nm xs).2 w' := by
  obtain ⟨W0, hW0⟩ : ∃ W0, W0 = w.alloc (.cells #[.int .i64 0] 34) := ⟨_, rfl⟩
  have hb0 : Below w.heap.size w W0 := by rw [hW0]; exact below_alloc (Below.refl _ _) _
  have hN0 : W0.heap.size = w.heap.size + 1 := by rw [hW0]; simp
  have hx0 : W0.heap[w.heap.size]? = some (.cells #[.int .i64 0] 34 (0, 0)) := by rw [hW0]; exact heap_alloc_new w _
  have hgl := blk_lt hP.blk
  have hc0 : Ch b w col W0 (colN col w.heap.size fun _ => .tm) (fun _ => False) := Ch.of_new hb0 hP.base _
  have hP0 := hP.ch hc0 (fun _ _ h => h)
  have hX0 := hX.ch hc0 (fun _ h => h.elim)
  have hlit := firstS_lit (Nm nm) d.down d.after d.calls
  have HF := Aside0.mk (pfirst g m d nm hs hd W0 hP0.pg)
  have HW0 := Aside0.mk hW0
  have HRes : Aside0 (∀ W, W0.grownBy W (some g) → W.cell? ⟨w.heap.size, 0, none⟩ = some (.int .i64 0) ∧ W.frozen? ⟨w.heap.size, 0, none⟩ = false) := ⟨fun W h => by
    have : W.heap[w.heap.size]? = _ := (h.block _ (by omega) (fun e => by injection e; omega)).trans hx0
    exact ⟨(blk_cell this 0).trans rfl, blk_frozen this 0⟩⟩
  have HP0 := Aside0.mk hP0
  have HX0 := Aside0.mk hX0
  have HC0 := Aside0.mk (hc0.mono (S' := isP) fun _ h => h.elim)
  have HTm : Aside0 ((colN col w.heap.size fun _ => .tm) w.heap.size = Role.tm) := ⟨colN_ge (Nat.le_refl _)⟩
  have HOk := Aside0.mk hd
  have HKey : Aside0 (keyOf Tryd.prog 9 (.string nm) = some (.string nm.data.toList)) := ⟨WideMaps.keyOf_string_mk Tryd.underlying9 (by simp only [maxLen]; omega)⟩
  have HLk0 : Aside0 (∀ W, W0.grownBy W (some g) → PG W g m (d.fst nm).2 → (Instr.lookup 71 (.map (some m)) (.string nm) false).run Tryd.prog W = .ok (.pointer (if there d.fs nm = true then some ⟨gb nm, 0, none⟩ else none)) W) := ⟨fun W h1 h2 => by
    obtain ⟨ar', u', h⟩ := hP0.turn h1 h2 rfl
    exact h.look hd.rises nm hs⟩
  have hmf : ∀ (fn : Fn) (first cap : Array Value) (w : World), (Instr.makeFunc fn first cap).run Tryd.prog w = .ok (.func fn first cap) w := fun _ _ _ _ => rfl
  have HGe := Aside0.mk hx0
  have HGeg : Aside0 (w.heap.size ≠ g) := ⟨fun e => by omega⟩
  have HEnd : Aside0 (∀ W, W0.grownBy W (some g) → PG W g m (d.fst nm).2 → ∀ v, PPost b w col g (d.fst nm).2 (W.setCell ⟨w.heap.size, 0, none⟩ v)) := ⟨fun W h1 h2 v => by
    have h := hP0.post h1 h2 rfl
    obtain ⟨col', k1, k2⟩ := h
    have htg : col' w.heap.size = .tm := (k1.same _ (by omega)).trans (colN_ge (Nat.le_refl _))
    have hs : Ch b W col' (W.setCell ⟨w.heap.size, 0, none⟩ v) col' (fun r => r = .tm) := htg ▸ Ch.one_set k1.le' hP.base 0 v
    exact ⟨col', (((hc0.mono fun _ h => h.elim).trans k1).set_new (Nat.le_refl _) v), k2.ch hs (fun r hr e => by subst e; exact hr)⟩⟩
  clear hP hP0 hX hX0 hd hs hb0 hN0 hx0 hgl hc0 hW0
  rcases hlit with h0 | h0 | h0 | h0
  · have HLkD := HLk0
    have HLenM : Aside0 (∀ W, W0.grownBy W (some g) → PG W g m (d.fst nm).2 → ∀ ty, (Builtin.len_ #[71] ty #[.map (some m)]).run Tryd.prog W = .ok (.int .i64 (d.fs.length : Int)) W) := ⟨fun W h1 h2 ty => by
      obtain ⟨ar', u', h⟩ := HP0.out.turn h1 h2 rfl
      have := h.map.len Tryd.underlying71 ty
      rwa [mapD_size] at this⟩
    by_cases hf : d.full nm xs.length
    · rw [app_full h0 hf]
      cases ht : there d.fs nm
      · have HLk : Aside0 (∀ W, W0.grownBy W (some g) → PG W g m (d.fst nm).2 → (Instr.lookup 71 (.map (some m)) (.string nm) false).run Tryd.prog W = .ok (.pointer none) W) := ⟨fun W h1 h2 => by have := HLkD.out W h1 h2; rwa [if_neg (by rw [ht]; simp)] at this⟩
        by_cases hfew : 40 ≤ d.fs.length
        · have b3 : (40 : Int) ≤ (d.fs.length : Int) := by omega
          have b4 : decide ((40 : Int) ≤ (d.fs.length : Int)) = true := decide_eq_true b3
          clear hf HLk0 HLkD hfew
          go_enter_defers Tryd.func35, Tryd.ntmps35
          go_wp2_with (first | (go_at_call 45; rw [← HW0.out]; refine HF.out.mono ?_; rintro e w2 ⟨rfl, hg, hB⟩; rw [h0]; have HG := Aside0.mk hg; have HB := Aside0.mk hB; obtain ⟨r0, r1⟩ := HRes.out w2 hg; have c0 : World.cell? w2 ⟨g, 0, none⟩ = some (.map (some m)) := hB.cell; have hlk := HLk.out w2 hg hB; have hln := HLenM.out w2 hg hB; clear hg hB))
          exact ⟨_, res_cell rfl (set_same r0), rfl, HEnd.out _ HG.out HB.out _⟩
        · have hbig : 2097152 < xs.length := by
            unfold Dk.full Dk.sz at hf
            rw [ht] at hf
            simp only [Bool.false_eq_true, if_false, Nat.zero_add, true_and] at hf
            rcases hf with h | h
            · exact h
            · exact absurd h hfew
          have b3 : decide ((40 : Int) ≤ (d.fs.length : Int)) = false := decide_eq_false (by omega)
          have b4 : decide (40 ≤ d.fs.length) = false := decide_eq_false hfew
          have b5 : (2097152 : Int) < (xs.length : Int) := by omega
          clear hf HLk0 HLkD hfew hbig
          go_enter_defers Tryd.func35, Tryd.ntmps35
          go_wp2_with (first | (go_at_call 45; rw [← HW0.out]; refine HF.out.mono ?_; rintro e w2 ⟨rfl, hg, hB⟩; rw [h0]; have HG := Aside0.mk hg; have HB := Aside0.mk hB; obtain ⟨r0, r1⟩ := HRes.out w2 hg; have c0 : World.cell? w2 ⟨g, 0, none⟩ = some (.map (some m)) := hB.cell; have hlk := HLk.out w2 hg hB; have hln := HLenM.out w2 hg hB; clear hg hB))
          exact ⟨_, res_cell rfl (set_same r0), rfl, HEnd.out _ HG.out HB.out _⟩
      · have HLk : Aside0 (∀ W, W0.grownBy W (some g) → PG W g m (d.fst nm).2 → (Instr.lookup 71 (.map (some m)) (.string nm) false).run Tryd.prog W = .ok (.pointer (some ⟨gb nm, 0, none⟩)) W) := ⟨fun W h1 h2 => by have := HLkD.out W h1 h2; rwa [if_pos ht] at this⟩
        have hszp : d.sz nm = (getF d.fs nm).f1.length := by unfold Dk.sz; rw [if_pos ht]
        obtain ⟨v, hv, hrow⟩ := (HP0.out.file ht).ex
        obtain ⟨A, c, rfl, hcc, hrd, hbl⟩ := hrow.reads
        have hgne : gb nm ≠ g := fun e => by rw [e, HP0.out.blk] at hv; injection hv with hv; injection hv with _ h3; exact absurd h3 (by decide)
        have hqs := (HOk.out.size _ (there_mem ht)).1
        have HVb := Aside0.mk hv
        have HGne := Aside0.mk hgne
        generalize (getF d.fs nm).f1 = q1 at *
        have hbig : 2097152 < q1.length + xs.length := by
          unfold Dk.full at hf
          rw [hszp, ht] at hf
          rcases hf with h | h
          · exact h
          · cases h.1
        have b1 : decide (2097152 < (q1.length : Int) + (xs.length : Int)) = true := decide_eq_true (by omega)
        have b2 : (2097152 : Int) < (q1.length : Int) + (xs.length : Int) := by omega
        have kz : wrap64 ((q1.length : Int) + (xs.length : Int)) = (q1.length : Int) + (xs.length : Int) := PA.wr (by omega) (by omega)
        clear hf HLk0 HLkD hszp hv hrow hcc hrd hbl hgne hqs hbig
        go_enter_defers Tryd.func35, Tryd.ntmps35
        go_wp2_with (first | (go_at_call 45; rw [← HW0.out]; refine HF.out.mono ?_; rintro e w2 ⟨rfl, hg, hB⟩; rw [h0]; have HG := Aside0.mk hg; have HB := Aside0.mk hB; obtain ⟨r0, r1⟩ := HRes.out w2 hg; have c0 : World.cell? w2 ⟨g, 0, none⟩ = some (.map (some m)) := hB.cell; have hlk := HLk.out w2 hg hB; have y0 : World.cell? w2 ⟨gb nm, 0, none⟩ = some (.slice A q1.length c) := (blk_cell ((hg.block _ (blk_lt HVb.out) (fun e => HGne.out (by injection e))).trans HVb.out) 0).trans rfl; clear hg hB))
        exact ⟨_, res_cell rfl (set_same r0), rfl, HEnd.out _ HG.out HB.out _⟩
    · cases ht : there d.fs nm
      · have HLk : Aside0 (∀ W, W0.grownBy W (some g) → PG W g m (d.fst nm).2 → (Instr.lookup 71 (.map (some m)) (.string nm) false).run Tryd.prog W = .ok (.pointer none) W) := ⟨fun W h1 h2 => by have := HLkD.out W h1 h2; rwa [if_neg (by rw [ht]; simp)] at this⟩
        have hfew : d.fs.length < 40 := by
          unfold Dk.full at hf
          exact Nat.lt_of_not_le (fun h => hf (.inr ⟨ht, h⟩))
        have hbig : xs.length ≤ 2097152 := by
          unfold Dk.full Dk.sz at hf
          rw [ht] at hf
          simp only [Bool.false_eq_true, if_false, Nat.zero_add] at hf
          have := fun h => hf (.inl h)
          omega
        have hdo : d.have nm = addF d.fs { f0 := nm, f1 := [], f2 := 0 } := by unfold Dk.have; rw [if_neg (by rw [ht]; simp)]
        have HDo := Aside0.mk hdo
        have HGt : Aside0 (getF (d.have nm) nm = { f0 := nm, f1 := [], f2 := 0 }) := ⟨by rw [hdo]; exact (there_add d.fs { f0 := nm, f1 := [], f2 := 0 }).2⟩
        have HRh : Aside0 (Rises (d.have nm)) := ⟨by rw [hdo]; exact rises_add HOk.out.rises (f := { f0 := nm, f1 := [], f2 := 0 }) ht⟩
        have HT := Aside0.mk ht
        have HFl : Aside0 (d.fs.length < maxLen) := ⟨by unfold maxLen; omega⟩
        have HBX := Aside0.mk hbig
        have b3 : decide ((40 : Int) ≤ (d.fs.length : Int)) = false := decide_eq_false (by omega)
        have b4 : decide (40 ≤ d.fs.length) = false := decide_eq_false (by omega)
        have b5 : decide (2097152 < (xs.length : Int)) = false := decide_eq_false (by omega)
        have b6 : decide (2097152 < xs.length) = false := decide_eq_false (by omega)
        have b7 : ¬ (2097152 : Int) < (xs.length : Int) := by omega
        have HPy : Aside0 (∀ W, PG W g m (d.fst nm).2 → _) := ⟨fun W h => ppays g m (d.fst nm).2 (xs.length + 1) (by omega) (HOk.out.fst nm) W h⟩
        cases hpy : ((d.fst nm).2.pay (xs.length + 1)).1
        · rw [app_fell h0 hf hpy]
          obtain ⟨k, hk1, hk2, hk3⟩ := pay_fell hpy
          have hk4 : d.units.toNat = k := by have : d.units = k := hk1; omega
          have hk5 : k ≤ xs.length := by omega
          have k5 : (0 : Int) ≤ (k : Int) := by omega
          have k6 : (k : Int) ≤ (dc : Int) := by omega
          have HYL : Aside0 ((xs.take k).length = k) := ⟨by rw [List.length_take]; omega⟩
          have HK5 := Aside0.mk hk5
          rw [hk4]
          clear hf hfew hbig hdo HLk0 HLkD hk1 hk3 hk4 hk5
          go_enter_defers Tryd.func35, Tryd.ntmps35
          go_upto_region 14 with (first | (go_at_call 45; rw [← HW0.out]; refine HF.out.mono ?_; rintro e w2 ⟨rfl, hg, hB⟩; rw [h0]; have HG := Aside0.mk hg; have HB := Aside0.mk hB; obtain ⟨r0, r1⟩ := HRes.out w2 hg; have c0 : World.cell? w2 ⟨g, 0, none⟩ = some (.map (some m)) := hB.cell; have hlk := HLk.out w2 hg hB; have hln := HLenM.out w2 hg hB; clear hg hB) | (go_at_call 46; refine (HPy.out _ HB.out).mono ?_; rintro e w3 ⟨rfl, hg, hB⟩; rw [hpy]; simp only [Bool.false_eq_true, if_false, Bool.not_false]; rw [hk2]; have HG3 := Aside0.mk (HG.out.trans hg); have HB3 := Aside0.mk hB; have c3 : ∀ o o', World.cell? ((w3.alloc o).alloc o') ⟨g, 0, none⟩ = some (.map (some m)) := (fun o o' => ((below_alloc (below_alloc (Below.refl w3.heap.size w3) o) o').cell (World.block_lt_of_cell? _ _ hB.cell)).trans hB.cell); clear hg hB) | (at_mapUpdate; go_loud (obtain ⟨Wa, hWa⟩ : ∃ Wa, Wa = w3.alloc (.cells #[.bool true] 4) := ⟨_, rfl⟩; rw [← hWa]; obtain ⟨Wb, hWb⟩ : ∃ Wb, Wb = Wa.alloc (.cells #[.slice none 0 0, .int .i64 0] 76) := ⟨_, rfl⟩; rw [← hWb]; obtain ⟨ar5, u5, hP3⟩ := HP0.out.turn HG3.out HB3.out (pay_fs _ _); have hba : Below w3.heap.size w3 Wa := (by rw [hWa]; exact below_alloc (Below.refl _ _) _); have hNa : Wa.heap.size = w3.heap.size + 1 := (by rw [hWa]; simp); have hPa := hP3.below hba; obtain ⟨col4, hPb, hxb, hrb, htb, hlb, hbb, hcb⟩ := padd_block (f := { f0 := nm, f1 := [], f2 := 0 }) hPa (Below.refl _ _) (own_nil _ _ _ _) hWb; rw [hNa] at hxb htb hlb; have HM5 := papp_pre (w := w) HP0.out HC0.out HX0.out HGe.out HGeg.out HTm.out HG3.out hP3 hWa hWb hPb hxb hbb hcb hNa; refine wpList_mapUpdate_own _ rfl (.tmp 73) (.tmp 74) (.tmp 75) 71 rfl 9 70 lawS Tryd.underlying71 ptrE m _ _ rfl hPb.map (by rw [pay_fs]; exact HFl.out) (.string nm) (.pointer (some ⟨w3.heap.size + 1, 0, none⟩)) (.string nm.data.toList) rfl rfl HKey.out (.lit (.int .i64 ((w3.heap.size + 1 : Nat) : Int))) [] (ptrE_mk _) ?_; intro W5 hm5 hg5; obtain ⟨hP5, hc5⟩ := hPb.add (by rw [pay_fs]; exact HOk.out.rises) (f := { f0 := nm, f1 := [], f2 := 0 }) (by rw [pay_fs]; exact HT.out) hxb hrb htb hlb hg5 hm5; have HN := Aside0.mk (HM5.out W5 hg5 hc5); have HN1 := Aside0.mk hP5; clear hWa hWb hP3 hba hNa hPa hPb hxb hrb htb hlb hbb hcb hm5 hg5 hP5 hc5 HM5)))
          obtain ⟨hX5, hc5, hv5, hge5, hgf5, htm5⟩ := HN.out
          have hP5 := HN1.out
          rw [show ({ ((d.fst nm).2.pay (xs.length + 1)).2.2 with fs := addF ((d.fst nm).2.pay (xs.length + 1)).2.2.fs { f0 := nm, f1 := [], f2 := 0 } } : Dk) = { ((d.fst nm).2.pay (xs.length + 1)).2.2 with fs := d.have nm } by rw [pay_fs, HDo.out]; rfl] at hP5
          have hrow5 : BRow b W5 col4 (.pb nm) (.slice none 0 0) [] := BRow.nil _ _ _ _
          obtain ⟨zs, hzs⟩ : ∃ zs, zs = ([] : List Int) ++ (xs.take k) := ⟨_, rfl⟩
          have HRD : Aside0 (ReadsInt W5.drew .u8 DA k (xs.take k)) := ⟨by have := reads_take hX5.rd k HK5.out; rwa [HYL.out] at this⟩
          have HLL : Aside0 (([] : List Int).length + k ≤ 140737488355328) := ⟨by have := HBX.out; have := HK5.out; simp only [List.length_nil]; omega⟩
          have HFin : Aside0 (∀ w7 v7, W5.drew.grownBy w7 (Value.slice none 0 0).ownBlock → w7.ownsRow b 5 1 v7 zs.length (nums .u8 zs) → (v7.ownBlock = (Value.slice none 0 0).ownBlock ∨ v7.ownBlock = some W5.heap.size) →
              w7.cell? ⟨w3.heap.size + 1, 0, none⟩ = some (.slice none 0 0) ∧ w7.frozen? ⟨w3.heap.size + 1, 0, none⟩ = false ∧ (w7.setCell ⟨w3.heap.size + 1, 0, none⟩ v7).cell? ⟨w.heap.size, 0, none⟩ = some (.int .i64 0) ∧ (w7.setCell ⟨w3.heap.size + 1, 0, none⟩ v7).frozen? ⟨w.heap.size, 0, none⟩ = false ∧ (w7.setCell ⟨w3.heap.size + 1, 0, none⟩ v7).cell? ⟨w3.heap.size, 0, none⟩ = some (.bool true) ∧ w3.heap.size ≠ w.heap.size ∧
              ∀ x y, PPost b w col g { ((d.fst nm).2.pay (xs.length + 1)).2.2 with fs := setF (d.have nm) nm (layF (xs.take k) (getF (d.have nm) nm)) } (((w7.setCell ⟨w3.heap.size + 1, 0, none⟩ v7).setCell ⟨w.heap.size, 0, none⟩ x).setCell ⟨w.heap.size, 0, none⟩ y) ∧ PPost b w col g { ((d.fst nm).2.pay (xs.length + 1)).2.2 with fs := setF (d.have nm) nm (layF (xs.take k) (getF (d.have nm) nm)) } ((w7.setCell ⟨w3.heap.size + 1, 0, none⟩ v7).setCell ⟨w.heap.size, 0, none⟩ x)) := ⟨fun w7 v7 hg ho hat => by
            have hgb : (fun s => if s = nm then w3.heap.size + 1 else gb s) nm = w3.heap.size + 1 := if_pos rfl
            obtain ⟨k1, k2, k3⟩ := papp_fin hP5 HRh.out (have_there d nm) (v := .slice none 0 0) (by rw [HGt.out]; exact (congrArg (fun q => W5.heap[q]?) hgb).trans hv5) (by rw [HGt.out]; exact hrow5) (gb_drew_l hg) ho hat
            rw [show (if nm = ({ f0 := nm, f1 := [], f2 := 0 } : Fl).f0 then w3.heap.size + 1 else gb nm) = w3.heap.size + 1 from if_pos rfl] at k1 k3
            have hkeep : ∀ (k : Nat) (cs : Array Value) (t : TypeId), W5.heap[k]? = some (.cells cs t (0, 0)) → t ≠ 76 → (w7.setCell ⟨w3.heap.size + 1, 0, none⟩ v7).heap[k]? = some (.cells cs t (0, 0)) := fun k cs t h1 n2 => by
              have hne : k ≠ w3.heap.size + 1 := fun e => by rw [e, hv5] at h1; injection h1 with h1; injection h1 with _ h4; exact n2 h4.symm
              exact (Below.heap_setCell w7 _ v7 k hne).trans ((hg.block k (blk_lt h1) (fun e => by cases e)).trans h1)
            have hk1 := hkeep _ _ _ hge5 (by decide)
            have hk2 := hkeep _ _ _ hgf5 (by decide)
            have hblk := k1.trans hv5
            have hP9 : PPost b W5 col4 g { ((d.fst nm).2.pay (xs.length + 1)).2.2 with fs := setF (d.have nm) nm (layF (xs.take k) (getF (d.have nm) nm)) } (w7.setCell ⟨w3.heap.size + 1, 0, none⟩ v7) := by
              have e3 : layF (xs.take k) (getF (d.have nm) nm) = { getF (d.have nm) nm with f1 := zs } := by unfold layF; rw [HGt.out, hzs]
              rw [e3]
              exact k3
            refine ⟨(blk_cell hblk 0).trans rfl, blk_frozen hblk 0, (blk_cell hk1 0).trans rfl, blk_frozen hk1 0, (blk_cell hk2 0).trans rfl, fun e => ?_, fun x y => ?_⟩
            · rw [e, hge5] at hgf5; injection hgf5 with h; injection h with _ h; exact absurd h (by decide)
            · exact ppost_set hP9 hc5 (Nat.le_refl _) (blk_lt hge5) htm5 x y⟩
          have x0 : W5.cell? ⟨w3.heap.size + 1, 0, none⟩ = some (.slice none 0 0) := (blk_cell hv5 0).trans rfl
          have HRow5 := Aside0.mk hrow5.own
          have HBas := Aside0.mk hP5.base
          have HZS := Aside0.mk hzs
          clear hP5 hX5 hc5 hv5 hrow5 hge5 hgf5 hzs c0 r0 r1 hlk hln htm5
          refine wp_region_noPanic ?_
          go_region_law
            (first | (refine step_append_row rfl (.tmp 80) (.tmp 83) 29 5 rfl Tryd.underlying29 infoB b (.slice none 0 0) ([] : List Int) (xs.take k) DA k dc rfl rfl HRow5.out HRD.out HBas.out HLL.out ?_; intro v7 w7 ho7 hg7 hat7; rw [← HZS.out] at ho7; obtain ⟨A7, C7, rfl, _⟩ := own_form ho7; obtain ⟨t0, t1, t2, t3, t4, t5, t6⟩ := HFin.out w7 _ hg7 ho7 hat7; have HT6 := Aside0.mk t6; have HT5 := Aside0.mk t5; clear ho7 hg7 hat7 t6 t5))
          refine NoPanic.normal ?_
          have u6 := HT6.out
          have u5 := HT5.out
          clear HT6 HT5 t0 t1
          generalize (w7.setCell ⟨w3.heap.size + 1, 0, none⟩ (.slice A7 zs.length C7)) = W8 at *
          have HU6 := Aside0.mk u6
          have HU5 := Aside0.mk u5
          clear u6 u5
          go_wp2
          refine leaves_cons (f := 47) (args := #[.pointer (some ⟨w3.heap.size, 0, none⟩), .pointer (some ⟨w.heap.size, 0, none⟩)]) (by simp) (by simp [go_sem]) ?_
          refine (capp_yes _ _ 0 .returning _ (set_other_cell HU5.out t4) (set_same t2) (set_frozen t3)).mono ?_
          rintro e u' w'' ⟨rfl, rfl, rfl⟩
          exact ⟨_, res_cell rfl (set_same (set_same t2)), rfl, (HU6.out _ _).1⟩
        · rw [app_done h0 hf hpy]
          have k5 : (0 : Int) ≤ (xs.length : Int) := by omega
          have k6 : (xs.length : Int) ≤ (dc : Int) := by omega
          clear hf hfew hbig hdo HLk0 HLkD
          go_enter_defers Tryd.func35, Tryd.ntmps35
          go_upto_region 14 with (first | (go_at_call 45; rw [← HW0.out]; refine HF.out.mono ?_; rintro e w2 ⟨rfl, hg, hB⟩; rw [h0]; have HG := Aside0.mk hg; have HB := Aside0.mk hB; obtain ⟨r0, r1⟩ := HRes.out w2 hg; have c0 : World.cell? w2 ⟨g, 0, none⟩ = some (.map (some m)) := hB.cell; have hlk := HLk.out w2 hg hB; have hln := HLenM.out w2 hg hB; clear hg hB) | (go_at_call 46; refine (HPy.out _ HB.out).mono ?_; rintro e w3 ⟨rfl, hg, hB⟩; rw [hpy]; have HG3 := Aside0.mk (HG.out.trans hg); have HB3 := Aside0.mk hB; have c3 : ∀ o o', World.cell? ((w3.alloc o).alloc o') ⟨g, 0, none⟩ = some (.map (some m)) := (fun o o' => ((below_alloc (below_alloc (Below.refl w3.heap.size w3) o) o').cell (World.block_lt_of_cell? _ _ hB.cell)).trans hB.cell); clear hg hB) | (at_mapUpdate; go_loud (obtain ⟨Wa, hWa⟩ : ∃ Wa, Wa = w3.alloc (.cells #[.bool false] 4) := ⟨_, rfl⟩; rw [← hWa]; obtain ⟨Wb, hWb⟩ : ∃ Wb, Wb = Wa.alloc (.cells #[.slice none 0 0, .int .i64 0] 76) := ⟨_, rfl⟩; rw [← hWb]; obtain ⟨ar5, u5, hP3⟩ := HP0.out.turn HG3.out HB3.out (pay_fs _ _); have hba : Below w3.heap.size w3 Wa := (by rw [hWa]; exact below_alloc (Below.refl _ _) _); have hNa : Wa.heap.size = w3.heap.size + 1 := (by rw [hWa]; simp); have hPa := hP3.below hba; obtain ⟨col4, hPb, hxb, hrb, htb, hlb, hbb, hcb⟩ := padd_block (f := { f0 := nm, f1 := [], f2 := 0 }) hPa (Below.refl _ _) (own_nil _ _ _ _) hWb; rw [hNa] at hxb htb hlb; have HM5 := papp_pre (w := w) HP0.out HC0.out HX0.out HGe.out HGeg.out HTm.out HG3.out hP3 hWa hWb hPb hxb hbb hcb hNa; refine wpList_mapUpdate_own _ rfl (.tmp 73) (.tmp 74) (.tmp 75) 71 rfl 9 70 lawS Tryd.underlying71 ptrE m _ _ rfl hPb.map (by rw [pay_fs]; exact HFl.out) (.string nm) (.pointer (some ⟨w3.heap.size + 1, 0, none⟩)) (.string nm.data.toList) rfl rfl HKey.out (.lit (.int .i64 ((w3.heap.size + 1 : Nat) : Int))) [] (ptrE_mk _) ?_; intro W5 hm5 hg5; obtain ⟨hP5, hc5⟩ := hPb.add (by rw [pay_fs]; exact HOk.out.rises) (f := { f0 := nm, f1 := [], f2 := 0 }) (by rw [pay_fs]; exact HT.out) hxb hrb htb hlb hg5 hm5; have HN := Aside0.mk (HM5.out W5 hg5 hc5); have HN1 := Aside0.mk hP5; clear hWa hWb hP3 hba hNa hPa hPb hxb hrb htb hlb hbb hcb hm5 hg5 hP5 hc5 HM5)))
          obtain ⟨hX5, hc5, hv5, hge5, hgf5, htm5⟩ := HN.out
          have hP5 := HN1.out
          rw [show ({ ((d.fst nm).2.pay (xs.length + 1)).2.2 with fs := addF ((d.fst nm).2.pay (xs.length + 1)).2.2.fs { f0 := nm, f1 := [], f2 := 0 } } : Dk) = { ((d.fst nm).2.pay (xs.length + 1)).2.2 with fs := d.have nm } by rw [pay_fs, HDo.out]; rfl] at hP5
          have hrow5 : BRow b W5 col4 (.pb nm) (.slice none 0 0) [] := BRow.nil _ _ _ _
          obtain ⟨zs, hzs⟩ : ∃ zs, zs = ([] : List Int) ++ xs := ⟨_, rfl⟩
          have HRD : Aside0 (ReadsInt W5.drew .u8 DA xs.length xs) := ⟨hX5.rd⟩
          have HLL : Aside0 (([] : List Int).length + xs.length ≤ 140737488355328) := ⟨by have := HBX.out; simp only [List.length_nil]; omega⟩
          have HFin : Aside0 (∀ w7 v7, W5.drew.grownBy w7 (Value.slice none 0 0).ownBlock → w7.ownsRow b 5 1 v7 zs.length (nums .u8 zs) → (v7.ownBlock = (Value.slice none 0 0).ownBlock ∨ v7.ownBlock = some W5.heap.size) →
              w7.cell? ⟨w3.heap.size + 1, 0, none⟩ = some (.slice none 0 0) ∧ w7.frozen? ⟨w3.heap.size + 1, 0, none⟩ = false ∧ (w7.setCell ⟨w3.heap.size + 1, 0, none⟩ v7).cell? ⟨w.heap.size, 0, none⟩ = some (.int .i64 0) ∧ (w7.setCell ⟨w3.heap.size + 1, 0, none⟩ v7).frozen? ⟨w.heap.size, 0, none⟩ = false ∧ (w7.setCell ⟨w3.heap.size + 1, 0, none⟩ v7).cell? ⟨w3.heap.size, 0, none⟩ = some (.bool false) ∧ w3.heap.size ≠ w.heap.size ∧
              ∀ x y, PPost b w col g { ((d.fst nm).2.pay (xs.length + 1)).2.2 with fs := setF (d.have nm) nm (layF xs (getF (d.have nm) nm)) } (((w7.setCell ⟨w3.heap.size + 1, 0, none⟩ v7).setCell ⟨w.heap.size, 0, none⟩ x).setCell ⟨w.heap.size, 0, none⟩ y) ∧ PPost b w col g { ((d.fst nm).2.pay (xs.length + 1)).2.2 with fs := setF (d.have nm) nm (layF xs (getF (d.have nm) nm)) } ((w7.setCell ⟨w3.heap.size + 1, 0, none⟩ v7).setCell ⟨w.heap.size, 0, none⟩ x)) := ⟨fun w7 v7 hg ho hat => by
            have hgb : (fun s => if s = nm then w3.heap.size + 1 else gb s) nm = w3.heap.size + 1 := if_pos rfl
            obtain ⟨k1, k2, k3⟩ := papp_fin hP5 HRh.out (have_there d nm) (v := .slice none 0 0) (by rw [HGt.out]; exact (congrArg (fun q => W5.heap[q]?) hgb).trans hv5) (by rw [HGt.out]; exact hrow5) (gb_drew_l hg) ho hat
            rw [show (if nm = ({ f0 := nm, f1 := [], f2 := 0 } : Fl).f0 then w3.heap.size + 1 else gb nm) = w3.heap.size + 1 from if_pos rfl] at k1 k3
            have hkeep : ∀ (k : Nat) (cs : Array Value) (t : TypeId), W5.heap[k]? = some (.cells cs t (0, 0)) → t ≠ 76 → (w7.setCell ⟨w3.heap.size + 1, 0, none⟩ v7).heap[k]? = some (.cells cs t (0, 0)) := fun k cs t h1 n2 => by
              have hne : k ≠ w3.heap.size + 1 := fun e => by rw [e, hv5] at h1; injection h1 with h1; injection h1 with _ h4; exact n2 h4.symm
              exact (Below.heap_setCell w7 _ v7 k hne).trans ((hg.block k (blk_lt h1) (fun e => by cases e)).trans h1)
            have hk1 := hkeep _ _ _ hge5 (by decide)
            have hk2 := hkeep _ _ _ hgf5 (by decide)
            have hblk := k1.trans hv5
            have hP9 : PPost b W5 col4 g { ((d.fst nm).2.pay (xs.length + 1)).2.2 with fs := setF (d.have nm) nm (layF xs (getF (d.have nm) nm)) } (w7.setCell ⟨w3.heap.size + 1, 0, none⟩ v7) := by
              have e3 : layF xs (getF (d.have nm) nm) = { getF (d.have nm) nm with f1 := zs } := by unfold layF; rw [HGt.out, hzs]
              rw [e3]
              exact k3
            refine ⟨(blk_cell hblk 0).trans rfl, blk_frozen hblk 0, (blk_cell hk1 0).trans rfl, blk_frozen hk1 0, (blk_cell hk2 0).trans rfl, fun e => ?_, fun x y => ?_⟩
            · rw [e, hge5] at hgf5; injection hgf5 with h; injection h with _ h; exact absurd h (by decide)
            · exact ppost_set hP9 hc5 (Nat.le_refl _) (blk_lt hge5) htm5 x y⟩
          have x0 : W5.cell? ⟨w3.heap.size + 1, 0, none⟩ = some (.slice none 0 0) := (blk_cell hv5 0).trans rfl
          have HRow5 := Aside0.mk hrow5.own
          have HBas := Aside0.mk hP5.base
          have HZS := Aside0.mk hzs
          clear hP5 hX5 hc5 hv5 hrow5 hge5 hgf5 hzs c0 r0 r1 hlk hln htm5
          refine wp_region_noPanic ?_
          go_region_law
            (first | (refine step_append_row rfl (.tmp 80) (.tmp 83) 29 5 rfl Tryd.underlying29 infoB b (.slice none 0 0) ([] : List Int) xs DA xs.length dc rfl rfl HRow5.out HRD.out HBas.out HLL.out ?_; intro v7 w7 ho7 hg7 hat7; rw [← HZS.out] at ho7; obtain ⟨A7, C7, rfl, _⟩ := own_form ho7; obtain ⟨t0, t1, t2, t3, t4, t5, t6⟩ := HFin.out w7 _ hg7 ho7 hat7; have HT6 := Aside0.mk t6; have HT5 := Aside0.mk t5; clear ho7 hg7 hat7 t6 t5))
          refine NoPanic.normal ?_
          have u6 := HT6.out
          have u5 := HT5.out
          clear HT6 HT5 t0 t1
          generalize (w7.setCell ⟨w3.heap.size + 1, 0, none⟩ (.slice A7 zs.length C7)) = W8 at *
          have HU6 := Aside0.mk u6
          have HU5 := Aside0.mk u5
          clear u6 u5
          go_wp2
          refine leaves_cons (f := 47) (args := #[.pointer (some ⟨w3.heap.size, 0, none⟩), .pointer (some ⟨w.heap.size, 0, none⟩)]) (by simp) (by simp [go_sem]) ?_
          refine (capp_no _ _ .returning _ (set_other_cell HU5.out t4)).mono ?_
          rintro e u' w'' ⟨rfl, rfl, rfl⟩
          exact ⟨_, res_cell rfl (set_same t2), rfl, (HU6.out _ (.int .i64 0)).2⟩
      · have hszp : d.sz nm = (getF d.fs nm).f1.length := by unfold Dk.sz; rw [if_pos ht]
        have hbig : (getF d.fs nm).f1.length + xs.length ≤ 2097152 := by
          unfold Dk.full at hf
          rw [hszp] at hf
          have := fun h => hf (.inl h)
          omega
        have hdo : d.have nm = d.fs := by unfold Dk.have; rw [if_pos ht]
        have HLk : Aside0 (∀ W, W0.grownBy W (some g) → PG W g m (d.fst nm).2 → (Instr.lookup 71 (.map (some m)) (.string nm) false).run Tryd.prog W = .ok (.pointer (some ⟨gb nm, 0, none⟩)) W) := ⟨fun W h1 h2 => by have := HLkD.out W h1 h2; rwa [if_pos ht] at this⟩
        obtain ⟨v, hv, hrow⟩ := (HP0.out.file ht).ex
        obtain ⟨A, c, rfl, hcc, hrd, hbl⟩ := hrow.reads
        have hnmq := (there_get ht).2.2
        rw [hnmq] at hrow
        have hgne : gb nm ≠ g := fun e => by rw [e, HP0.out.blk] at hv; injection hv with hv; injection hv with _ h3; exact absurd h3 (by decide)
        have HVb := Aside0.mk hv
        have HRow := Aside0.mk hrow
        have HGne := Aside0.mk hgne
        have HBig := Aside0.mk hbig
        have HDo := Aside0.mk hdo
        have HT := Aside0.mk ht
        generalize hp1 : (getF d.fs nm).f1 = q1 at *
        generalize hp2 : (getF d.fs nm).f2 = q2 at *
        have HP1 := Aside0.mk hp1
        have HP2 := Aside0.mk hp2
        have HPy : Aside0 (∀ W, PG W g m (d.fst nm).2 → _) := ⟨fun W h => ppays g m (d.fst nm).2 (xs.length + 1) (by omega) (HOk.out.fst nm) W h⟩
        obtain ⟨T, hT⟩ : ∃ T : Int, T = (q1.length : Int) + (xs.length : Int) := ⟨_, rfl⟩
        have b1 : decide (2097152 < T) = false := decide_eq_false (by omega)
        have hxm : ¬ 2097152 < xs.length := by omega
        have b4 : decide (2097152 < (xs.length : Int)) = false := decide_eq_false (by omega)
        have b5 : decide (2097152 < xs.length) = false := decide_eq_false hxm
        have b6 : ¬ (2097152 : Int) < (xs.length : Int) := by omega
        have HKZ : Aside0 (wrap64 ((q1.length : Int) + (xs.length : Int)) = T) := ⟨(PA.wr (by omega) (by omega)).trans hT.symm⟩
        cases hpy : ((d.fst nm).2.pay (xs.length + 1)).1
        · rw [app_fell h0 hf hpy]
          obtain ⟨k, hk1, hk2, hk3⟩ := pay_fell hpy
          have hk4 : d.units.toNat = k := by have : d.units = k := hk1; omega
          have hk5 : k ≤ xs.length := by omega
          have k5 : (0 : Int) ≤ (k : Int) := by omega
          have k6 : (k : Int) ≤ (dc : Int) := by omega
          have HYL : Aside0 ((xs.take k).length = k) := ⟨by rw [List.length_take]; omega⟩
          have HK5 := Aside0.mk hk5
          rw [hk4]
          have kz := HKZ.out
          clear hf hszp hbig hdo hv hrow hcc hrd hbl hgne hp1 hp2 hT HLk0 HLkD hnmq hk1 hk3 hk4 hk5
          go_enter_defers Tryd.func35, Tryd.ntmps35
          go_upto_region 14 with (first | (go_at_call 45; rw [← HW0.out]; refine HF.out.mono ?_; rintro e w2 ⟨rfl, hg, hB⟩; rw [h0]; have HG := Aside0.mk hg; have HB := Aside0.mk hB; obtain ⟨r0, r1⟩ := HRes.out w2 hg; have c0 : World.cell? w2 ⟨g, 0, none⟩ = some (.map (some m)) := hB.cell; have hlk := HLk.out w2 hg hB; have y0 : World.cell? w2 ⟨gb nm, 0, none⟩ = some (.slice A q1.length c) := (blk_cell ((hg.block _ (blk_lt HVb.out) (fun e => HGne.out (by injection e))).trans HVb.out) 0).trans rfl; clear hg hB) | (go_at_call 46; refine (HPy.out _ HB.out).mono ?_; rintro e w3 ⟨rfl, hg, hB⟩; rw [hpy]; simp only [Bool.false_eq_true, if_false, Bool.not_false]; rw [hk2]; have HG3 := Aside0.mk (HG.out.trans hg); have HB3 := Aside0.mk hB; have c3 : ∀ o o', World.cell? ((w3.alloc o).alloc o') ⟨g, 0, none⟩ = some (.map (some m)) := (fun o o' => ((below_alloc (below_alloc (Below.refl w3.heap.size w3) o) o').cell (World.block_lt_of_cell? _ _ hB.cell)).trans hB.cell); clear hg hB))
          obtain ⟨ar5, u5, hP3⟩ := HP0.out.turn HG3.out HB3.out (pay_fs _ _)
          obtain ⟨W5, hW5⟩ : ∃ W5, W5 = w3.alloc (.cells #[.bool true] 4) := ⟨_, rfl⟩
          rw [← hW5]
          have hb5 : Below w3.heap.size w3 W5 := by rw [hW5]; exact below_alloc (Below.refl _ _) _
          have hP5 := hP3.below hb5
          have hX5 := (HX0.out.ch (HP0.out.ch_of HG3.out) (fun _ h => h)).ch (Ch.of_below (b := b) (S := isP) hb5 hP3.base) (fun _ h => h)
          have hc5 := (HC0.out.trans (HP0.out.ch_of HG3.out)).trans (Ch.of_below (b := b) (S := isP) hb5 hP3.base)
          have hv5 : W5.heap[gb nm]? = some (.cells #[.slice A q1.length c, .int .i64 q2] 76 (0, 0)) := (hb5.block _ (Nat.lt_of_lt_of_le (blk_lt HVb.out) HG3.out.size)).trans ((HG3.out.block _ (blk_lt HVb.out) (fun e => HGne.out (by injection e))).trans HVb.out)
          have hrow5 : BRow b W5 _ (.pb nm) (.slice A q1.length c) q1 := (HRow.out.ch (Ch.of_grown' (S := fun r => r = .pd) HG3.out HP0.out.base HP0.out.le HP0.out.tag) (fun e => by cases e)).ch (Ch.of_below (b := b) (S := fun _ => False) hb5 hP3.base) (fun h => h)
          have hge5 : W5.heap[w.heap.size]? = some (.cells #[.int .i64 0] 34 (0, 0)) := (hb5.block _ (Nat.lt_of_lt_of_le (blk_lt HGe.out) HG3.out.size)).trans ((HG3.out.block _ (blk_lt HGe.out) (fun e => HGeg.out (by injection e))).trans HGe.out)
          have hgf5 : W5.heap[w3.heap.size]? = some (.cells #[.bool true] 4 (0, 0)) := by rw [hW5]; exact heap_alloc_new w3 _
          obtain ⟨zs, hzs⟩ : ∃ zs, zs = q1 ++ (xs.take k) := ⟨_, rfl⟩
          have HRD : Aside0 (ReadsInt W5.drew .u8 DA k (xs.take k)) := ⟨by have := reads_take hX5.rd k HK5.out; rwa [HYL.out] at this⟩
          have HLL : Aside0 (q1.length + k ≤ 140737488355328) := ⟨by have := HBig.out; have := HK5.out; omega⟩
          have HFin : Aside0 (∀ w7 v7, W5.drew.grownBy w7 (Value.slice A q1.length c).ownBlock → w7.ownsRow b 5 1 v7 zs.length (nums .u8 zs) → (v7.ownBlock = (Value.slice A q1.length c).ownBlock ∨ v7.ownBlock = some W5.heap.size) →
              w7.cell? ⟨gb nm, 0, none⟩ = some (.slice A q1.length c) ∧ w7.frozen? ⟨gb nm, 0, none⟩ = false ∧ (w7.setCell ⟨gb nm, 0, none⟩ v7).cell? ⟨w.heap.size, 0, none⟩ = some (.int .i64 0) ∧ (w7.setCell ⟨gb nm, 0, none⟩ v7).frozen? ⟨w.heap.size, 0, none⟩ = false ∧ (w7.setCell ⟨gb nm, 0, none⟩ v7).cell? ⟨w3.heap.size, 0, none⟩ = some (.bool true) ∧ w3.heap.size ≠ w.heap.size ∧
              ∀ x y, PPost b w col g { ((d.fst nm).2.pay (xs.length + 1)).2.2 with fs := setF (d.have nm) nm (layF (xs.take k) (getF (d.have nm) nm)) } (((w7.setCell ⟨gb nm, 0, none⟩ v7).setCell ⟨w.heap.size, 0, none⟩ x).setCell ⟨w.heap.size, 0, none⟩ y) ∧ PPost b w col g { ((d.fst nm).2.pay (xs.length + 1)).2.2 with fs := setF (d.have nm) nm (layF (xs.take k) (getF (d.have nm) nm)) } ((w7.setCell ⟨gb nm, 0, none⟩ v7).setCell ⟨w.heap.size, 0, none⟩ x)) := ⟨fun w7 v7 hg ho hat => by
            have hht : there ((d.fst nm).2.pay (xs.length + 1)).2.2.fs nm = true := by rw [pay_fs]; exact HT.out
            have e1 : (getF ((d.fst nm).2.pay (xs.length + 1)).2.2.fs nm).f1 = q1 := by rw [pay_fs]; exact HP1.out
            have e2 : (getF ((d.fst nm).2.pay (xs.length + 1)).2.2.fs nm).f2 = q2 := by rw [pay_fs]; exact HP2.out
            obtain ⟨k1, k2, k3⟩ := papp_fin hP5 (by rw [pay_fs]; exact HOk.out.rises) hht (v := .slice A q1.length c) (by rw [e2]; exact hv5) (by rw [e1]; exact hrow5) (gb_drew_l hg) ho hat
            have hkeep : ∀ (k : Nat) (cs : Array Value) (t : TypeId), W5.heap[k]? = some (.cells cs t (0, 0)) → t ≠ 5 → t ≠ 76 → (w7.setCell ⟨gb nm, 0, none⟩ v7).heap[k]? = some (.cells cs t (0, 0)) := fun k cs t h1 n1 n2 => by
              have hne : k ≠ gb nm := fun e => by rw [e, hv5] at h1; injection h1 with h1; injection h1 with _ h4; exact n2 h4.symm
              have hno : some k ≠ (Value.slice A q1.length c).ownBlock := own_ne hrow5.own h1 (Ne.symm n1)
              exact (Below.heap_setCell w7 _ v7 k hne).trans ((hg.block k (blk_lt h1) hno.symm.symm).trans h1)
            have hk1 := hkeep _ _ _ hge5 (by decide) (by decide)
            have hk2 := hkeep _ _ _ hgf5 (by decide) (by decide)
            have hblk := k1.trans hv5
            have hP9 : PPost b W5 (colN col w.heap.size fun _ => .tm) g { ((d.fst nm).2.pay (xs.length + 1)).2.2 with fs := setF (d.have nm) nm (layF (xs.take k) (getF (d.have nm) nm)) } (w7.setCell ⟨gb nm, 0, none⟩ v7) := by
              rw [pay_fs] at k3
              rw [HDo.out]
              have e3 : layF (xs.take k) (getF d.fs nm) = { getF d.fs nm with f1 := zs } := by unfold layF; rw [HP1.out, hzs]
              rw [e3]
              exact k3
            refine ⟨(blk_cell hblk 0).trans rfl, blk_frozen hblk 0, (blk_cell hk1 0).trans rfl, blk_frozen hk1 0, (blk_cell hk2 0).trans rfl, fun e => ?_, fun x y => ?_⟩
            · rw [e, hge5] at hgf5; injection hgf5 with h; injection h with _ h; exact absurd h (by decide)
            · exact ppost_set hP9 hc5 (Nat.le_refl _) (blk_lt hge5) HTm.out x y⟩
          have x0 : W5.cell? ⟨gb nm, 0, none⟩ = some (.slice A q1.length c) := (blk_cell hv5 0).trans rfl
          have HX0' := Aside0.mk x0
          have HRow5 := Aside0.mk hrow5.own
          have HBas := Aside0.mk hP5.base
          have HZS := Aside0.mk hzs
          clear hP3 hW5 hb5 hP5 hX5 hc5 hv5 hrow5 hge5 hgf5 hzs y0 c0 r0 r1 hlk
          refine wp_region_noPanic ?_
          go_region_law
            (first | (refine step_append_row rfl (.tmp 80) (.tmp 83) 29 5 rfl Tryd.underlying29 infoB b (.slice A q1.length c) q1 (xs.take k) DA k dc rfl rfl HRow5.out HRD.out HBas.out HLL.out ?_; intro v7 w7 ho7 hg7 hat7; rw [← HZS.out] at ho7; obtain ⟨A7, C7, rfl, _⟩ := own_form ho7; obtain ⟨t0, t1, t2, t3, t4, t5, t6⟩ := HFin.out w7 _ hg7 ho7 hat7; have HT6 := Aside0.mk t6; have HT5 := Aside0.mk t5; clear ho7 hg7 hat7 t6 t5))
          refine NoPanic.normal ?_
          have u6 := HT6.out
          have u5 := HT5.out
          clear HT6 HT5 t0 t1
          generalize (w7.setCell ⟨gb nm, 0, none⟩ (.slice A7 zs.length C7)) = W8 at *
          have HU6 := Aside0.mk u6
          have HU5 := Aside0.mk u5
          clear u6 u5
          go_wp2
          refine leaves_cons (f := 47) (args := #[.pointer (some ⟨w3.heap.size, 0, none⟩), .pointer (some ⟨w.heap.size, 0, none⟩)]) (by simp) (by simp [go_sem]) ?_
          refine (capp_yes _ _ 0 .returning _ (set_other_cell HU5.out t4) (set_same t2) (set_frozen t3)).mono ?_
          rintro e u' w'' ⟨rfl, rfl, rfl⟩
          exact ⟨_, res_cell rfl (set_same (set_same t2)), rfl, (HU6.out _ _).1⟩
        · rw [app_done h0 hf hpy]
          have k5 : (0 : Int) ≤ (xs.length : Int) := by omega
          have k6 : (xs.length : Int) ≤ (dc : Int) := by omega
          have kz := HKZ.out
          clear hf hszp hbig hdo hv hrow hcc hrd hbl hgne hp1 hp2 hT HLk0 HLkD hnmq
          go_enter_defers Tryd.func35, Tryd.ntmps35
          go_upto_region 14 with (first | (go_at_call 45; rw [← HW0.out]; refine HF.out.mono ?_; rintro e w2 ⟨rfl, hg, hB⟩; rw [h0]; have HG := Aside0.mk hg; have HB := Aside0.mk hB; obtain ⟨r0, r1⟩ := HRes.out w2 hg; have c0 : World.cell? w2 ⟨g, 0, none⟩ = some (.map (some m)) := hB.cell; have hlk := HLk.out w2 hg hB; have y0 : World.cell? w2 ⟨gb nm, 0, none⟩ = some (.slice A q1.length c) := (blk_cell ((hg.block _ (blk_lt HVb.out) (fun e => HGne.out (by injection e))).trans HVb.out) 0).trans rfl; clear hg hB) | (go_at_call 46; refine (HPy.out _ HB.out).mono ?_; rintro e w3 ⟨rfl, hg, hB⟩; rw [hpy]; have HG3 := Aside0.mk (HG.out.trans hg); have HB3 := Aside0.mk hB; have c3 : ∀ o o', World.cell? ((w3.alloc o).alloc o') ⟨g, 0, none⟩ = some (.map (some m)) := (fun o o' => ((below_alloc (below_alloc (Below.refl w3.heap.size w3) o) o').cell (World.block_lt_of_cell? _ _ hB.cell)).trans hB.cell); clear hg hB))
          obtain ⟨ar5, u5, hP3⟩ := HP0.out.turn HG3.out HB3.out (pay_fs _ _)
          obtain ⟨W5, hW5⟩ : ∃ W5, W5 = w3.alloc (.cells #[.bool false] 4) := ⟨_, rfl⟩
          rw [← hW5]
          have hb5 : Below w3.heap.size w3 W5 := by rw [hW5]; exact below_alloc (Below.refl _ _) _
          have hP5 := hP3.below hb5
          have hX5 := (HX0.out.ch (HP0.out.ch_of HG3.out) (fun _ h => h)).ch (Ch.of_below (b := b) (S := isP) hb5 hP3.base) (fun _ h => h)
          have hc5 := (HC0.out.trans (HP0.out.ch_of HG3.out)).trans (Ch.of_below (b := b) (S := isP) hb5 hP3.base)
          have hv5 : W5.heap[gb nm]? = some (.cells #[.slice A q1.length c, .int .i64 q2] 76 (0, 0)) := (hb5.block _ (Nat.lt_of_lt_of_le (blk_lt HVb.out) HG3.out.size)).trans ((HG3.out.block _ (blk_lt HVb.out) (fun e => HGne.out (by injection e))).trans HVb.out)
          have hrow5 : BRow b W5 _ (.pb nm) (.slice A q1.length c) q1 := (HRow.out.ch (Ch.of_grown' (S := fun r => r = .pd) HG3.out HP0.out.base HP0.out.le HP0.out.tag) (fun e => by cases e)).ch (Ch.of_below (b := b) (S := fun _ => False) hb5 hP3.base) (fun h => h)
          have hge5 : W5.heap[w.heap.size]? = some (.cells #[.int .i64 0] 34 (0, 0)) := (hb5.block _ (Nat.lt_of_lt_of_le (blk_lt HGe.out) HG3.out.size)).trans ((HG3.out.block _ (blk_lt HGe.out) (fun e => HGeg.out (by injection e))).trans HGe.out)
          have hgf5 : W5.heap[w3.heap.size]? = some (.cells #[.bool false] 4 (0, 0)) := by rw [hW5]; exact heap_alloc_new w3 _
          obtain ⟨zs, hzs⟩ : ∃ zs, zs = q1 ++ xs := ⟨_, rfl⟩
          have HRD : Aside0 (ReadsInt W5.drew .u8 DA xs.length xs) := ⟨hX5.rd⟩
          have HLL : Aside0 (q1.length + xs.length ≤ 140737488355328) := ⟨by have := HBig.out; omega⟩
          have HFin : Aside0 (∀ w7 v7, W5.drew.grownBy w7 (Value.slice A q1.length c).ownBlock → w7.ownsRow b 5 1 v7 zs.length (nums .u8 zs) → (v7.ownBlock = (Value.slice A q1.length c).ownBlock ∨ v7.ownBlock = some W5.heap.size) →
              w7.cell? ⟨gb nm, 0, none⟩ = some (.slice A q1.length c) ∧ w7.frozen? ⟨gb nm, 0, none⟩ = false ∧ (w7.setCell ⟨gb nm, 0, none⟩ v7).cell? ⟨w.heap.size, 0, none⟩ = some (.int .i64 0) ∧ (w7.setCell ⟨gb nm, 0, none⟩ v7).frozen? ⟨w.heap.size, 0, none⟩ = false ∧ (w7.setCell ⟨gb nm, 0, none⟩ v7).cell? ⟨w3.heap.size, 0, none⟩ = some (.bool false) ∧ w3.heap.size ≠ w.heap.size ∧
              ∀ x y, PPost b w col g { ((d.fst nm).2.pay (xs.length + 1)).2.2 with fs := setF (d.have nm) nm (layF xs (getF (d.have nm) nm)) } (((w7.setCell ⟨gb nm, 0, none⟩ v7).setCell ⟨w.heap.size, 0, none⟩ x).setCell ⟨w.heap.size, 0, none⟩ y) ∧ PPost b w col g { ((d.fst nm).2.pay (xs.length + 1)).2.2 with fs := setF (d.have nm) nm (layF xs (getF (d.have nm) nm)) } ((w7.setCell ⟨gb nm, 0, none⟩ v7).setCell ⟨w.heap.size, 0, none⟩ x)) := ⟨fun w7 v7 hg ho hat => by
            have hht : there ((d.fst nm).2.pay (xs.length + 1)).2.2.fs nm = true := by rw [pay_fs]; exact HT.out
            have e1 : (getF ((d.fst nm).2.pay (xs.length + 1)).2.2.fs nm).f1 = q1 := by rw [pay_fs]; exact HP1.out
            have e2 : (getF ((d.fst nm).2.pay (xs.length + 1)).2.2.fs nm).f2 = q2 := by rw [pay_fs]; exact HP2.out
            obtain ⟨k1, k2, k3⟩ := papp_fin hP5 (by rw [pay_fs]; exact HOk.out.rises) hht (v := .slice A q1.length c) (by rw [e2]; exact hv5) (by rw [e1]; exact hrow5) (gb_drew_l hg) ho hat
            have hkeep : ∀ (k : Nat) (cs : Array Value) (t : TypeId), W5.heap[k]? = some (.cells cs t (0, 0)) → t ≠ 5 → t ≠ 76 → (w7.setCell ⟨gb nm, 0, none⟩ v7).heap[k]? = some (.cells cs t (0, 0)) := fun k cs t h1 n1 n2 => by
              have hne : k ≠ gb nm := fun e => by rw [e, hv5] at h1; injection h1 with h1; injection h1 with _ h4; exact n2 h4.symm
              have hno : some k ≠ (Value.slice A q1.length c).ownBlock := own_ne hrow5.own h1 (Ne.symm n1)
              exact (Below.heap_setCell w7 _ v7 k hne).trans ((hg.block k (blk_lt h1) hno.symm.symm).trans h1)
            have hk1 := hkeep _ _ _ hge5 (by decide) (by decide)
            have hk2 := hkeep _ _ _ hgf5 (by decide) (by decide)
            have hblk := k1.trans hv5
            have hP9 : PPost b W5 (colN col w.heap.size fun _ => .tm) g { ((d.fst nm).2.pay (xs.length + 1)).2.2 with fs := setF (d.have nm) nm (layF xs (getF (d.have nm) nm)) } (w7.setCell ⟨gb nm, 0, none⟩ v7) := by
              rw [pay_fs] at k3
              rw [HDo.out]
              have e3 : layF xs (getF d.fs nm) = { getF d.fs nm with f1 := zs } := by unfold layF; rw [HP1.out, hzs]
              rw [e3]
              exact k3
            refine ⟨(blk_cell hblk 0).trans rfl, blk_frozen hblk 0, (blk_cell hk1 0).trans rfl, blk_frozen hk1 0, (blk_cell hk2 0).trans rfl, fun e => ?_, fun x y => ?_⟩
            · rw [e, hge5] at hgf5; injection hgf5 with h; injection h with _ h; exact absurd h (by decide)
            · exact ppost_set hP9 hc5 (Nat.le_refl _) (blk_lt hge5) HTm.out x y⟩
          have x0 : W5.cell? ⟨gb nm, 0, none⟩ = some (.slice A q1.length c) := (blk_cell hv5 0).trans rfl
          have HX0' := Aside0.mk x0
          have HRow5 := Aside0.mk hrow5.own
          have HBas := Aside0.mk hP5.base
          have HZS := Aside0.mk hzs
          clear hP3 hW5 hb5 hP5 hX5 hc5 hv5 hrow5 hge5 hgf5 hzs y0 c0 r0 r1 hlk
          refine wp_region_noPanic ?_
          go_region_law
            (first | (refine step_append_row rfl (.tmp 80) (.tmp 83) 29 5 rfl Tryd.underlying29 infoB b (.slice A q1.length c) q1 xs DA xs.length dc rfl rfl HRow5.out HRD.out HBas.out HLL.out ?_; intro v7 w7 ho7 hg7 hat7; rw [← HZS.out] at ho7; obtain ⟨A7, C7, rfl, _⟩ := own_form ho7; obtain ⟨t0, t1, t2, t3, t4, t5, t6⟩ := HFin.out w7 _ hg7 ho7 hat7; have HT6 := Aside0.mk t6; have HT5 := Aside0.mk t5; clear ho7 hg7 hat7 t6 t5))
          refine NoPanic.normal ?_
          have u6 := HT6.out
          have u5 := HT5.out
          clear HT6 HT5 t0 t1
          generalize (w7.setCell ⟨gb nm, 0, none⟩ (.slice A7 zs.length C7)) = W8 at *
          have HU6 := Aside0.mk u6
          have HU5 := Aside0.mk u5
          clear u6 u5
          go_wp2
          refine leaves_cons (f := 47) (args := #[.pointer (some ⟨w3.heap.size, 0, none⟩), .pointer (some ⟨w.heap.size, 0, none⟩)]) (by simp) (by simp [go_sem]) ?_
          refine (capp_no _ _ .returning _ (set_other_cell HU5.out t4)).mono ?_
          rintro e u' w'' ⟨rfl, rfl, rfl⟩
          exact ⟨_, res_cell rfl (set_same t2), rfl, (HU6.out _ (.int .i64 0)).2⟩
  all_goals
    rw [app_err h0 (by omega)]
    go_enter_defers Tryd.func35, Tryd.ntmps35
    go_wp2_with (first | (go_at_call 45; rw [← HW0.out]; refine HF.out.mono ?_; rintro e w2 ⟨rfl, hg, hB⟩; rw [h0]; have HG := Aside0.mk hg; have HB := Aside0.mk hB; obtain ⟨r0, r1⟩ := HRes.out w2 hg;  clear hg hB))
    exact ⟨_, res_cell rfl (set_same r0), rfl, HEnd.out _ HG.out HB.out _⟩
end Go.Proofs.YthneomomhoilkaaDoor.PA
