/- Several texts of this claim in one, each in a section of its own; what nothing reaches is left out. Conditions: each law's own. -/
import Derived.Test.YthneomomhoilkaaDoorMB
import Derived.StringKeys
import Derived.Test.YthneomomhoilkaaDoorML
import Derived.BigRegion
import Derived.StillTailTactics
import Derived.Laws.CopyOwn
import Derived.Deep.RegionHeld3
set_option linter.unusedVariables false
set_option linter.unusedSimpArgs false
set_option linter.unusedSectionVars false
section
namespace Go.Proofs.YthneomomhoilkaaDoor.PA
open Go.RowKit Go.Maps Go.Proofs.YthneomomhoilkaaDoorW.PrintWords Go.Proofs.YthneomomhoilkaaDoorW.PrintLast Go.Proofs.YthneomomhoilkaaDoorW.PrintMore
def PG (W : World) (g m : Nat) (d : Dk) : Prop := ∃ ar u, PB W g (.map (some m)) d.down ar u d.after d.calls ∧ ar = decide (0 ≤ d.units) ∧ (0 ≤ d.units → u = d.units)
section
variable {b g m : Nat} {W W' : World} {col : RCol} {d d' : Dk} {gb : ByteArray → Nat} {ar : Bool} {u : Int}
theorem PDm.pg (h : PDm b W col g d m gb ar u) : PG W g m d := ⟨ar, u, h.blk, h.arm, h.unit⟩
theorem PDm.below (h : PDm b W col g d m gb ar u) (hb : Below W.heap.size W W') : PDm b W' col g d m gb ar u :=
  h.ch (Ch.of_below (S := fun _ => False) hb (Nat.le_trans h.le (Nat.le_of_lt (blk_lt h.blk)))) (fun _ _ h => h)
theorem PDm.turn (h : PDm b W col g d m gb ar u) (hg : W.grownBy W' (some g)) (hB : PG W' g m d') (hf : d'.fs = d.fs) : ∃ ar' u', PDm b W' col g d' m gb ar' u' := by
  obtain ⟨ar', u', h1, h2, h3⟩ := hB
  have hc : Ch b W col W' col (fun r => r = .pd) := Ch.of_grown' hg (Nat.le_trans h.le (Nat.le_of_lt (blk_lt h.blk))) h.le h.tag
  refine ⟨ar', u', h1, h.tag, h.le, h2, h3, ?_, h.mtag, h.mle, ?_⟩
  · obtain ⟨es, clock, hb, r⟩ := h.map
    rw [hf]
    exact ⟨es, clock, hc.blk hb (by rw [h.mtag]; exact fun e => by cases e), r⟩
  · intro f hf'
    rw [hf] at hf'
    exact (h.files f hf').ch hc (fun e => by cases e) (fun e => by cases e)
theorem PDm.ch_of (h : PDm b W col g d m gb ar u) (hg : W.grownBy W' (some g)) : Ch b W col W' col isP :=
  Ch.of_grown' hg (Nat.le_trans h.le (Nat.le_of_lt (blk_lt h.blk))) h.le (by rw [h.tag]; trivial)
theorem PDm.base (h : PDm b W col g d m gb ar u) : b ≤ W.heap.size := Nat.le_trans h.le (Nat.le_of_lt (blk_lt h.blk))
set_option maxRecDepth 100000 in
theorem zptr (W : World) : (zeroValue 70).run Tryd.prog W = .ok (.pointer none) W := by
  rfl
set_option maxRecDepth 100000 in
theorem PDm.look (h : PDm b W col g d m gb ar u) (hr : Rises d.fs) (nm : ByteArray) (hs : nm.size ≤ 140737488355328) :
    (Instr.lookup 71 (.map (some m)) (.string nm) false).run Tryd.prog W = .ok (.pointer (if there d.fs nm = true then some ⟨gb nm, 0, none⟩ else none)) W := by
  have hkey : keyOf Tryd.prog 9 (.string nm) = some (.string nm.data.toList) := WideMaps.keyOf_string_mk Tryd.underlying9 (by simp only [maxLen]; omega)
  obtain ⟨v, ps, hrun, hv⟩ := h.map.lookup lawS Tryd.underlying71 (zptr W) ptrE_nil hkey
  rw [mapD_at hr gb nm] at hv
  rw [hrun]
  obtain ⟨p, rfl, hp⟩ := ptrE_inv hv
  congr 2
  split at hp
  · rename_i ht
    rw [if_pos ht]
    rcases hp with ⟨k, rfl, e⟩ | ⟨_, e⟩
    · injection e with e
      injection e with e1 e2
      have : (gb nm : Int) = (k : Int) := e2
      rw [Int.ofNat_inj.1 this]
    · cases e
  · rename_i ht
    rw [if_neg ht]
    rcases hp with ⟨k, rfl, e⟩ | ⟨rfl, _⟩
    · cases e
    · rfl
theorem own_exact {D : DataW Unit} {n : Nat} (h : W.ownsMap Tryd.prog 9 ptrE m n D) : W.ownsMap Tryd.prog 9 ptrE m (Maps.size D) D := by
  obtain ⟨es, clock, hb, F, _, rfl⟩ := h
  exact ⟨es, clock, hb, F, by simp [Maps.size, length_sorted], rfl⟩
theorem PDm.file (h : PDm b W col g d m gb ar u) {nm : ByteArray} (ht : there d.fs nm = true) : PFile b W col (getF d.fs nm) (gb nm) := by
  have := h.files _ (there_mem ht)
  rwa [(there_get ht).2.2] at this
end
set_option maxRecDepth 100000 in
set_option maxHeartbeats 4000000 in
theorem ppays (g m : Nat) (d : Dk) (x : Int) (h0 : 0 ≤ x) (hd : d.Ok) (w : World) (hG : PG w g m d) :
    Calls Tryd.prog 46 #[.pointer (some ⟨g, 0, none⟩), .int .i64 x] w fun e w' => e = .returned (.tuple #[.int .i64 (if (d.pay x).1 = true then x else (d.pay x).2.1), .bool (!(d.pay x).1)]) ∧ w.grownBy w' (some g) ∧ PG w' g m (d.pay x).2.2 := by
  obtain ⟨ar, u, hB, ha, hu⟩ := hG
  unfold Dk.pay
  split
  · rename_i h1
    refine (ppaid_free g _ d.down ar u d.after d.calls x (by rw [ha]; exact decide_eq_false (by omega)) w hB).mono ?_
    rintro e w' ⟨rfl, hg, hB'⟩
    exact ⟨rfl, hg, ar, u, hB', ha, hu⟩
  rename_i h1
  have hu' := hu (by omega)
  have ha' : ar = true := by rw [ha]; exact decide_eq_true (by omega)
  split
  · rename_i h2
    refine (ppaid_ok g _ d.down ar u d.after d.calls x ha' (by omega) h0 (by have := hd.u1; omega) w hB).mono ?_
    rintro e w' ⟨rfl, hg, hB'⟩
    refine ⟨rfl, hg, ar, _, hB', ?_, fun _ => by show u - x = d.units - x; omega⟩
    show ar = decide (0 ≤ d.units - x)
    rw [ha', eq_comm]
    exact decide_eq_true (by omega)
  · rename_i h2
    refine (ppaid_fall g _ d.down ar u d.after d.calls x ha' (by omega) w hB).mono ?_
    rintro e w' ⟨rfl, hg, hB'⟩
    exact ⟨by rw [hu']; rfl, hg, false, 0, hB', rfl, fun h => by simp [Dk.fell] at h⟩
theorem pfirst (g m : Nat) (d : Dk) (nm : ByteArray) (hs : nm.size ≤ 140737488355328) (hd : d.Ok) (w : World) (hG : PG w g m d) :
    Calls Tryd.prog 45 #[.pointer (some ⟨g, 0, none⟩), .string nm] w fun e w' => e = .returned (.int .i64 (firstS (Nm nm) d.down d.after d.calls).1) ∧ w.grownBy w' (some g) ∧ PG w' g m (d.fst nm).2 := by
  obtain ⟨ar, u, hB, ha, hu⟩ := hG
  refine (pahead g _ d.down ar u d.after d.calls nm hs hd.a1 hd.c1 w hB).mono ?_
  rintro e w' ⟨rfl, hg, hB'⟩
  exact ⟨rfl, hg, ar, u, hB', ha, hu⟩
theorem set_other {fs : List Fl} (hr : Rises fs) {nm : ByteArray} (ht : there fs nm = true) {f x : Fl} (hx : x ∈ setF fs nm f) : x = f ∨ (x ∈ fs ∧ x.f0 ≠ nm) := by
  obtain ⟨hl, hg, he⟩ := there_get ht
  obtain ⟨j, hj⟩ := List.mem_iff_getElem?.1 hx
  unfold setF at hj
  rw [List.getElem?_set] at hj
  split at hj
  · left
    injection hj with hj
    exact hj.symm
  · rename_i hne
    right
    refine ⟨List.mem_of_getElem? hj, fun e => ?_⟩
    have hjl : j < fs.length := (List.getElem?_eq_some_iff.1 hj).1
    have e1 : fs[j] = x := (List.getElem?_eq_some_iff.1 hj).2
    have e2 : fs[place fs nm] = getF fs nm := (List.getElem?_eq_some_iff.1 hg).2
    rcases Nat.lt_or_gt_of_ne hne with h | h
    · have := List.pairwise_iff_getElem.1 hr _ _ hl hjl h
      rw [e1, e2, he, e] at this
      exact List.lt_irrefl _ this
    · have := List.pairwise_iff_getElem.1 hr _ _ hjl hl h
      rw [e1, e2, he, e] at this
      exact List.lt_irrefl _ this
theorem setF_len (fs : List Fl) (nm : ByteArray) (f : Fl) : (setF fs nm f).length = fs.length := by unfold setF; rw [List.length_set]
section
variable {b g m : Nat} {W W' : World} {col : RCol} {d : Dk} {gb : ByteArray → Nat} {ar : Bool} {u : Int}
theorem PDm.set (h : PDm b W col g d m gb ar u) (hr : Rises d.fs) {nm : ByteArray} (ht : there d.fs nm = true) {f : Fl} (hf : f.f0 = nm) {v : Value}
    (hg : W.grownBy W' (some (gb nm))) (hb : W'.heap[gb nm]? = some (.cells #[v, .int .i64 f.f2] 76 (0, 0))) (hv : BRow b W' col (.pb nm) v f.f1) :
    PDm b W' col g { d with fs := setF d.fs nm f } m gb ar u ∧ Ch b W col W' col isP := by
  have hpf := h.file ht
  rw [show gb nm = gb nm from rfl] at hpf
  have htag : col (gb nm) = .pf nm := by have := hpf.tag; rwa [(there_get ht).2.2] at this
  have hc : Ch b W col W' col (fun r => r = .pf nm) := Ch.of_grown' hg h.base hpf.le htag
  have hnm := names_set ht hf
  refine ⟨⟨hc.blk h.blk (by rw [h.tag]; exact fun e => by cases e), h.tag, h.le, h.arm, h.unit, ?_, h.mtag, h.mle, ?_⟩, hc.mono fun r e => e ▸ trivial⟩
  · obtain ⟨es, clock, hb, r⟩ := h.map
    show W'.ownsMap _ _ _ _ (setF d.fs nm f).length (mapD (setF d.fs nm f) gb)
    rw [setF_len, mapD_names hnm gb]
    exact ⟨es, clock, hc.blk hb (by rw [h.mtag]; exact fun e => by cases e), r⟩
  · intro x hx
    rcases set_other hr ht hx with rfl | ⟨hx, hne⟩
    · rw [hf]
      exact ⟨⟨v, hb, by rw [hf]; exact hv⟩, by rw [hf]; exact htag, hpf.le⟩
    · exact (h.files x hx).ch hc (fun e => hne (by cases e; rfl)) (fun e => by cases e)
theorem PDm.rem (h : PDm b W col g d m gb ar u) (hr : Rises d.fs) {nm : ByteArray} (ht : there d.fs nm = true)
    (hg : W.grownBy W' (some m)) (hm : W'.ownsMap Tryd.prog 9 ptrE m d.fs.length ((mapD d.fs gb).del (.string nm.data.toList))) :
    PDm b W' col g { d with fs := remF d.fs nm } m gb ar u ∧ Ch b W col W' col isP := by
  have hc : Ch b W col W' col (fun r => r = .pm) := Ch.of_grown' hg h.base h.mle h.mtag
  refine ⟨⟨hc.blk h.blk (by rw [h.tag]; exact fun e => by cases e), h.tag, h.le, h.arm, h.unit, ?_, h.mtag, h.mle, ?_⟩, hc.mono fun r e => e ▸ trivial⟩
  · rw [mapD_del hr gb nm ht] at hm
    have := own_exact hm
    rwa [mapD_size] at this
  · intro x hx
    have hx' : x ∈ d.fs := by
      unfold remF at hx
      rw [List.mem_append] at hx
      rcases hx with h | h
      · exact List.mem_of_mem_take h
      · exact List.mem_of_mem_drop h
    exact (h.files x hx').ch hc (fun e => by cases e) (fun e => by cases e)
theorem PDm.add (h : PDm b W col g d m gb ar u) (hr : Rises d.fs) {f : Fl} (ht : there d.fs f.f0 = false) {gf : Nat} {v : Value} (hgf : W.heap[gf]? = some (.cells #[v, .int .i64 f.f2] 76 (0, 0))) (hv : BRow b W col (.pb f.f0) v f.f1) (htag : col gf = .pf f.f0) (hle : b ≤ gf)
    (hg : W.grownBy W' (some m)) (hm : W'.ownsMap Tryd.prog 9 ptrE m (d.fs.length + 1) ((mapD d.fs gb).put (.string f.f0.data.toList) (.lit (.int .i64 gf)))) :
    PDm b W' col g { d with fs := addF d.fs f } m (fun s => if s = f.f0 then gf else gb s) ar u ∧ Ch b W col W' col isP := by
  have hc : Ch b W col W' col (fun r => r = .pm) := Ch.of_grown' hg h.base h.mle h.mtag
  refine ⟨⟨hc.blk h.blk (by rw [h.tag]; exact fun e => by cases e), h.tag, h.le, h.arm, h.unit, ?_, h.mtag, h.mle, ?_⟩, hc.mono fun r e => e ▸ trivial⟩
  · have hcg : mapD (H := Unit) d.fs gb = mapD d.fs (fun s => if s = f.f0 then gf else gb s) := (mapD_congr fun x hx => if_neg (not_there hr ht hx)).symm
    rw [hcg, mapD_put hr _ f ht gf (if_pos rfl)] at hm
    show W'.ownsMap _ _ _ _ (addF d.fs f).length _
    rw [addF_len]
    exact hm
  · intro x hx
    rcases addF_mem.1 hx with rfl | hx
    · rw [if_pos rfl]
      exact ⟨⟨v, hc.blk hgf (by rw [htag]; exact fun e => by cases e), hv.ch hc (fun e => by cases e)⟩, htag, hle⟩
    · rw [if_neg (not_there hr ht hx)]
      exact (h.files x hx).ch hc (fun e => by cases e) (fun e => by cases e)
end
theorem PPost.go {b g : Nat} {w W W' : World} {col : RCol} {d : Dk} (h : PPost b w col g d W) (hb : Below W.heap.size W W') : PPost b w col g d W' := by
  obtain ⟨col', h1, h2⟩ := h
  have hc : Ch b W col' W' col' (fun _ => False) := Ch.of_below hb h1.le'
  exact ⟨col', h1.trans (hc.mono fun _ h => h.elim), h2.ch hc fun _ _ h => h⟩
theorem PPost.base {b g : Nat} {w w1 W : World} {col col1 : RCol} {d : Dk} (h : PPost b w1 col1 g d W) (hc : Ch b w col w1 col1 isP) : PPost b w col g d W := by
  obtain ⟨col', h1, h2⟩ := h
  exact ⟨col', hc.trans h1, h2⟩
abbrev FB (W : World) (gf : Nat) (v : Value) (s : Int) : Prop := W.heap[gf]? = some (.cells #[v, .int .i64 s] 76 (0, 0))
set_option maxRecDepth 100000 in
set_option maxHeartbeats 4000000 in
theorem csync (gf n c : Nat) (A : Option Addr) (s : Int) (w : World) (hG : FB w gf (.slice A n c) s) :
    Calls Tryd.prog 49 #[.pointer (some ⟨gf, 0, none⟩)] w fun e w' => e = .returned (.tuple #[]) ∧ w.grownBy w' (some gf) ∧ FB w' gf (.slice A n c) n := by
  have c0 : w.cell? ⟨gf, 0, none⟩ = some (.slice A n c) := (blk_cell hG 0).trans rfl
  have c1 : w.cell? ⟨gf, 1, none⟩ = some (.int .i64 s) := (blk_cell hG 1).trans rfl
  have f1 := blk_frozen hG 1
  go_enter Tryd.func49, Tryd.ntmps49
  go_wp2
  go_end0
  exact ⟨rfl, gb_set (World.grownBy.refl _ _) _ _, blk_to hG (by simp)⟩
theorem gb_drew_l {w w1 : World} {r : Option Nat} (h : w.drew.grownBy w1 r) : w.grownBy w1 r := ⟨h.os, h.tape, h.output, h.size, h.block⟩
theorem W_drew {w : World} {g : Nat} {o : Obj} (h : w.heap[g]? = some o) : w.heap[g]? = some o := h
set_option maxRecDepth 100000 in
set_option maxHeartbeats 4000000 in
theorem ctrim (gf gz n c : Nat) (A : Option Addr) (s z : Int) (m : Nat) (hm : (m : Int) = min (max z 0) n) (hnc : n ≤ c) (hne : gz ≠ gf) (w : World) (hG : FB w gf (.slice A n c) s) (hz : w.cell? ⟨gz, 0, none⟩ = some (.int .i64 z)) :
    Calls Tryd.prog 56 #[.pointer (some ⟨gf, 0, none⟩), .pointer (some ⟨gz, 0, none⟩)] w fun e w' => e = .returned (.tuple #[]) ∧ w.grownBy w' (some gf) ∧ FB w' gf (.slice A m c) (min s m) := by
  have c0 : w.cell? ⟨gf, 0, none⟩ = some (.slice A n c) := (blk_cell hG 0).trans rfl
  have c1 : w.cell? ⟨gf, 1, none⟩ = some (.int .i64 s) := (blk_cell hG 1).trans rfl
  have f0 := blk_frozen hG 0
  have hm0 : (0 : Int) ≤ (m : Int) := by omega
  have hm1 : (m : Int) ≤ (c : Int) := by omega
  have hm2 : min (max z 0) (n : Int) = (m : Int) := hm.symm
  have HG := Aside0.mk hG
  clear hm hnc hG
  go_enter Tryd.func56, Tryd.ntmps56
  go_wp2
  go_region
  have hB1 : FB (w.setCell ⟨gf, 0, none⟩ (.slice A m c)).drew gf (.slice A m c) s := blk_to HG.out (by simp)
  have hg1 : w.grownBy (w.setCell ⟨gf, 0, none⟩ (.slice A m c)).drew (some gf) := gb_drew (gb_set (World.grownBy.refl _ _) _ _)
  generalize (w.setCell ⟨gf, 0, none⟩ (.slice A m c)).drew = w1 at *
  have d0 : w1.cell? ⟨gf, 0, none⟩ = some (.slice A m c) := (blk_cell hB1 0).trans rfl
  have d1 : w1.cell? ⟨gf, 1, none⟩ = some (.int .i64 s) := (blk_cell hB1 1).trans rfl
  have e1 := blk_frozen hB1 1
  clear c0 c1 f0 hz hm2
  have HB1 := Aside0.mk hB1
  have HG1 := Aside0.mk hg1
  clear hB1 hg1
  go_wp2
  go_region
  go_wp2
  go_end0
  exact ⟨rfl, gb_drew (gb_set HG1.out 1 _), blk_to (W_drew HB1.out) (by simp)⟩
set_option maxRecDepth 100000 in
set_option maxHeartbeats 4000000 in
theorem cremove (gf g1 g2 g m : Nat) (gb : ByteArray → Nat) (fs : List Fl) (dn ar : Bool) (u a c : Int) (nm : ByteArray) (hs : nm.size ≤ 140737488355328) (w : World) (h1 : w.cell? ⟨g1, 0, none⟩ = some (.pointer (some ⟨g, 0, none⟩))) (h2 : w.cell? ⟨g2, 0, none⟩ = some (.string nm)) (hG : PB w g (.map (some m)) dn ar u a c)
    (hM : w.ownsMap Tryd.prog 9 ptrE m fs.length (mapD fs gb)) :
    Calls Tryd.prog 53 #[.pointer (some ⟨gf, 0, none⟩), .pointer (some ⟨g1, 0, none⟩), .pointer (some ⟨g2, 0, none⟩)] w fun e w' => e = .returned (.tuple #[]) ∧ w.grownBy w' (some m) ∧ w'.ownsMap Tryd.prog 9 ptrE m fs.length ((mapD fs gb).del (.string nm.data.toList)) := by
  have c0 : w.cell? ⟨g, 0, none⟩ = some (.map (some m)) := (blk_cell hG 0).trans rfl
  have hkey : keyOf Tryd.prog 9 (.string nm) = some (.string nm.data.toList) := WideMaps.keyOf_string_mk Tryd.underlying9 (by simp only [maxLen]; omega)
  have HM := Aside0.mk hM
  have HK := Aside0.mk hkey
  clear hM hkey hG
  go_enter Tryd.func53, Tryd.ntmps53
  go_wp2
  go_still_tail 5, (by kernel_rfl)
  change wpList _ _ _ _ _ w.drew
  refine wpList_delete_own _ rfl (.tmp 7) (.tmp 8) 71 9 rfl 70 lawS Tryd.underlying71 ptrE m fs.length (mapD fs gb) rfl HM.out.drew (.string nm) (.string nm.data.toList) rfl HK.out ?_
  intro w1 hm1 ht1
  have HM1 := Aside0.mk hm1
  have HT1 := Aside0.mk (gb_drew_l ht1.grown)
  clear hm1 ht1
  go_wp2
  go_end0
  exact ⟨rfl, HT1.out, HM1.out⟩
theorem PG.cell {W : World} {g m : Nat} {d : Dk} (h : PG W g m d) : W.cell? ⟨g, 0, none⟩ = some (.map (some m)) := by
  obtain ⟨ar, u, hB, _⟩ := h
  exact (blk_cell hB 0).trans rfl
theorem chg_err {d : Dk} {nm : ByteArray} {e : Int} (h1 : (firstS (Nm nm) d.down d.after d.calls).1 = e) (h2 : e ≠ 0) : d.chg nm = (e, (d.fst nm).2) := by
  unfold Dk.chg
  rw [if_pos (show (d.fst nm).1 ≠ 0 by show (firstS (Nm nm) d.down d.after d.calls).1 ≠ 0; rw [h1]; exact h2)]
  exact Prod.ext h1 rfl
theorem chg_none {d : Dk} {nm : ByteArray} (h1 : (firstS (Nm nm) d.down d.after d.calls).1 = 0) (h2 : there d.fs nm = false) : d.chg nm = (193, (d.fst nm).2) := by
  unfold Dk.chg
  rw [if_neg (show ¬ (d.fst nm).1 ≠ 0 by show ¬ (firstS (Nm nm) d.down d.after d.calls).1 ≠ 0; rw [h1]; simp), if_pos h2]
theorem chg_some {d : Dk} {nm : ByteArray} (h1 : (firstS (Nm nm) d.down d.after d.calls).1 = 0) (h2 : there d.fs nm = true) : d.chg nm = (if ((d.fst nm).2.pay 1).1 = false then (190, ((d.fst nm).2.pay 1).2.2) else (0, ((d.fst nm).2.pay 1).2.2)) := by
  unfold Dk.chg
  rw [if_neg (show ¬ (d.fst nm).1 ≠ 0 by show ¬ (firstS (Nm nm) d.down d.after d.calls).1 ≠ 0; rw [h1]; simp), if_neg (by rw [h2]; simp)]
set_option maxRecDepth 100000 in
set_option maxHeartbeats 4000000 in
theorem change_sync (b g m : Nat) (d : Dk) (gb : ByteArray → Nat) (ar : Bool) (u : Int) (col : RCol) (nm : ByteArray) (w : World) (hP : PDm b w col g d m gb ar u) (hd : d.Ok) (hs : nm.size ≤ 140737488355328) (Post : World → Prop)
    (hcl : (d.chg nm).1 = 0 → ∀ W, w.grownBy W (some g) → PG W g m (d.chg nm).2 → Calls Tryd.prog 49 #[.pointer (some ⟨gb nm, 0, none⟩)] W fun e w' => e = .returned (.tuple #[]) ∧ Post w')
    (hno : (d.chg nm).1 ≠ 0 → ∀ W, w.grownBy W (some g) → PG W g m (d.chg nm).2 → Post W) :
    Calls Tryd.prog 48 #[.pointer (some ⟨g, 0, none⟩), .string nm, .func (.func 49) #[] #[]] w fun e w' => e = .returned (.int .i64 (d.chg nm).1) ∧ Post w' := by
  have HF := Aside0.mk (pfirst g m d nm hs hd w hP.pg)
  have hlit := firstS_lit (Nm nm) d.down d.after d.calls
  have HLk0 : Aside0 (∀ W, w.grownBy W (some g) → PG W g m (d.fst nm).2 → (Instr.lookup 71 (.map (some m)) (.string nm) false).run Tryd.prog W = .ok (.pointer (if there d.fs nm = true then some ⟨gb nm, 0, none⟩ else none)) W) := ⟨fun W h1 h2 => by
    obtain ⟨ar', u', h⟩ := hP.turn h1 h2 rfl
    exact h.look hd.rises nm hs⟩
  have HP : Aside0 (∀ W, PG W g m (d.fst nm).2 → _) := ⟨fun W h => ppays g m (d.fst nm).2 1 (by omega) (hd.fst nm) W h⟩
  have HCl0 := Aside0.mk hcl
  have HNo0 := Aside0.mk hno
  clear hP hd hs hcl hno
  rcases hlit with h0 | h0 | h0 | h0
  · cases ht : there d.fs nm
    · have he := chg_none h0 ht
      have HNo := Aside0.mk (HNo0.out (by rw [he]; simp))
      have HLk := Aside0.mk HLk0.out
      rw [he] at HNo
      rw [he]
      simp only [ht, Bool.false_eq_true, if_false] at HLk
      clear he HLk0 HNo0 HCl0
      go_enter Tryd.func48, Tryd.ntmps48
      go_wp2_with (first | (go_at_call 45; refine HF.out.mono ?_; rintro e w2 ⟨rfl, hg, hB⟩; rw [h0]; have HG := Aside0.mk hg; have HB := Aside0.mk hB; have c0 : World.cell? w2 ⟨g, 0, none⟩ = some (.map (some m)) := hB.cell; have hlk := HLk.out w2 hg hB; clear hg hB))
      go_ret
      exact ⟨rfl, HNo.out _ HG.out HB.out⟩
    · have he := chg_some h0 ht
      have HLk := Aside0.mk HLk0.out
      simp only [ht, if_true] at HLk
      cases hp : ((d.fst nm).2.pay 1).1
      · rw [hp, if_pos rfl] at he
        have HNo := Aside0.mk (HNo0.out (by rw [he]; simp))
        rw [he] at HNo
        rw [he]
        clear he HLk0 HNo0 HCl0
        go_enter Tryd.func48, Tryd.ntmps48
        go_wp2_with (first | (go_at_call 45; refine HF.out.mono ?_; rintro e w2 ⟨rfl, hg, hB⟩; rw [h0]; have HG := Aside0.mk hg; have HB := Aside0.mk hB; have c0 : World.cell? w2 ⟨g, 0, none⟩ = some (.map (some m)) := hB.cell; have hlk := HLk.out w2 hg hB; clear hg hB) | (go_at_call 46; refine (HP.out _ HB.out).mono ?_; rintro e w4 ⟨rfl, hg, hB⟩; rw [hp]; have HG4 := Aside0.mk (HG.out.trans hg); have HB4 := Aside0.mk hB; clear hg hB))
        go_ret
        exact ⟨rfl, HNo.out _ HG4.out HB4.out⟩
      · rw [hp, if_neg (by simp)] at he
        have HCl := Aside0.mk (HCl0.out (by rw [he]))
        rw [he] at HCl
        rw [he]
        clear he HLk0 HNo0 HCl0
        go_enter Tryd.func48, Tryd.ntmps48
        go_wp2_with (first | (go_at_call 45; refine HF.out.mono ?_; rintro e w2 ⟨rfl, hg, hB⟩; rw [h0]; have HG := Aside0.mk hg; have HB := Aside0.mk hB; have c0 : World.cell? w2 ⟨g, 0, none⟩ = some (.map (some m)) := hB.cell; have hlk := HLk.out w2 hg hB; clear hg hB) | (go_at_call 46; refine (HP.out _ HB.out).mono ?_; rintro e w4 ⟨rfl, hg, hB⟩; rw [hp]; have HG4 := Aside0.mk (HG.out.trans hg); have HB4 := Aside0.mk hB; clear hg hB) | (go_at_call 49; refine (HCl.out _ HG4.out HB4.out).mono ?_; rintro e w5 ⟨rfl, hpo⟩; have HPo := Aside0.mk hpo; clear hpo))
        go_ret
        exact ⟨rfl, HPo.out⟩
  all_goals
    have he := chg_err h0 (by omega)
    have HNo := Aside0.mk (HNo0.out (by rw [he]; simp))
    rw [he] at HNo
    rw [he]
    clear he HLk0 HNo0 HCl0
    go_enter Tryd.func48, Tryd.ntmps48
    go_wp2_with (first | (go_at_call 45; refine HF.out.mono ?_; rintro e w2 ⟨rfl, hg, hB⟩; rw [h0]; have HG := Aside0.mk hg; have HB := Aside0.mk hB;  clear hg hB))
    go_ret
    exact ⟨rfl, HNo.out _ HG.out HB.out⟩
set_option maxRecDepth 100000 in
set_option maxHeartbeats 4000000 in
theorem change_trim (b g m : Nat) (d : Dk) (gb : ByteArray → Nat) (ar : Bool) (u : Int) (col : RCol) (nm : ByteArray) (gz : Nat) (w : World) (hP : PDm b w col g d m gb ar u) (hd : d.Ok) (hs : nm.size ≤ 140737488355328) (Post : World → Prop)
    (hcl : (d.chg nm).1 = 0 → ∀ W, w.grownBy W (some g) → PG W g m (d.chg nm).2 → Calls Tryd.prog 56 #[.pointer (some ⟨gb nm, 0, none⟩), .pointer (some ⟨gz, 0, none⟩)] W fun e w' => e = .returned (.tuple #[]) ∧ Post w')
    (hno : (d.chg nm).1 ≠ 0 → ∀ W, w.grownBy W (some g) → PG W g m (d.chg nm).2 → Post W) :
    Calls Tryd.prog 48 #[.pointer (some ⟨g, 0, none⟩), .string nm, .func (.func 56) #[] #[.pointer (some ⟨gz, 0, none⟩)]] w fun e w' => e = .returned (.int .i64 (d.chg nm).1) ∧ Post w' := by
  have HF := Aside0.mk (pfirst g m d nm hs hd w hP.pg)
  have hlit := firstS_lit (Nm nm) d.down d.after d.calls
  have HLk0 : Aside0 (∀ W, w.grownBy W (some g) → PG W g m (d.fst nm).2 → (Instr.lookup 71 (.map (some m)) (.string nm) false).run Tryd.prog W = .ok (.pointer (if there d.fs nm = true then some ⟨gb nm, 0, none⟩ else none)) W) := ⟨fun W h1 h2 => by
    obtain ⟨ar', u', h⟩ := hP.turn h1 h2 rfl
    exact h.look hd.rises nm hs⟩
  have HP : Aside0 (∀ W, PG W g m (d.fst nm).2 → _) := ⟨fun W h => ppays g m (d.fst nm).2 1 (by omega) (hd.fst nm) W h⟩
  have HCl0 := Aside0.mk hcl
  have HNo0 := Aside0.mk hno
  clear hP hd hs hcl hno
  rcases hlit with h0 | h0 | h0 | h0
  · cases ht : there d.fs nm
    · have he := chg_none h0 ht
      have HNo := Aside0.mk (HNo0.out (by rw [he]; simp))
      have HLk := Aside0.mk HLk0.out
      rw [he] at HNo
      rw [he]
      simp only [ht, Bool.false_eq_true, if_false] at HLk
      clear he HLk0 HNo0 HCl0
      go_enter Tryd.func48, Tryd.ntmps48
      go_wp2_with (first | (go_at_call 45; refine HF.out.mono ?_; rintro e w2 ⟨rfl, hg, hB⟩; rw [h0]; have HG := Aside0.mk hg; have HB := Aside0.mk hB; have c0 : World.cell? w2 ⟨g, 0, none⟩ = some (.map (some m)) := hB.cell; have hlk := HLk.out w2 hg hB; clear hg hB))
      go_ret
      exact ⟨rfl, HNo.out _ HG.out HB.out⟩
    · have he := chg_some h0 ht
      have HLk := Aside0.mk HLk0.out
      simp only [ht, if_true] at HLk
      cases hp : ((d.fst nm).2.pay 1).1
      · rw [hp, if_pos rfl] at he
        have HNo := Aside0.mk (HNo0.out (by rw [he]; simp))
        rw [he] at HNo
        rw [he]
        clear he HLk0 HNo0 HCl0
        go_enter Tryd.func48, Tryd.ntmps48
        go_wp2_with (first | (go_at_call 45; refine HF.out.mono ?_; rintro e w2 ⟨rfl, hg, hB⟩; rw [h0]; have HG := Aside0.mk hg; have HB := Aside0.mk hB; have c0 : World.cell? w2 ⟨g, 0, none⟩ = some (.map (some m)) := hB.cell; have hlk := HLk.out w2 hg hB; clear hg hB) | (go_at_call 46; refine (HP.out _ HB.out).mono ?_; rintro e w4 ⟨rfl, hg, hB⟩; rw [hp]; have HG4 := Aside0.mk (HG.out.trans hg); have HB4 := Aside0.mk hB; clear hg hB))
        go_ret
        exact ⟨rfl, HNo.out _ HG4.out HB4.out⟩
      · rw [hp, if_neg (by simp)] at he
        have HCl := Aside0.mk (HCl0.out (by rw [he]))
        rw [he] at HCl
        rw [he]
        clear he HLk0 HNo0 HCl0
        go_enter Tryd.func48, Tryd.ntmps48
        go_wp2_with (first | (go_at_call 45; refine HF.out.mono ?_; rintro e w2 ⟨rfl, hg, hB⟩; rw [h0]; have HG := Aside0.mk hg; have HB := Aside0.mk hB; have c0 : World.cell? w2 ⟨g, 0, none⟩ = some (.map (some m)) := hB.cell; have hlk := HLk.out w2 hg hB; clear hg hB) | (go_at_call 46; refine (HP.out _ HB.out).mono ?_; rintro e w4 ⟨rfl, hg, hB⟩; rw [hp]; have HG4 := Aside0.mk (HG.out.trans hg); have HB4 := Aside0.mk hB; clear hg hB) | (go_at_call 56; refine (HCl.out _ HG4.out HB4.out).mono ?_; rintro e w5 ⟨rfl, hpo⟩; have HPo := Aside0.mk hpo; clear hpo))
        go_ret
        exact ⟨rfl, HPo.out⟩
  all_goals
    have he := chg_err h0 (by omega)
    have HNo := Aside0.mk (HNo0.out (by rw [he]; simp))
    rw [he] at HNo
    rw [he]
    clear he HLk0 HNo0 HCl0
    go_enter Tryd.func48, Tryd.ntmps48
    go_wp2_with (first | (go_at_call 45; refine HF.out.mono ?_; rintro e w2 ⟨rfl, hg, hB⟩; rw [h0]; have HG := Aside0.mk hg; have HB := Aside0.mk hB;  clear hg hB))
    go_ret
    exact ⟨rfl, HNo.out _ HG.out HB.out⟩
set_option maxRecDepth 100000 in
set_option maxHeartbeats 4000000 in
theorem change_remove (b g m : Nat) (d : Dk) (gb : ByteArray → Nat) (ar : Bool) (u : Int) (col : RCol) (nm : ByteArray) (g1 g2 : Nat) (w : World) (hP : PDm b w col g d m gb ar u) (hd : d.Ok) (hs : nm.size ≤ 140737488355328) (Post : World → Prop)
    (hcl : (d.chg nm).1 = 0 → ∀ W, w.grownBy W (some g) → PG W g m (d.chg nm).2 → Calls Tryd.prog 53 #[.pointer (some ⟨gb nm, 0, none⟩), .pointer (some ⟨g1, 0, none⟩), .pointer (some ⟨g2, 0, none⟩)] W fun e w' => e = .returned (.tuple #[]) ∧ Post w')
    (hno : (d.chg nm).1 ≠ 0 → ∀ W, w.grownBy W (some g) → PG W g m (d.chg nm).2 → Post W) :
    Calls Tryd.prog 48 #[.pointer (some ⟨g, 0, none⟩), .string nm, .func (.func 53) #[] #[.pointer (some ⟨g1, 0, none⟩), .pointer (some ⟨g2, 0, none⟩)]] w fun e w' => e = .returned (.int .i64 (d.chg nm).1) ∧ Post w' := by
  have HF := Aside0.mk (pfirst g m d nm hs hd w hP.pg)
  have hlit := firstS_lit (Nm nm) d.down d.after d.calls
  have HLk0 : Aside0 (∀ W, w.grownBy W (some g) → PG W g m (d.fst nm).2 → (Instr.lookup 71 (.map (some m)) (.string nm) false).run Tryd.prog W = .ok (.pointer (if there d.fs nm = true then some ⟨gb nm, 0, none⟩ else none)) W) := ⟨fun W h1 h2 => by
    obtain ⟨ar', u', h⟩ := hP.turn h1 h2 rfl
    exact h.look hd.rises nm hs⟩
  have HP : Aside0 (∀ W, PG W g m (d.fst nm).2 → _) := ⟨fun W h => ppays g m (d.fst nm).2 1 (by omega) (hd.fst nm) W h⟩
  have HCl0 := Aside0.mk hcl
  have HNo0 := Aside0.mk hno
  clear hP hd hs hcl hno
  rcases hlit with h0 | h0 | h0 | h0
  · cases ht : there d.fs nm
    · have he := chg_none h0 ht
      have HNo := Aside0.mk (HNo0.out (by rw [he]; simp))
      have HLk := Aside0.mk HLk0.out
      rw [he] at HNo
      rw [he]
      simp only [ht, Bool.false_eq_true, if_false] at HLk
      clear he HLk0 HNo0 HCl0
      go_enter Tryd.func48, Tryd.ntmps48
      go_wp2_with (first | (go_at_call 45; refine HF.out.mono ?_; rintro e w2 ⟨rfl, hg, hB⟩; rw [h0]; have HG := Aside0.mk hg; have HB := Aside0.mk hB; have c0 : World.cell? w2 ⟨g, 0, none⟩ = some (.map (some m)) := hB.cell; have hlk := HLk.out w2 hg hB; clear hg hB))
      go_ret
      exact ⟨rfl, HNo.out _ HG.out HB.out⟩
    · have he := chg_some h0 ht
      have HLk := Aside0.mk HLk0.out
      simp only [ht, if_true] at HLk
      cases hp : ((d.fst nm).2.pay 1).1
      · rw [hp, if_pos rfl] at he
        have HNo := Aside0.mk (HNo0.out (by rw [he]; simp))
        rw [he] at HNo
        rw [he]
        clear he HLk0 HNo0 HCl0
        go_enter Tryd.func48, Tryd.ntmps48
        go_wp2_with (first | (go_at_call 45; refine HF.out.mono ?_; rintro e w2 ⟨rfl, hg, hB⟩; rw [h0]; have HG := Aside0.mk hg; have HB := Aside0.mk hB; have c0 : World.cell? w2 ⟨g, 0, none⟩ = some (.map (some m)) := hB.cell; have hlk := HLk.out w2 hg hB; clear hg hB) | (go_at_call 46; refine (HP.out _ HB.out).mono ?_; rintro e w4 ⟨rfl, hg, hB⟩; rw [hp]; have HG4 := Aside0.mk (HG.out.trans hg); have HB4 := Aside0.mk hB; clear hg hB))
        go_ret
        exact ⟨rfl, HNo.out _ HG4.out HB4.out⟩
      · rw [hp, if_neg (by simp)] at he
        have HCl := Aside0.mk (HCl0.out (by rw [he]))
        rw [he] at HCl
        rw [he]
        clear he HLk0 HNo0 HCl0
        go_enter Tryd.func48, Tryd.ntmps48
        go_wp2_with (first | (go_at_call 45; refine HF.out.mono ?_; rintro e w2 ⟨rfl, hg, hB⟩; rw [h0]; have HG := Aside0.mk hg; have HB := Aside0.mk hB; have c0 : World.cell? w2 ⟨g, 0, none⟩ = some (.map (some m)) := hB.cell; have hlk := HLk.out w2 hg hB; clear hg hB) | (go_at_call 46; refine (HP.out _ HB.out).mono ?_; rintro e w4 ⟨rfl, hg, hB⟩; rw [hp]; have HG4 := Aside0.mk (HG.out.trans hg); have HB4 := Aside0.mk hB; clear hg hB) | (go_at_call 53; refine (HCl.out _ HG4.out HB4.out).mono ?_; rintro e w5 ⟨rfl, hpo⟩; have HPo := Aside0.mk hpo; clear hpo))
        go_ret
        exact ⟨rfl, HPo.out⟩
  all_goals
    have he := chg_err h0 (by omega)
    have HNo := Aside0.mk (HNo0.out (by rw [he]; simp))
    rw [he] at HNo
    rw [he]
    clear he HLk0 HNo0 HCl0
    go_enter Tryd.func48, Tryd.ntmps48
    go_wp2_with (first | (go_at_call 45; refine HF.out.mono ?_; rintro e w2 ⟨rfl, hg, hB⟩; rw [h0]; have HG := Aside0.mk hg; have HB := Aside0.mk hB;  clear hg hB))
    go_ret
    exact ⟨rfl, HNo.out _ HG.out HB.out⟩
section
variable {b g m : Nat} {W W' w : World} {col : RCol} {d : Dk} {gb : ByteArray → Nat} {ar : Bool} {u : Int} {nm : ByteArray}
theorem PDm.post (h : PDm b w col g d m gb ar u) {d' : Dk} (h1 : w.grownBy W (some g)) (h2 : PG W g m d') (hf : d'.fs = d.fs) : PPost b w col g d' W := by
  obtain ⟨ar', u', h'⟩ := h.turn h1 h2 hf
  exact ⟨col, h.ch_of h1, m, gb, ar', u', h'⟩
theorem PDm.doF (h : PDm b w col g d m gb ar u) (hd : d.Ok) (h0 : (d.chg nm).1 = 0) (h1 : w.grownBy W (some g)) (h2 : PG W g m (d.chg nm).2) {k : Fl → Fl} (hk : ∀ f, (k f).f0 = f.f0) :
    ∃ A c, FB W (gb nm) (.slice A (getF d.fs nm).f1.length c) (getF d.fs nm).f2 ∧ (getF d.fs nm).f1.length ≤ c ∧ W.ownsRow b 5 1 (.slice A (getF d.fs nm).f1.length c) (getF d.fs nm).f1.length (nums .u8 (getF d.fs nm).f1) ∧
      ∀ W' v, W.grownBy W' (some (gb nm)) → FB W' (gb nm) v (k (getF d.fs nm)).f2 → W'.ownsRow b 5 1 v (k (getF d.fs nm)).f1.length (nums .u8 (k (getF d.fs nm)).f1) → v.ownBlock = none ∨ v.ownBlock = (Value.slice A (getF d.fs nm).f1.length c).ownBlock → PPost b w col g (d.doF nm k) W' := by
  have ht := chg_there h0
  obtain ⟨ar', u', h'⟩ := h.turn h1 h2 (chg_fs d nm)
  have ht' : there (d.chg nm).2.fs nm = true := by rw [chg_fs]; exact ht
  have hpf := h'.file ht'
  rw [chg_fs] at hpf
  obtain ⟨v, hv, hrow⟩ := hpf.ex
  obtain ⟨A, c, rfl, hc, hb⟩ := own_form hrow.own
  refine ⟨A, c, hv, hc, hrow.own, fun W' v hg hB ho hob => ?_⟩
  have hnm := (there_get ht).2.2
  have hrow' : BRow b W' col (.pb nm) v (k (getF d.fs nm)).f1 := ⟨ho, fun q hq => by
    rcases hob with e | e
    · rw [e] at hq; cases hq
    · rw [e] at hq
      have := hrow.tag q hq
      rwa [hnm] at this⟩
  obtain ⟨h3, hc3⟩ := h'.set (f := k (getF d.fs nm)) (by rw [chg_fs]; exact hd.rises) ht' (by rw [hk, hnm]) hg hB hrow'
  unfold Dk.doF
  rw [if_pos h0]
  rw [chg_fs] at h3
  exact ⟨col, (h.ch_of h1).trans hc3, m, gb, ar', u', h3⟩
theorem PDm.noF (h : PDm b w col g d m gb ar u) (k : Fl → Fl) (h0 : (d.chg nm).1 ≠ 0) (h1 : w.grownBy W (some g)) (h2 : PG W g m (d.chg nm).2) : PPost b w col g (d.doF nm k) W := by
  unfold Dk.doF
  rw [if_neg h0]
  exact h.post h1 h2 (chg_fs d nm)
theorem gb_own {r : Nat} {v : Value} {xs : List Value} {n e : Nat} (h : W.ownsRow b e 1 v n xs) (hg : W.grownBy W' (some r)) (hne : v.ownBlock ≠ some r) : W'.ownsRow b e 1 v n xs :=
  own_move h fun k hk => hg.block k (own_lt h k hk) (fun e => hne (by rw [hk]; exact e.symm ▸ rfl))
end
set_option maxRecDepth 100000 in
set_option maxHeartbeats 4000000 in
theorem psync (b g m : Nat) (d : Dk) (gb : ByteArray → Nat) (ar : Bool) (u : Int) (col : RCol) (nm : ByteArray) (w : World) (hP : PDm b w col g d m gb ar u) (hd : d.Ok) (hs : nm.size ≤ 140737488355328) :
    Calls Tryd.prog 36 #[.pointer (some ⟨g, 0, none⟩), .string nm] w fun e w' => e = .returned (.int .i64 (d.chg nm).1) ∧ PPost b w col g (d.doF nm syncF) w' := by
  have HC := Aside0.mk (change_sync b g m d gb ar u col nm w hP hd hs (fun W => PPost b w col g (d.doF nm syncF) W) (fun h0 W h1 h2 => by
    obtain ⟨A, c, hB, hc, ho, hfin⟩ := hP.doF hd h0 h1 h2 (k := syncF) (fun _ => rfl)
    refine (csync (gb nm) _ c A _ W hB).mono ?_
    rintro e w' ⟨rfl, hg, hB'⟩
    refine ⟨rfl, hfin w' _ hg hB' (gb_own ho hg fun e => ?_) (.inr rfl)⟩
    exact own_ne ho hB (by decide) e.symm) (fun h0 W h1 h2 => hP.noF syncF h0 h1 h2))
  clear hP hd hs
  go_enter Tryd.func36, Tryd.ntmps36
  go_wp2_with (go_at_call 48; refine HC.out.mono ?_; rintro e w1 ⟨rfl, hp⟩; have HP := Aside0.mk hp; clear hp)
  go_ret
  exact ⟨rfl, HP.out⟩
set_option maxRecDepth 100000 in
set_option maxHeartbeats 4000000 in
theorem ptrim (b g m : Nat) (d : Dk) (gb : ByteArray → Nat) (ar : Bool) (u : Int) (col : RCol) (nm : ByteArray) (z : Int) (w : World) (hP : PDm b w col g d m gb ar u) (hd : d.Ok) (hs : nm.size ≤ 140737488355328) :
    Calls Tryd.prog 44 #[.pointer (some ⟨g, 0, none⟩), .string nm, .int .i64 z] w fun e w' => e = .returned (.int .i64 (d.chg nm).1) ∧ PPost b w col g (d.doF nm (trimF z)) w' := by
  have hmf : ∀ (fn : Fn) (first cap : Array Value) (w : World), (Instr.makeFunc fn first cap).run Tryd.prog w = .ok (.func fn first cap) w := fun _ _ _ _ => rfl
  have hbel : Below w.heap.size w (w.alloc (.cells #[.int .i64 z] 3)) := below_alloc (Below.refl _ _) _
  have hP1 := hP.below hbel
  have hc1 : Ch b w col (w.alloc (.cells #[.int .i64 z] 3)) col isP := Ch.of_below hbel hP.base
  have hx := heap_alloc_new w (.cells #[.int .i64 z] 3)
  have hgl : w.heap.size ≠ g := fun e => by have := blk_lt hP.blk; omega
  have HC := Aside0.mk (change_trim b g m d gb ar u col nm w.heap.size (w.alloc (.cells #[.int .i64 z] 3)) hP1 hd hs (fun W => PPost b w col g (d.doF nm (trimF z)) W) (fun h0 W h1 h2 => by
    obtain ⟨A, c, hB, hc, ho, hfin⟩ := hP1.doF hd h0 h1 h2 (k := trimF z) (fun _ => rfl)
    have hxW : W.heap[w.heap.size]? = some (.cells #[.int .i64 z] 3 (0, 0)) := (h1.block _ (by simp) (fun e => hgl (by injection e))).trans hx
    have hne : w.heap.size ≠ gb nm := fun e => by have hB := hB; unfold FB at hB; rw [e] at hxW; rw [hxW] at hB; injection hB with hB; injection hB with _ h3; exact absurd h3 (by decide)
    have hm : (((getF d.fs nm).f1.take (max z 0).toNat).length : Int) = min (max z 0) ((getF d.fs nm).f1.length : Int) := by rw [List.length_take]; omega
    refine (ctrim (gb nm) w.heap.size _ c A _ z _ hm hc hne W hB ((blk_cell hxW 0).trans rfl)).mono ?_
    rintro e w' ⟨rfl, hg, hB'⟩
    have hob : ∀ q, (Value.slice A ((getF d.fs nm).f1.take (max z 0).toNat).length c).ownBlock = (Value.slice A q c).ownBlock := fun q => by cases A <;> rfl
    have ht := own_take ho (m := ((getF d.fs nm).f1.take (max z 0).toNat).length) (by rw [List.length_take]; omega)
    refine ⟨rfl, (hfin w' _ hg hB' ?_ (.inr (hob _))).base hc1⟩
    have hnums : (nums .u8 (getF d.fs nm).f1).take (((getF d.fs nm).f1.take (max z 0).toNat).length * 1) = nums .u8 ((getF d.fs nm).f1.take (max z 0).toNat) := by
      unfold nums
      rw [← List.map_take, List.length_take, Nat.mul_one]
      congr 1
      rw [List.take_eq_take_iff]
      omega
    rw [hnums] at ht
    refine gb_own ht hg fun e => ?_
    rw [hob (getF d.fs nm).f1.length] at e
    exact own_ne ho hB (by decide) e.symm) (fun h0 W h1 h2 => (hP1.noF (trimF z) h0 h1 h2).base hc1))
  clear hP hP1 hd hs hbel hc1 hx hgl
  go_enter Tryd.func44, Tryd.ntmps44
  go_wp2_with (go_at_call 48; refine HC.out.mono ?_; rintro e w1 ⟨rfl, hp⟩; have HP := Aside0.mk hp; clear hp)
  go_ret
  exact ⟨rfl, HP.out⟩
set_option maxRecDepth 100000 in
set_option maxHeartbeats 4000000 in
theorem premove (b g m : Nat) (d : Dk) (gb : ByteArray → Nat) (ar : Bool) (u : Int) (col : RCol) (nm : ByteArray) (w : World) (hP : PDm b w col g d m gb ar u) (hd : d.Ok) (hs : nm.size ≤ 140737488355328) :
    Calls Tryd.prog 41 #[.pointer (some ⟨g, 0, none⟩), .string nm] w fun e w' => e = .returned (.int .i64 (d.chg nm).1) ∧ PPost b w col g (d.rem nm) w' := by
  have hmf : ∀ (fn : Fn) (first cap : Array Value) (w : World), (Instr.makeFunc fn first cap).run Tryd.prog w = .ok (.func fn first cap) w := fun _ _ _ _ => rfl
  obtain ⟨W1, hW1⟩ : ∃ W1, W1 = (w.alloc (.cells #[.pointer (some ⟨g, 0, none⟩)] 27)).alloc (.cells #[.string nm] 9) := ⟨_, rfl⟩
  have hbel : Below w.heap.size w W1 := by rw [hW1]; exact below_alloc (below_alloc (Below.refl _ _) _) _
  have hN : W1.heap.size = w.heap.size + 2 := by rw [hW1]; simp
  have hP1 := hP.below hbel
  have hc1 : Ch b w col W1 col isP := Ch.of_below hbel hP.base
  have hx1 : W1.heap[w.heap.size]? = some (.cells #[.pointer (some ⟨g, 0, none⟩)] 27 (0, 0)) := by
    rw [hW1, heap_alloc_old _ _ (by simp)]
    exact heap_alloc_new w _
  have hx2 : W1.heap[w.heap.size + 1]? = some (.cells #[.string nm] 9 (0, 0)) := by
    have := heap_alloc_new (w.alloc (.cells #[.pointer (some ⟨g, 0, none⟩)] 27)) (.cells #[.string nm] 9)
    rw [hW1]
    simpa using this
  have hgl := blk_lt hP.blk
  have HC := Aside0.mk (change_remove b g m d gb ar u col nm w.heap.size (w.heap.size + 1) W1 hP1 hd hs (fun W => PPost b w col g (d.rem nm) W) (fun h0 W h1 h2 => by
    have ht := chg_there h0
    obtain ⟨ar', u', h'⟩ := hP1.turn h1 h2 (chg_fs d nm)
    have hxW1 : W.heap[w.heap.size]? = _ := (h1.block _ (by omega) (fun e => by injection e; omega)).trans hx1
    have hxW2 : W.heap[w.heap.size + 1]? = _ := (h1.block _ (by omega) (fun e => by injection e; omega)).trans hx2
    have hmap := h'.map
    rw [chg_fs] at hmap
    refine (cremove (gb nm) w.heap.size (w.heap.size + 1) g m gb d.fs _ ar' u' _ _ nm hs W ((blk_cell hxW1 0).trans rfl) ((blk_cell hxW2 0).trans rfl) h'.blk hmap).mono ?_
    rintro e w' ⟨rfl, hg, hm⟩
    obtain ⟨h3, hc3⟩ := h'.rem (by rw [chg_fs]; exact hd.rises) (nm := nm) (by rw [chg_fs]; exact ht) hg (by rw [chg_fs]; exact hm)
    refine ⟨rfl, ?_⟩
    unfold Dk.rem
    rw [if_pos h0]
    rw [chg_fs] at h3
    exact ⟨col, (hc1.trans (hP1.ch_of h1)).trans hc3, m, gb, ar', u', h3⟩) (fun h0 W h1 h2 => by
    unfold Dk.rem
    rw [if_neg h0]
    exact (hP1.post h1 h2 (chg_fs d nm)).base hc1))
  have HW := Aside0.mk hW1
  clear hP hP1 hd hs hbel hc1 hx1 hx2 hgl hN hW1
  go_enter Tryd.func41, Tryd.ntmps41
  go_wp2_with (go_at_call 48; rw [← HW.out]; refine HC.out.mono ?_; rintro e w1 ⟨rfl, hp⟩; have HP := Aside0.mk hp; clear hp)
  go_ret
  exact ⟨rfl, HP.out⟩
theorem copy_full {P : Program} {w0 W : World} {ops : Array Oper} {rest : List Oper} {o : Oper} {a : Act} {Q : Exit → Act → World → Prop} (B : Nat) (hgd : o.guard = none) (d s : Operand) (dT sT e : TypeId)
    (ho : o.op = .call { callee := .builtin .copy, args := #[d, s], argTypes := #[dT, sT] }) (hu : P.underlying dT = some (.slice e)) (hsz : (P.info? e).map (·.size) = some 1)
    (g n c c2 : Nat) (A : Option Addr) (xs : List Int) (ys : List Value) (hd : a.eval d = .slice (some ⟨g, 0, none⟩) n c) (hs : a.eval s = .slice A n c2)
    (HO : W.ownsRow B e 1 (.slice (some ⟨g, 0, none⟩) n c) n ys) (HR : ReadsInt W .u8 A n xs) (HB : Below B w0 W)
    (h : ∀ w', w'.ownsRow B e 1 (.slice (some ⟨g, 0, none⟩) n c) n (nums .u8 xs) → Below B w0 w' → wpList P ops Q rest (a.put o.dst (goInt n)) w') : wpList P ops Q (o :: rest) a W := by
  have hxl : (nums .u8 xs).length = n := by rw [nums_length]; exact HR.1
  obtain ⟨hA, hnews⟩ := reads_news HR
  rcases HO.2 with ⟨e1, _⟩ | ⟨g', cap, cur, e1, hg, hh, hc, hx, hsz', ht⟩
  · cases e1
  · injection e1 with a1 a2 a3
    injection a1 with a1
    injection a1 with a1
    subst a1 a3
    refine wpList_copy_splice hgd d s dT sT ho e hu hsz (some ⟨g, 0, none⟩) A n c n c2 hd hs g 0 cur.toList e (by simpa using hh) (nums .u8 xs) (by rw [hxl]; exact (Nat.min_self n).symm)
      (fun h0 => ⟨rfl, ?_⟩) (by rw [hxl, Array.length_toList]; omega) (fun v hv => by simp only [nums, List.mem_map] at hv; obtain ⟨q, _, rfl⟩ := hv; rfl) B w0 HB hg ?_
    · cases A with
      | none => have := hA rfl; omega
      | some ad => exact ⟨ad, rfl, hnews ad rfl⟩
    · intro w' hw' hb'
      rw [hxl]
      refine h w' ⟨by rw [hxl]; omega, .inr ⟨g, c, (splice cur.toList 0 (nums .u8 xs)).toArray, rfl, hg, hw', hc, hx, ?_, ?_⟩⟩ hb'
      · have := length_splice cur.toList 0 (nums .u8 xs) (by rw [hxl, Array.length_toList]; omega)
        rw [List.size_toArray, this, Array.length_toList]
        exact hsz'
      · unfold splice
        simp [hxl]
theorem nm_size {s : ByteArray} (h : Nm s = true) : s.size ≤ 140737488355328 := by
  unfold Nm at h
  simp only [Bool.and_eq_true, decide_eq_true_eq] at h
  omega
theorem FL.lower {b b' : Nat} {W : World} {v : Value} {L : List (Fl × Value)} (h : FL b W v L) (hb : b' ≤ b) : FL b' W v L := ⟨own_lower h.own hb, fun p hp => own_lower (h.rows p hp) hb⟩
def NmPost (w w' : World) (e : Ending) (fs : List Fl) : Prop := ∃ A c, e = .returned (.slice A fs.length c) ∧ Below w.heap.size w w' ∧ ∀ W, Below w'.heap.size w' W → ∀ i f, fs[i]? = some f → ∃ ad, A = some ad ∧ W.cell? (ad.add i) = some (.string f.f0) ∧ w.heap.size ≤ ad.block ∧ ad.block < w'.heap.size
theorem there_of_mem {fs : List Fl} (hs : Rises fs) {f : Fl} (hf : f ∈ fs) : there fs f.f0 = true ∧ getF fs f.f0 = f := by
  have ht : there fs f.f0 = true := by
    cases h : there fs f.f0
    · exact absurd rfl (not_there hs h hf)
    · rfl
  refine ⟨ht, ?_⟩
  obtain ⟨hl, hg, he⟩ := there_get ht
  obtain ⟨j, hj⟩ := List.mem_iff_getElem?.1 hf
  have hjl : j < fs.length := (List.getElem?_eq_some_iff.1 hj).1
  have e1 : fs[j] = f := (List.getElem?_eq_some_iff.1 hj).2
  have e2 : fs[place fs f.f0] = getF fs f.f0 := (List.getElem?_eq_some_iff.1 hg).2
  rcases Nat.lt_trichotomy (place fs f.f0) j with h | h | h
  · have := List.pairwise_iff_getElem.1 hs _ _ hl hjl h
    rw [e1, e2, he] at this
    exact absurd this (List.lt_irrefl _)
  · subst h
    exact e2.symm.trans e1
  · have := List.pairwise_iff_getElem.1 hs _ _ hjl hl h
    rw [e1, e2, he] at this
    exact absurd this (List.lt_irrefl _)
set_option maxRecDepth 100000 in
set_option maxHeartbeats 4000000 in
theorem pfiles (b g m : Nat) (d : Dk) (gb : ByteArray → Nat) (ar : Bool) (u : Int) (col : RCol) (w : World) (hP : PDm b w col g d m gb ar u) (hd : d.Ok)
    (hnames : Calls Tryd.prog 26 #[.pointer (some ⟨g, 0, none⟩)] w fun e w' => NmPost w w' e d.fs) :
    Calls Tryd.prog 10 #[.pointer (some ⟨g, 0, none⟩)] w fun e w' => FlPost w w' e d.fs := by
  have hl := hd.few
  have HE : Aside0 (∀ f ∈ d.fs, ∃ A c, f.f1.length ≤ c ∧ f.f1.length ≤ 2097152 ∧ ∀ W, Below w.heap.size w W → W.cell? ⟨gb f.f0, 0, none⟩ = some (.slice A f.f1.length c) ∧ W.cell? ⟨gb f.f0, 1, none⟩ = some (.int .i64 f.f2) ∧ ReadsInt W .u8 A f.f1.length f.f1 ∧
      (Instr.lookup 71 (.map (some m)) (.string f.f0) false).run Tryd.prog W = .ok (.pointer (some ⟨gb f.f0, 0, none⟩)) W) := ⟨fun f hf => by
    obtain ⟨v, hv, hrow⟩ := (hP.files f hf).ex
    obtain ⟨A, c, rfl, hc, hrd, hbl⟩ := hrow.reads
    obtain ⟨ht, hgf⟩ := there_of_mem hd.rises hf
    refine ⟨A, c, hc, (hd.size f hf).1, fun W h => ⟨(h.cell (p := ⟨gb f.f0, 0, none⟩) (blk_lt hv)).trans ((blk_cell hv 0).trans rfl), (h.cell (p := ⟨gb f.f0, 1, none⟩) (blk_lt hv)).trans ((blk_cell hv 1).trans rfl), hrd.below h, ?_⟩⟩
    have hnm : f.f0.size ≤ 140737488355328 := by have := hd.names f hf; exact nm_size this
    have := (hP.below h).look hd.rises f.f0 hnm
    rwa [if_pos ht] at this⟩
  have HC : Aside0 (∀ W, Below w.heap.size w W → W.cell? ⟨g, 0, none⟩ = some (.map (some m))) := ⟨fun W h => (blk_cell (hP.below h).blk 0).trans rfl⟩
  have HN := Aside0.mk hnames
  clear hP hd hnames
  generalize d.fs = fs at *
  go_enter Tryd.func10, Tryd.ntmps10
  go_wp2_with (go_at_call 26; refine HN.out.mono ?_; rintro e w1 ⟨NA, nc, rfl, hb, hcl⟩; have HB1 := Aside0.mk hb; have HNc := Aside0.mk hcl; clear hb hcl)
  go_loopw [3, 10] (fun v3 v10 wq => ∃ (i : Nat) (M : List (Fl × Value)), i ≤ fs.length ∧ v10 = .int .i64 i ∧ M.map (·.1) = fs.take i ∧ FL w1.heap.size wq v3 M ∧ Below w1.heap.size w1 wq) (fun _ v10 _ => fs.length - (intOf v10).toNat)
  case atStart => exact ⟨0, [], by omega, rfl, rfl, FL.nil _ _, Below.refl _ _⟩
  case round =>
    obtain ⟨i, M, hi, rfl, hM, hF, hB⟩ := hrel
    have hBw := HB1.out.trans (hB.mono HB1.out.size)
    have hMl : M.length = i := by rw [← List.length_map (f := (·.1)), hM, List.length_take]; omega
    by_cases h1 : i < fs.length
    · obtain ⟨f, hf⟩ : ∃ f, fs[i]? = some f := ⟨_, List.getElem?_eq_getElem h1⟩
      obtain ⟨nad, rfl, n0, _, _⟩ := HNc.out _ hB i f hf
      obtain ⟨A, c, hc, hsz, hall⟩ := HE.out f (List.mem_of_getElem? hf)
      obtain ⟨x0, x1, hr, hlk⟩ := hall _ hBw
      have c0 := HC.out _ hBw
      have k2 : (i : Int) < (fs.length : Int) := by omega
      have k0 : (0 : Int) ≤ (i : Int) := by omega
      have HK3 : Aside0 (wrap64 ((i : Int) + 1) = ((i : Int) + 1)) := ⟨PA.wr (by omega) (by omega)⟩
      have H1 := Aside0.mk (Nat.succ_le_of_lt h1)
      have HEQ := Aside0.mk (congrArg (Value.int .i64) (show wrap64 ((i : Int) + 1) = ((i + 1 : Nat) : Int) from HK3.out))
      have HMS := Aside0.mk (meas_lt h1 HK3.out)
      have HEQ2 := Aside0.mk (show Value.int .i64 ((i : Int) + 1) = Value.int .i64 ((i + 1 : Nat) : Int) from rfl)
      have HMS2 := Aside0.mk (meas_lt2 h1)
      have HFS := Aside0.mk (show ∀ v5 : Value, (M ++ [(f, v5)]).map (·.1) = fs.take (i + 1) by intro v5; rw [List.map_append, hM, fs_snoc hf]; rfl)
      have HF := Aside0.mk hF
      have HB := Aside0.mk hB
      have HBw := Aside0.mk hBw
      have HR := Aside0.mk hr
      have HAll := Aside0.mk hall
      have HSz := Aside0.mk hsz
      have HCc := Aside0.mk hc
      have HLen : Aside0 ((M.length + 1) * 48 ≤ 140737488355328) := ⟨by omega⟩
      clear hf h1 hi hM hF hB hBw hr hMl hall hsz hc
      go_upto_region 6 with fail
      go_region_held3 (fun w' => w'.cell? ⟨gb f.f0, 0, none⟩ = some (.slice A f.f1.length c) ∧ w'.cell? ⟨gb f.f0, 1, none⟩ = some (.int .i64 f.f2))
        (first | go_keep | exact ⟨(HAll.out _ HB3.out).1, (HAll.out _ HB3.out).2.1⟩ | exact ⟨(HAll.out _ (below_alloc HB3.out _)).1, (HAll.out _ (below_alloc HB3.out _)).2.1⟩ | exact ⟨(HAll.out _ HB5.out).1, (HAll.out _ HB5.out).2.1⟩)
        (first
          | (go_at_call 27; refine Calls.mono (clone_calls A c f.f1 wr.drew (by have := HSz.out; omega) HCc.out HR.out) ?_; rintro e w3 ⟨v3, rfl, ho, hb⟩; have hb3 := HBw.out.trans ((((Drawn0.refl wr).step 1).below.trans hb).mono HBw.out.size); obtain ⟨A3, C3, rfl, _⟩ := own_form ho; have HO3 := Aside0.mk (own_lower ho HB.out.size); have HF3 := Aside0.mk (HF.out.below (((Drawn0.refl wr).step 1).below.trans hb)); have HB3 := Aside0.mk hb3; have HBq := Aside0.mk (HB.out.trans ((((Drawn0.refl wr).step 1).below.trans hb).mono HB.out.size)); clear ho hb hb3)
          | (refine step_append_cells (w0 := w1) (W := w3) w1.heap.size (by rfl) (.tmp 20) (.tmp 32) 39 42 (.agg #[.string ⟨#[]⟩, .slice none 0 0, .int .i64 0]) 3 48 rfl Tryd.underlying39 infoF rfl (by decide) (by decide) _ M.length (flatL M) [.string f.f0, .slice A3 f.f1.length C3, .int .i64 f.f2] rfl rfl rfl ?b1 HF3.out.own HBq.out HBq.out.size HLen.out ?_; (case b1 => intro u hu; simp only [List.mem_cons, List.not_mem_nil, or_false] at hu; rcases hu with rfl | rfl | rfl <;> rfl); intro v5 w5 ho5 hb5 hg5 _; have HF5 := Aside0.mk (HF3.out.snoc (p := (f, .slice A3 f.f1.length C3)) HO3.out hg5 ho5); have HB5 := Aside0.mk (HB1.out.trans (hb5.mono HB1.out.size)); have HB6 := Aside0.mk hb5; clear ho5 hb5 hg5))
      go_wp2
      exact ⟨⟨i + 1, M ++ [(f, .slice A3 f.f1.length C3)], H1.out, by first | exact HEQ.out | exact HEQ2.out, HFS.out _, HF5.out, HB6.out⟩, by first | exact HMS.out | exact HMS2.out⟩
    · have k2 : ¬ (i : Int) < (fs.length : Int) := by omega
      have k1 : decide ((i : Int) < (fs.length : Int)) = false := decide_eq_false k2
      have k5 : decide (i < fs.length) = false := decide_eq_false h1
      have HFin : Aside0 (∀ v, FL w1.heap.size wr v M → FlPost w wr (.returned v) fs) := ⟨fun v hF => ⟨v, M, rfl, by rw [hM, List.take_of_length_le (by omega)], hF.lower HB1.out.size, hBw⟩⟩
      have HF := Aside0.mk hF
      clear h1 hi hM hF hB hBw hMl k2
      go_wp2
      go_ret
      exact HFin.out _ HF.out
end Go.Proofs.YthneomomhoilkaaDoor.PA
end
