/- Several texts of this claim in one, each in a section of its own; what nothing reaches is left out. Conditions: each law's own. -/
import Derived.Test.YtjlclkenfmbahaaGreatDoorVPAx0
import Derived.WalkKit
import Derived.Maps.AppendAt
import Derived.Maps.OwnOps
import Derived.Test.YtjlclkenfmbahaaGreatDoorVDaysNum
import Derived.Test.YtjlclkenfmbahaaGreatDoorVL
set_option linter.unusedVariables false
set_option linter.unusedSimpArgs false
set_option linter.unusedSectionVars false
section
namespace Go.Proofs.YtjlclkenfmbahaaGreatDoor.PA
open Go.RowKit Go.Proofs.YtjlclkenfmbahaaGreatDoorW.PrintWords Go.Proofs.YtjlclkenfmbahaaGreatDoorW.PrintLast Go.Proofs.YtjlclkenfmbahaaGreatDoorW.PrintMore
def nilIx (j : Nat) : Bool := decide (4 ≤ j) && (decide (j < 220) && ((decide (j < 67) || decide (75 < j)) && !(j % 9 == 3)))
def Nils (cg : Array Value) : Prop := ∀ j, nilIx j = true → cg[j]? = some (.slice none 0 0)
theorem Nils.set {cg : Array Value} (h : Nils cg) {j : Nat} (hj : nilIx j = false) (v : Value) : Nils (cg.setIfInBounds j v) := fun i hi => by
 rw [Array.getElem?_setIfInBounds_ne (fun e => by rw [e] at hj; rw [hi] at hj; cases hj)]
 exact h i hi
theorem below_same {W : World} {G j : Nat} {cg : Array Value} {t : TypeId} {v : Value} (h : W.heap[G]? = some (.cells cg t (0, 0))) (hj : cg[j]? = some v) : Below W.heap.size W (W.setCell ⟨G, j, none⟩ v) := by
 refine ⟨rfl, rfl, rfl, by simp [World.setCell], fun k hk => ?_⟩
 by_cases e : k = G
 ·subst e
  rw [blk_set h j v, h]
  congr 2
  apply Array.ext_getElem?
  intro i
  by_cases hi : i = j
  ·subst hi
   rw [Array.getElem?_setIfInBounds_self_of_lt (Array.getElem?_eq_some_iff.1 hj).1, hj]
  ·rw [Array.getElem?_setIfInBounds_ne (Ne.symm hi)]
 ·exact Below.heap_setCell W _ v k e
theorem results_nil {P : Program} {fn : Func} (h : fn.results = #[]) (tmps : Array Value) (w : World) : (results fn tmps).run P w = .ok (.tuple #[]) w := by
 unfold results
 rw [h]
 simp [Sem.run_bind, Sem.run_pure]
theorem bodyPost_end {P : Program} {fn : Func} {R : Ending → World → Prop} {a : Act} {w : World} (h : fn.results = #[]) (hd : a.defers = []) (hR : R (.returned (.tuple #[])) w) : bodyPost P fn R .normal a w :=
 ⟨hd, _, results_nil h _ _, hR⟩
theorem below_same2 {W : World} {G i j : Nat} {cg : Array Value} {t : TypeId} {u v : Value} (h : W.heap[G]? = some (.cells cg t (0, 0))) (hi : cg[i]? = some u) (hj : cg[j]? = some v) : Below W.heap.size W ((W.setCell ⟨G, i, none⟩ u).setCell ⟨G, j, none⟩ v) :=
 (below_same h hi).trans ((below_same (blk_below h (below_same h hi)) hj).mono (below_same h hi).size)
set_option maxRecDepth 100000
set_option maxHeartbeats 2000000
theorem markBytes_calls (G : Nat) (cg : Array Value) (W : World) (hG : W.heap[G]? = some (.cells cg 66 (0, 0))) (hn : Nils cg) :
  Calls Tryz.prog 136 #[.pointer (some ⟨G, 0, none⟩)] W fun e w' => e = .returned (.tuple #[]) ∧ Below W.heap.size W w' := by
 have x2 := (blk_cell hG 6).trans (hn 6 (by decide))
 have x3 := (blk_cell hG 7).trans (hn 7 (by decide))
 have x5 := (blk_cell hG 9).trans (hn 9 (by decide))
 have x6 := (blk_cell hG 10).trans (hn 10 (by decide))
 clear hG hn
 go_enter Tryz.func136, Tryz.ntmps136
 go_wp2
 refine bodyPost_ret (results_nil rfl _ _) rfl ⟨rfl, Below.refl _ _⟩
theorem growBytes_calls (G : Nat) (cg : Array Value) (W : World) (hG : W.heap[G]? = some (.cells cg 66 (0, 0))) (hn : Nils cg) :
  Calls Tryz.prog 160 #[.pointer (some ⟨G, 0, none⟩)] W fun e w' => e = .returned (.tuple #[]) ∧ Below W.heap.size W w' := by
 have x4 := (blk_cell hG 8).trans (hn 8 (by decide))
 have x7 := (blk_cell hG 11).trans (hn 11 (by decide))
 have fr := fun j => blk_frozen hG j
 have hb := below_same2 hG (hn 8 (by decide)) (hn 11 (by decide))
 have HB := Aside0.mk hb
 clear hG hn hb
 go_enter Tryz.func160, Tryz.ntmps160
 go_wp2
 refine wp_loop_rounds 1 ?_
 rw [rounds_succ]
 go_wp2
 exact bodyPost_end rfl rfl ⟨rfl, HB.out⟩
theorem holdBytes_calls (G : Nat) (cg : Array Value) (W : World) (hG : W.heap[G]? = some (.cells cg 66 (0, 0))) (hn : Nils cg) :
  Calls Tryz.prog 46 #[.pointer (some ⟨G, 0, none⟩)] W fun e w' => e = .returned (.bool true) ∧ Below W.heap.size W w' := by
 have x0 := (blk_cell hG 4).trans (hn 4 (by decide))
 have x2 := (blk_cell hG 6).trans (hn 6 (by decide))
 clear hG hn
 go_enter Tryz.func46, Tryz.ntmps46
 go_wp2
 refine wp_loop_rounds 1 ?_
 rw [rounds_succ]
 go_wp2
 refine wp_loop_rounds 1 ?_
 rw [rounds_succ]
 go_wp2
 refine bodyPost_ret (results_tmp rfl _ _ _) rfl ⟨rfl, Below.refl _ _⟩
theorem markInts_calls (G : Nat) (cg : Array Value) (W : World) (hG : W.heap[G]? = some (.cells cg 66 (0, 0))) (hn : Nils cg) :
  Calls Tryz.prog 137 #[.pointer (some ⟨G, 0, none⟩)] W fun e w' => e = .returned (.tuple #[]) ∧ Below W.heap.size W w' := by
 have x2 := (blk_cell hG 15).trans (hn 15 (by decide))
 have x3 := (blk_cell hG 16).trans (hn 16 (by decide))
 have x5 := (blk_cell hG 18).trans (hn 18 (by decide))
 have x6 := (blk_cell hG 19).trans (hn 19 (by decide))
 clear hG hn
 go_enter Tryz.func137, Tryz.ntmps137
 go_wp2
 refine bodyPost_ret (results_nil rfl _ _) rfl ⟨rfl, Below.refl _ _⟩
theorem growInts_calls (G : Nat) (cg : Array Value) (W : World) (hG : W.heap[G]? = some (.cells cg 66 (0, 0))) (hn : Nils cg) :
  Calls Tryz.prog 161 #[.pointer (some ⟨G, 0, none⟩)] W fun e w' => e = .returned (.tuple #[]) ∧ Below W.heap.size W w' := by
 have x4 := (blk_cell hG 17).trans (hn 17 (by decide))
 have x7 := (blk_cell hG 20).trans (hn 20 (by decide))
 have fr := fun j => blk_frozen hG j
 have hb := below_same2 hG (hn 17 (by decide)) (hn 20 (by decide))
 have HB := Aside0.mk hb
 clear hG hn hb
 go_enter Tryz.func161, Tryz.ntmps161
 go_wp2
 refine wp_loop_rounds 1 ?_
 rw [rounds_succ]
 go_wp2
 exact bodyPost_end rfl rfl ⟨rfl, HB.out⟩
theorem holdInts_calls (G : Nat) (cg : Array Value) (W : World) (hG : W.heap[G]? = some (.cells cg 66 (0, 0))) (hn : Nils cg) :
  Calls Tryz.prog 47 #[.pointer (some ⟨G, 0, none⟩)] W fun e w' => e = .returned (.bool true) ∧ Below W.heap.size W w' := by
 have x0 := (blk_cell hG 13).trans (hn 13 (by decide))
 have x2 := (blk_cell hG 15).trans (hn 15 (by decide))
 clear hG hn
 go_enter Tryz.func47, Tryz.ntmps47
 go_wp2
 refine wp_loop_rounds 1 ?_
 rw [rounds_succ]
 go_wp2
 refine wp_loop_rounds 1 ?_
 rw [rounds_succ]
 go_wp2
 refine bodyPost_ret (results_tmp rfl _ _ _) rfl ⟨rfl, Below.refl _ _⟩
theorem markCells_calls (G : Nat) (cg : Array Value) (W : World) (hG : W.heap[G]? = some (.cells cg 66 (0, 0))) (hn : Nils cg) :
  Calls Tryz.prog 138 #[.pointer (some ⟨G, 0, none⟩)] W fun e w' => e = .returned (.tuple #[]) ∧ Below W.heap.size W w' := by
 have x2 := (blk_cell hG 24).trans (hn 24 (by decide))
 have x3 := (blk_cell hG 25).trans (hn 25 (by decide))
 have x5 := (blk_cell hG 27).trans (hn 27 (by decide))
 have x6 := (blk_cell hG 28).trans (hn 28 (by decide))
 clear hG hn
 go_enter Tryz.func138, Tryz.ntmps138
 go_wp2
 refine bodyPost_ret (results_nil rfl _ _) rfl ⟨rfl, Below.refl _ _⟩
theorem growCells_calls (G : Nat) (cg : Array Value) (W : World) (hG : W.heap[G]? = some (.cells cg 66 (0, 0))) (hn : Nils cg) :
  Calls Tryz.prog 162 #[.pointer (some ⟨G, 0, none⟩)] W fun e w' => e = .returned (.tuple #[]) ∧ Below W.heap.size W w' := by
 have x4 := (blk_cell hG 26).trans (hn 26 (by decide))
 have x7 := (blk_cell hG 29).trans (hn 29 (by decide))
 have fr := fun j => blk_frozen hG j
 have hb := below_same2 hG (hn 26 (by decide)) (hn 29 (by decide))
 have HB := Aside0.mk hb
 clear hG hn hb
 go_enter Tryz.func162, Tryz.ntmps162
 go_wp2
 refine wp_loop_rounds 1 ?_
 rw [rounds_succ]
 go_wp2
 exact bodyPost_end rfl rfl ⟨rfl, HB.out⟩
theorem holdCells_calls (G : Nat) (cg : Array Value) (W : World) (hG : W.heap[G]? = some (.cells cg 66 (0, 0))) (hn : Nils cg) :
  Calls Tryz.prog 48 #[.pointer (some ⟨G, 0, none⟩)] W fun e w' => e = .returned (.bool true) ∧ Below W.heap.size W w' := by
 have x0 := (blk_cell hG 22).trans (hn 22 (by decide))
 have x2 := (blk_cell hG 24).trans (hn 24 (by decide))
 clear hG hn
 go_enter Tryz.func48, Tryz.ntmps48
 go_wp2
 refine wp_loop_rounds 1 ?_
 rw [rounds_succ]
 go_wp2
 refine wp_loop_rounds 1 ?_
 rw [rounds_succ]
 go_wp2
 refine bodyPost_ret (results_tmp rfl _ _ _) rfl ⟨rfl, Below.refl _ _⟩
theorem markBools_calls (G : Nat) (cg : Array Value) (W : World) (hG : W.heap[G]? = some (.cells cg 66 (0, 0))) (hn : Nils cg) :
  Calls Tryz.prog 139 #[.pointer (some ⟨G, 0, none⟩)] W fun e w' => e = .returned (.tuple #[]) ∧ Below W.heap.size W w' := by
 have x2 := (blk_cell hG 33).trans (hn 33 (by decide))
 have x3 := (blk_cell hG 34).trans (hn 34 (by decide))
 have x5 := (blk_cell hG 36).trans (hn 36 (by decide))
 have x6 := (blk_cell hG 37).trans (hn 37 (by decide))
 clear hG hn
 go_enter Tryz.func139, Tryz.ntmps139
 go_wp2
 refine bodyPost_ret (results_nil rfl _ _) rfl ⟨rfl, Below.refl _ _⟩
theorem growBools_calls (G : Nat) (cg : Array Value) (W : World) (hG : W.heap[G]? = some (.cells cg 66 (0, 0))) (hn : Nils cg) :
  Calls Tryz.prog 163 #[.pointer (some ⟨G, 0, none⟩)] W fun e w' => e = .returned (.tuple #[]) ∧ Below W.heap.size W w' := by
 have x4 := (blk_cell hG 35).trans (hn 35 (by decide))
 have x7 := (blk_cell hG 38).trans (hn 38 (by decide))
 have fr := fun j => blk_frozen hG j
 have hb := below_same2 hG (hn 35 (by decide)) (hn 38 (by decide))
 have HB := Aside0.mk hb
 clear hG hn hb
 go_enter Tryz.func163, Tryz.ntmps163
 go_wp2
 refine wp_loop_rounds 1 ?_
 rw [rounds_succ]
 go_wp2
 exact bodyPost_end rfl rfl ⟨rfl, HB.out⟩
theorem holdBools_calls (G : Nat) (cg : Array Value) (W : World) (hG : W.heap[G]? = some (.cells cg 66 (0, 0))) (hn : Nils cg) :
  Calls Tryz.prog 49 #[.pointer (some ⟨G, 0, none⟩)] W fun e w' => e = .returned (.bool true) ∧ Below W.heap.size W w' := by
 have x0 := (blk_cell hG 31).trans (hn 31 (by decide))
 have x2 := (blk_cell hG 33).trans (hn 33 (by decide))
 clear hG hn
 go_enter Tryz.func49, Tryz.ntmps49
 go_wp2
 refine wp_loop_rounds 1 ?_
 rw [rounds_succ]
 go_wp2
 refine wp_loop_rounds 1 ?_
 rw [rounds_succ]
 go_wp2
 refine bodyPost_ret (results_tmp rfl _ _ _) rfl ⟨rfl, Below.refl _ _⟩
theorem markTexts_calls (G : Nat) (cg : Array Value) (W : World) (hG : W.heap[G]? = some (.cells cg 66 (0, 0))) (hn : Nils cg) :
  Calls Tryz.prog 140 #[.pointer (some ⟨G, 0, none⟩)] W fun e w' => e = .returned (.tuple #[]) ∧ Below W.heap.size W w' := by
 have x2 := (blk_cell hG 42).trans (hn 42 (by decide))
 have x3 := (blk_cell hG 43).trans (hn 43 (by decide))
 have x5 := (blk_cell hG 45).trans (hn 45 (by decide))
 have x6 := (blk_cell hG 46).trans (hn 46 (by decide))
 clear hG hn
 go_enter Tryz.func140, Tryz.ntmps140
 go_wp2
 refine bodyPost_ret (results_nil rfl _ _) rfl ⟨rfl, Below.refl _ _⟩
theorem growTexts_calls (G : Nat) (cg : Array Value) (W : World) (hG : W.heap[G]? = some (.cells cg 66 (0, 0))) (hn : Nils cg) :
  Calls Tryz.prog 164 #[.pointer (some ⟨G, 0, none⟩)] W fun e w' => e = .returned (.tuple #[]) ∧ Below W.heap.size W w' := by
 have x4 := (blk_cell hG 44).trans (hn 44 (by decide))
 have x7 := (blk_cell hG 47).trans (hn 47 (by decide))
 have fr := fun j => blk_frozen hG j
 have hb := below_same2 hG (hn 44 (by decide)) (hn 47 (by decide))
 have HB := Aside0.mk hb
 clear hG hn hb
 go_enter Tryz.func164, Tryz.ntmps164
 go_wp2
 refine wp_loop_rounds 1 ?_
 rw [rounds_succ]
 go_wp2
 exact bodyPost_end rfl rfl ⟨rfl, HB.out⟩
theorem holdTexts_calls (G : Nat) (cg : Array Value) (W : World) (hG : W.heap[G]? = some (.cells cg 66 (0, 0))) (hn : Nils cg) :
  Calls Tryz.prog 50 #[.pointer (some ⟨G, 0, none⟩)] W fun e w' => e = .returned (.bool true) ∧ Below W.heap.size W w' := by
 have x0 := (blk_cell hG 40).trans (hn 40 (by decide))
 have x2 := (blk_cell hG 42).trans (hn 42 (by decide))
 clear hG hn
 go_enter Tryz.func50, Tryz.ntmps50
 go_wp2
 refine wp_loop_rounds 1 ?_
 rw [rounds_succ]
 go_wp2
 refine wp_loop_rounds 1 ?_
 rw [rounds_succ]
 go_wp2
 refine bodyPost_ret (results_tmp rfl _ _ _) rfl ⟨rfl, Below.refl _ _⟩
theorem markValues_calls (G : Nat) (cg : Array Value) (W : World) (hG : W.heap[G]? = some (.cells cg 66 (0, 0))) (hn : Nils cg) :
  Calls Tryz.prog 141 #[.pointer (some ⟨G, 0, none⟩)] W fun e w' => e = .returned (.tuple #[]) ∧ Below W.heap.size W w' := by
 have x2 := (blk_cell hG 51).trans (hn 51 (by decide))
 have x3 := (blk_cell hG 52).trans (hn 52 (by decide))
 have x5 := (blk_cell hG 54).trans (hn 54 (by decide))
 have x6 := (blk_cell hG 55).trans (hn 55 (by decide))
 clear hG hn
 go_enter Tryz.func141, Tryz.ntmps141
 go_wp2
 refine bodyPost_ret (results_nil rfl _ _) rfl ⟨rfl, Below.refl _ _⟩
theorem growValues_calls (G : Nat) (cg : Array Value) (W : World) (hG : W.heap[G]? = some (.cells cg 66 (0, 0))) (hn : Nils cg) :
  Calls Tryz.prog 165 #[.pointer (some ⟨G, 0, none⟩)] W fun e w' => e = .returned (.tuple #[]) ∧ Below W.heap.size W w' := by
 have x4 := (blk_cell hG 53).trans (hn 53 (by decide))
 have x7 := (blk_cell hG 56).trans (hn 56 (by decide))
 have fr := fun j => blk_frozen hG j
 have hb := below_same2 hG (hn 53 (by decide)) (hn 56 (by decide))
 have HB := Aside0.mk hb
 clear hG hn hb
 go_enter Tryz.func165, Tryz.ntmps165
 go_wp2
 refine wp_loop_rounds 1 ?_
 rw [rounds_succ]
 go_wp2
 exact bodyPost_end rfl rfl ⟨rfl, HB.out⟩
theorem holdValues_calls (G : Nat) (cg : Array Value) (W : World) (hG : W.heap[G]? = some (.cells cg 66 (0, 0))) (hn : Nils cg) :
  Calls Tryz.prog 51 #[.pointer (some ⟨G, 0, none⟩)] W fun e w' => e = .returned (.bool true) ∧ Below W.heap.size W w' := by
 have x0 := (blk_cell hG 49).trans (hn 49 (by decide))
 have x2 := (blk_cell hG 51).trans (hn 51 (by decide))
 clear hG hn
 go_enter Tryz.func51, Tryz.ntmps51
 go_wp2
 refine wp_loop_rounds 1 ?_
 rw [rounds_succ]
 go_wp2
 refine wp_loop_rounds 1 ?_
 rw [rounds_succ]
 go_wp2
 refine bodyPost_ret (results_tmp rfl _ _ _) rfl ⟨rfl, Below.refl _ _⟩
theorem markBands_calls (G : Nat) (cg : Array Value) (W : World) (hG : W.heap[G]? = some (.cells cg 66 (0, 0))) (hn : Nils cg) :
  Calls Tryz.prog 142 #[.pointer (some ⟨G, 0, none⟩)] W fun e w' => e = .returned (.tuple #[]) ∧ Below W.heap.size W w' := by
 have x2 := (blk_cell hG 60).trans (hn 60 (by decide))
 have x3 := (blk_cell hG 61).trans (hn 61 (by decide))
 have x5 := (blk_cell hG 63).trans (hn 63 (by decide))
 have x6 := (blk_cell hG 64).trans (hn 64 (by decide))
 clear hG hn
 go_enter Tryz.func142, Tryz.ntmps142
 go_wp2
 refine bodyPost_ret (results_nil rfl _ _) rfl ⟨rfl, Below.refl _ _⟩
theorem growBands_calls (G : Nat) (cg : Array Value) (W : World) (hG : W.heap[G]? = some (.cells cg 66 (0, 0))) (hn : Nils cg) :
  Calls Tryz.prog 166 #[.pointer (some ⟨G, 0, none⟩)] W fun e w' => e = .returned (.tuple #[]) ∧ Below W.heap.size W w' := by
 have x4 := (blk_cell hG 62).trans (hn 62 (by decide))
 have x7 := (blk_cell hG 65).trans (hn 65 (by decide))
 have fr := fun j => blk_frozen hG j
 have hb := below_same2 hG (hn 62 (by decide)) (hn 65 (by decide))
 have HB := Aside0.mk hb
 clear hG hn hb
 go_enter Tryz.func166, Tryz.ntmps166
 go_wp2
 refine wp_loop_rounds 1 ?_
 rw [rounds_succ]
 go_wp2
 exact bodyPost_end rfl rfl ⟨rfl, HB.out⟩
theorem holdBands_calls (G : Nat) (cg : Array Value) (W : World) (hG : W.heap[G]? = some (.cells cg 66 (0, 0))) (hn : Nils cg) :
  Calls Tryz.prog 52 #[.pointer (some ⟨G, 0, none⟩)] W fun e w' => e = .returned (.bool true) ∧ Below W.heap.size W w' := by
 have x0 := (blk_cell hG 58).trans (hn 58 (by decide))
 have x2 := (blk_cell hG 60).trans (hn 60 (by decide))
 clear hG hn
 go_enter Tryz.func52, Tryz.ntmps52
 go_wp2
 refine wp_loop_rounds 1 ?_
 rw [rounds_succ]
 go_wp2
 refine wp_loop_rounds 1 ?_
 rw [rounds_succ]
 go_wp2
 refine bodyPost_ret (results_tmp rfl _ _ _) rfl ⟨rfl, Below.refl _ _⟩
theorem markEntries_calls (G : Nat) (cg : Array Value) (W : World) (hG : W.heap[G]? = some (.cells cg 66 (0, 0))) (hn : Nils cg) :
  Calls Tryz.prog 144 #[.pointer (some ⟨G, 0, none⟩)] W fun e w' => e = .returned (.tuple #[]) ∧ Below W.heap.size W w' := by
 have x2 := (blk_cell hG 78).trans (hn 78 (by decide))
 have x3 := (blk_cell hG 79).trans (hn 79 (by decide))
 have x5 := (blk_cell hG 81).trans (hn 81 (by decide))
 have x6 := (blk_cell hG 82).trans (hn 82 (by decide))
 clear hG hn
 go_enter Tryz.func144, Tryz.ntmps144
 go_wp2
 refine bodyPost_ret (results_nil rfl _ _) rfl ⟨rfl, Below.refl _ _⟩
theorem growEntries_calls (G : Nat) (cg : Array Value) (W : World) (hG : W.heap[G]? = some (.cells cg 66 (0, 0))) (hn : Nils cg) :
  Calls Tryz.prog 168 #[.pointer (some ⟨G, 0, none⟩)] W fun e w' => e = .returned (.tuple #[]) ∧ Below W.heap.size W w' := by
 have x4 := (blk_cell hG 80).trans (hn 80 (by decide))
 have x7 := (blk_cell hG 83).trans (hn 83 (by decide))
 have fr := fun j => blk_frozen hG j
 have hb := below_same2 hG (hn 80 (by decide)) (hn 83 (by decide))
 have HB := Aside0.mk hb
 clear hG hn hb
 go_enter Tryz.func168, Tryz.ntmps168
 go_wp2
 refine wp_loop_rounds 1 ?_
 rw [rounds_succ]
 go_wp2
 exact bodyPost_end rfl rfl ⟨rfl, HB.out⟩
theorem holdEntries_calls (G : Nat) (cg : Array Value) (W : World) (hG : W.heap[G]? = some (.cells cg 66 (0, 0))) (hn : Nils cg) :
  Calls Tryz.prog 54 #[.pointer (some ⟨G, 0, none⟩)] W fun e w' => e = .returned (.bool true) ∧ Below W.heap.size W w' := by
 have x0 := (blk_cell hG 76).trans (hn 76 (by decide))
 have x2 := (blk_cell hG 78).trans (hn 78 (by decide))
 clear hG hn
 go_enter Tryz.func54, Tryz.ntmps54
 go_wp2
 refine wp_loop_rounds 1 ?_
 rw [rounds_succ]
 go_wp2
 refine wp_loop_rounds 1 ?_
 rw [rounds_succ]
 go_wp2
 refine bodyPost_ret (results_tmp rfl _ _ _) rfl ⟨rfl, Below.refl _ _⟩
theorem markChanges_calls (G : Nat) (cg : Array Value) (W : World) (hG : W.heap[G]? = some (.cells cg 66 (0, 0))) (hn : Nils cg) :
  Calls Tryz.prog 145 #[.pointer (some ⟨G, 0, none⟩)] W fun e w' => e = .returned (.tuple #[]) ∧ Below W.heap.size W w' := by
 have x2 := (blk_cell hG 87).trans (hn 87 (by decide))
 have x3 := (blk_cell hG 88).trans (hn 88 (by decide))
 have x5 := (blk_cell hG 90).trans (hn 90 (by decide))
 have x6 := (blk_cell hG 91).trans (hn 91 (by decide))
 clear hG hn
 go_enter Tryz.func145, Tryz.ntmps145
 go_wp2
 refine bodyPost_ret (results_nil rfl _ _) rfl ⟨rfl, Below.refl _ _⟩
theorem growChanges_calls (G : Nat) (cg : Array Value) (W : World) (hG : W.heap[G]? = some (.cells cg 66 (0, 0))) (hn : Nils cg) :
  Calls Tryz.prog 169 #[.pointer (some ⟨G, 0, none⟩)] W fun e w' => e = .returned (.tuple #[]) ∧ Below W.heap.size W w' := by
 have x4 := (blk_cell hG 89).trans (hn 89 (by decide))
 have x7 := (blk_cell hG 92).trans (hn 92 (by decide))
 have fr := fun j => blk_frozen hG j
 have hb := below_same2 hG (hn 89 (by decide)) (hn 92 (by decide))
 have HB := Aside0.mk hb
 clear hG hn hb
 go_enter Tryz.func169, Tryz.ntmps169
 go_wp2
 refine wp_loop_rounds 1 ?_
 rw [rounds_succ]
 go_wp2
 exact bodyPost_end rfl rfl ⟨rfl, HB.out⟩
theorem holdChanges_calls (G : Nat) (cg : Array Value) (W : World) (hG : W.heap[G]? = some (.cells cg 66 (0, 0))) (hn : Nils cg) :
  Calls Tryz.prog 55 #[.pointer (some ⟨G, 0, none⟩)] W fun e w' => e = .returned (.bool true) ∧ Below W.heap.size W w' := by
 have x0 := (blk_cell hG 85).trans (hn 85 (by decide))
 have x2 := (blk_cell hG 87).trans (hn 87 (by decide))
 clear hG hn
 go_enter Tryz.func55, Tryz.ntmps55
 go_wp2
 refine wp_loop_rounds 1 ?_
 rw [rounds_succ]
 go_wp2
 refine wp_loop_rounds 1 ?_
 rw [rounds_succ]
 go_wp2
 refine bodyPost_ret (results_tmp rfl _ _ _) rfl ⟨rfl, Below.refl _ _⟩
theorem markReads_calls (G : Nat) (cg : Array Value) (W : World) (hG : W.heap[G]? = some (.cells cg 66 (0, 0))) (hn : Nils cg) :
  Calls Tryz.prog 146 #[.pointer (some ⟨G, 0, none⟩)] W fun e w' => e = .returned (.tuple #[]) ∧ Below W.heap.size W w' := by
 have x2 := (blk_cell hG 96).trans (hn 96 (by decide))
 have x3 := (blk_cell hG 97).trans (hn 97 (by decide))
 have x5 := (blk_cell hG 99).trans (hn 99 (by decide))
 have x6 := (blk_cell hG 100).trans (hn 100 (by decide))
 clear hG hn
 go_enter Tryz.func146, Tryz.ntmps146
 go_wp2
 refine bodyPost_ret (results_nil rfl _ _) rfl ⟨rfl, Below.refl _ _⟩
theorem growReads_calls (G : Nat) (cg : Array Value) (W : World) (hG : W.heap[G]? = some (.cells cg 66 (0, 0))) (hn : Nils cg) :
  Calls Tryz.prog 170 #[.pointer (some ⟨G, 0, none⟩)] W fun e w' => e = .returned (.tuple #[]) ∧ Below W.heap.size W w' := by
 have x4 := (blk_cell hG 98).trans (hn 98 (by decide))
 have x7 := (blk_cell hG 101).trans (hn 101 (by decide))
 have fr := fun j => blk_frozen hG j
 have hb := below_same2 hG (hn 98 (by decide)) (hn 101 (by decide))
 have HB := Aside0.mk hb
 clear hG hn hb
 go_enter Tryz.func170, Tryz.ntmps170
 go_wp2
 refine wp_loop_rounds 1 ?_
 rw [rounds_succ]
 go_wp2
 exact bodyPost_end rfl rfl ⟨rfl, HB.out⟩
theorem holdReads_calls (G : Nat) (cg : Array Value) (W : World) (hG : W.heap[G]? = some (.cells cg 66 (0, 0))) (hn : Nils cg) :
  Calls Tryz.prog 56 #[.pointer (some ⟨G, 0, none⟩)] W fun e w' => e = .returned (.bool true) ∧ Below W.heap.size W w' := by
 have x0 := (blk_cell hG 94).trans (hn 94 (by decide))
 have x2 := (blk_cell hG 96).trans (hn 96 (by decide))
 clear hG hn
 go_enter Tryz.func56, Tryz.ntmps56
 go_wp2
 refine wp_loop_rounds 1 ?_
 rw [rounds_succ]
 go_wp2
 refine wp_loop_rounds 1 ?_
 rw [rounds_succ]
 go_wp2
 refine bodyPost_ret (results_tmp rfl _ _ _) rfl ⟨rfl, Below.refl _ _⟩
theorem markFindings_calls (G : Nat) (cg : Array Value) (W : World) (hG : W.heap[G]? = some (.cells cg 66 (0, 0))) (hn : Nils cg) :
  Calls Tryz.prog 147 #[.pointer (some ⟨G, 0, none⟩)] W fun e w' => e = .returned (.tuple #[]) ∧ Below W.heap.size W w' := by
 have x2 := (blk_cell hG 105).trans (hn 105 (by decide))
 have x3 := (blk_cell hG 106).trans (hn 106 (by decide))
 have x5 := (blk_cell hG 108).trans (hn 108 (by decide))
 have x6 := (blk_cell hG 109).trans (hn 109 (by decide))
 clear hG hn
 go_enter Tryz.func147, Tryz.ntmps147
 go_wp2
 refine bodyPost_ret (results_nil rfl _ _) rfl ⟨rfl, Below.refl _ _⟩
theorem growFindings_calls (G : Nat) (cg : Array Value) (W : World) (hG : W.heap[G]? = some (.cells cg 66 (0, 0))) (hn : Nils cg) :
  Calls Tryz.prog 171 #[.pointer (some ⟨G, 0, none⟩)] W fun e w' => e = .returned (.tuple #[]) ∧ Below W.heap.size W w' := by
 have x4 := (blk_cell hG 107).trans (hn 107 (by decide))
 have x7 := (blk_cell hG 110).trans (hn 110 (by decide))
 have fr := fun j => blk_frozen hG j
 have hb := below_same2 hG (hn 107 (by decide)) (hn 110 (by decide))
 have HB := Aside0.mk hb
 clear hG hn hb
 go_enter Tryz.func171, Tryz.ntmps171
 go_wp2
 refine wp_loop_rounds 1 ?_
 rw [rounds_succ]
 go_wp2
 exact bodyPost_end rfl rfl ⟨rfl, HB.out⟩
theorem holdFindings_calls (G : Nat) (cg : Array Value) (W : World) (hG : W.heap[G]? = some (.cells cg 66 (0, 0))) (hn : Nils cg) :
  Calls Tryz.prog 57 #[.pointer (some ⟨G, 0, none⟩)] W fun e w' => e = .returned (.bool true) ∧ Below W.heap.size W w' := by
 have x0 := (blk_cell hG 103).trans (hn 103 (by decide))
 have x2 := (blk_cell hG 105).trans (hn 105 (by decide))
 clear hG hn
 go_enter Tryz.func57, Tryz.ntmps57
 go_wp2
 refine wp_loop_rounds 1 ?_
 rw [rounds_succ]
 go_wp2
 refine wp_loop_rounds 1 ?_
 rw [rounds_succ]
 go_wp2
 refine bodyPost_ret (results_tmp rfl _ _ _) rfl ⟨rfl, Below.refl _ _⟩
theorem markConflicts_calls (G : Nat) (cg : Array Value) (W : World) (hG : W.heap[G]? = some (.cells cg 66 (0, 0))) (hn : Nils cg) :
  Calls Tryz.prog 148 #[.pointer (some ⟨G, 0, none⟩)] W fun e w' => e = .returned (.tuple #[]) ∧ Below W.heap.size W w' := by
 have x2 := (blk_cell hG 114).trans (hn 114 (by decide))
 have x3 := (blk_cell hG 115).trans (hn 115 (by decide))
 have x5 := (blk_cell hG 117).trans (hn 117 (by decide))
 have x6 := (blk_cell hG 118).trans (hn 118 (by decide))
 clear hG hn
 go_enter Tryz.func148, Tryz.ntmps148
 go_wp2
 refine bodyPost_ret (results_nil rfl _ _) rfl ⟨rfl, Below.refl _ _⟩
theorem growConflicts_calls (G : Nat) (cg : Array Value) (W : World) (hG : W.heap[G]? = some (.cells cg 66 (0, 0))) (hn : Nils cg) :
  Calls Tryz.prog 172 #[.pointer (some ⟨G, 0, none⟩)] W fun e w' => e = .returned (.tuple #[]) ∧ Below W.heap.size W w' := by
 have x4 := (blk_cell hG 116).trans (hn 116 (by decide))
 have x7 := (blk_cell hG 119).trans (hn 119 (by decide))
 have fr := fun j => blk_frozen hG j
 have hb := below_same2 hG (hn 116 (by decide)) (hn 119 (by decide))
 have HB := Aside0.mk hb
 clear hG hn hb
 go_enter Tryz.func172, Tryz.ntmps172
 go_wp2
 refine wp_loop_rounds 1 ?_
 rw [rounds_succ]
 go_wp2
 exact bodyPost_end rfl rfl ⟨rfl, HB.out⟩
theorem holdConflicts_calls (G : Nat) (cg : Array Value) (W : World) (hG : W.heap[G]? = some (.cells cg 66 (0, 0))) (hn : Nils cg) :
  Calls Tryz.prog 58 #[.pointer (some ⟨G, 0, none⟩)] W fun e w' => e = .returned (.bool true) ∧ Below W.heap.size W w' := by
 have x0 := (blk_cell hG 112).trans (hn 112 (by decide))
 have x2 := (blk_cell hG 114).trans (hn 114 (by decide))
 clear hG hn
 go_enter Tryz.func58, Tryz.ntmps58
 go_wp2
 refine wp_loop_rounds 1 ?_
 rw [rounds_succ]
 go_wp2
 refine wp_loop_rounds 1 ?_
 rw [rounds_succ]
 go_wp2
 refine bodyPost_ret (results_tmp rfl _ _ _) rfl ⟨rfl, Below.refl _ _⟩
theorem markPoints_calls (G : Nat) (cg : Array Value) (W : World) (hG : W.heap[G]? = some (.cells cg 66 (0, 0))) (hn : Nils cg) :
  Calls Tryz.prog 149 #[.pointer (some ⟨G, 0, none⟩)] W fun e w' => e = .returned (.tuple #[]) ∧ Below W.heap.size W w' := by
 have x2 := (blk_cell hG 123).trans (hn 123 (by decide))
 have x3 := (blk_cell hG 124).trans (hn 124 (by decide))
 have x5 := (blk_cell hG 126).trans (hn 126 (by decide))
 have x6 := (blk_cell hG 127).trans (hn 127 (by decide))
 clear hG hn
 go_enter Tryz.func149, Tryz.ntmps149
 go_wp2
 refine bodyPost_ret (results_nil rfl _ _) rfl ⟨rfl, Below.refl _ _⟩
theorem growPoints_calls (G : Nat) (cg : Array Value) (W : World) (hG : W.heap[G]? = some (.cells cg 66 (0, 0))) (hn : Nils cg) :
  Calls Tryz.prog 173 #[.pointer (some ⟨G, 0, none⟩)] W fun e w' => e = .returned (.tuple #[]) ∧ Below W.heap.size W w' := by
 have x4 := (blk_cell hG 125).trans (hn 125 (by decide))
 have x7 := (blk_cell hG 128).trans (hn 128 (by decide))
 have fr := fun j => blk_frozen hG j
 have hb := below_same2 hG (hn 125 (by decide)) (hn 128 (by decide))
 have HB := Aside0.mk hb
 clear hG hn hb
 go_enter Tryz.func173, Tryz.ntmps173
 go_wp2
 refine wp_loop_rounds 1 ?_
 rw [rounds_succ]
 go_wp2
 exact bodyPost_end rfl rfl ⟨rfl, HB.out⟩
theorem holdPoints_calls (G : Nat) (cg : Array Value) (W : World) (hG : W.heap[G]? = some (.cells cg 66 (0, 0))) (hn : Nils cg) :
  Calls Tryz.prog 59 #[.pointer (some ⟨G, 0, none⟩)] W fun e w' => e = .returned (.bool true) ∧ Below W.heap.size W w' := by
 have x0 := (blk_cell hG 121).trans (hn 121 (by decide))
 have x2 := (blk_cell hG 123).trans (hn 123 (by decide))
 clear hG hn
 go_enter Tryz.func59, Tryz.ntmps59
 go_wp2
 refine wp_loop_rounds 1 ?_
 rw [rounds_succ]
 go_wp2
 refine wp_loop_rounds 1 ?_
 rw [rounds_succ]
 go_wp2
 refine bodyPost_ret (results_tmp rfl _ _ _) rfl ⟨rfl, Below.refl _ _⟩
theorem markNodes_calls (G : Nat) (cg : Array Value) (W : World) (hG : W.heap[G]? = some (.cells cg 66 (0, 0))) (hn : Nils cg) :
  Calls Tryz.prog 150 #[.pointer (some ⟨G, 0, none⟩)] W fun e w' => e = .returned (.tuple #[]) ∧ Below W.heap.size W w' := by
 have x2 := (blk_cell hG 132).trans (hn 132 (by decide))
 have x3 := (blk_cell hG 133).trans (hn 133 (by decide))
 have x5 := (blk_cell hG 135).trans (hn 135 (by decide))
 have x6 := (blk_cell hG 136).trans (hn 136 (by decide))
 clear hG hn
 go_enter Tryz.func150, Tryz.ntmps150
 go_wp2
 refine bodyPost_ret (results_nil rfl _ _) rfl ⟨rfl, Below.refl _ _⟩
theorem growNodes_calls (G : Nat) (cg : Array Value) (W : World) (hG : W.heap[G]? = some (.cells cg 66 (0, 0))) (hn : Nils cg) :
  Calls Tryz.prog 174 #[.pointer (some ⟨G, 0, none⟩)] W fun e w' => e = .returned (.tuple #[]) ∧ Below W.heap.size W w' := by
 have x4 := (blk_cell hG 134).trans (hn 134 (by decide))
 have x7 := (blk_cell hG 137).trans (hn 137 (by decide))
 have fr := fun j => blk_frozen hG j
 have hb := below_same2 hG (hn 134 (by decide)) (hn 137 (by decide))
 have HB := Aside0.mk hb
 clear hG hn hb
 go_enter Tryz.func174, Tryz.ntmps174
 go_wp2
 refine wp_loop_rounds 1 ?_
 rw [rounds_succ]
 go_wp2
 exact bodyPost_end rfl rfl ⟨rfl, HB.out⟩
theorem holdNodes_calls (G : Nat) (cg : Array Value) (W : World) (hG : W.heap[G]? = some (.cells cg 66 (0, 0))) (hn : Nils cg) :
  Calls Tryz.prog 60 #[.pointer (some ⟨G, 0, none⟩)] W fun e w' => e = .returned (.bool true) ∧ Below W.heap.size W w' := by
 have x0 := (blk_cell hG 130).trans (hn 130 (by decide))
 have x2 := (blk_cell hG 132).trans (hn 132 (by decide))
 clear hG hn
 go_enter Tryz.func60, Tryz.ntmps60
 go_wp2
 refine wp_loop_rounds 1 ?_
 rw [rounds_succ]
 go_wp2
 refine wp_loop_rounds 1 ?_
 rw [rounds_succ]
 go_wp2
 refine bodyPost_ret (results_tmp rfl _ _ _) rfl ⟨rfl, Below.refl _ _⟩
theorem markRecords_calls (G : Nat) (cg : Array Value) (W : World) (hG : W.heap[G]? = some (.cells cg 66 (0, 0))) (hn : Nils cg) :
  Calls Tryz.prog 151 #[.pointer (some ⟨G, 0, none⟩)] W fun e w' => e = .returned (.tuple #[]) ∧ Below W.heap.size W w' := by
 have x2 := (blk_cell hG 141).trans (hn 141 (by decide))
 have x3 := (blk_cell hG 142).trans (hn 142 (by decide))
 have x5 := (blk_cell hG 144).trans (hn 144 (by decide))
 have x6 := (blk_cell hG 145).trans (hn 145 (by decide))
 clear hG hn
 go_enter Tryz.func151, Tryz.ntmps151
 go_wp2
 refine bodyPost_ret (results_nil rfl _ _) rfl ⟨rfl, Below.refl _ _⟩
theorem growRecords_calls (G : Nat) (cg : Array Value) (W : World) (hG : W.heap[G]? = some (.cells cg 66 (0, 0))) (hn : Nils cg) :
  Calls Tryz.prog 175 #[.pointer (some ⟨G, 0, none⟩)] W fun e w' => e = .returned (.tuple #[]) ∧ Below W.heap.size W w' := by
 have x4 := (blk_cell hG 143).trans (hn 143 (by decide))
 have x7 := (blk_cell hG 146).trans (hn 146 (by decide))
 have fr := fun j => blk_frozen hG j
 have hb := below_same2 hG (hn 143 (by decide)) (hn 146 (by decide))
 have HB := Aside0.mk hb
 clear hG hn hb
 go_enter Tryz.func175, Tryz.ntmps175
 go_wp2
 refine wp_loop_rounds 1 ?_
 rw [rounds_succ]
 go_wp2
 exact bodyPost_end rfl rfl ⟨rfl, HB.out⟩
theorem holdRecords_calls (G : Nat) (cg : Array Value) (W : World) (hG : W.heap[G]? = some (.cells cg 66 (0, 0))) (hn : Nils cg) :
  Calls Tryz.prog 61 #[.pointer (some ⟨G, 0, none⟩)] W fun e w' => e = .returned (.bool true) ∧ Below W.heap.size W w' := by
 have x0 := (blk_cell hG 139).trans (hn 139 (by decide))
 have x2 := (blk_cell hG 141).trans (hn 141 (by decide))
 clear hG hn
 go_enter Tryz.func61, Tryz.ntmps61
 go_wp2
 refine wp_loop_rounds 1 ?_
 rw [rounds_succ]
 go_wp2
 refine wp_loop_rounds 1 ?_
 rw [rounds_succ]
 go_wp2
 refine bodyPost_ret (results_tmp rfl _ _ _) rfl ⟨rfl, Below.refl _ _⟩
theorem markFiles_calls (G : Nat) (cg : Array Value) (W : World) (hG : W.heap[G]? = some (.cells cg 66 (0, 0))) (hn : Nils cg) :
  Calls Tryz.prog 152 #[.pointer (some ⟨G, 0, none⟩)] W fun e w' => e = .returned (.tuple #[]) ∧ Below W.heap.size W w' := by
 have x2 := (blk_cell hG 150).trans (hn 150 (by decide))
 have x3 := (blk_cell hG 151).trans (hn 151 (by decide))
 have x5 := (blk_cell hG 153).trans (hn 153 (by decide))
 have x6 := (blk_cell hG 154).trans (hn 154 (by decide))
 clear hG hn
 go_enter Tryz.func152, Tryz.ntmps152
 go_wp2
 refine bodyPost_ret (results_nil rfl _ _) rfl ⟨rfl, Below.refl _ _⟩
theorem growFiles_calls (G : Nat) (cg : Array Value) (W : World) (hG : W.heap[G]? = some (.cells cg 66 (0, 0))) (hn : Nils cg) :
  Calls Tryz.prog 176 #[.pointer (some ⟨G, 0, none⟩)] W fun e w' => e = .returned (.tuple #[]) ∧ Below W.heap.size W w' := by
 have x4 := (blk_cell hG 152).trans (hn 152 (by decide))
 have x7 := (blk_cell hG 155).trans (hn 155 (by decide))
 have fr := fun j => blk_frozen hG j
 have hb := below_same2 hG (hn 152 (by decide)) (hn 155 (by decide))
 have HB := Aside0.mk hb
 clear hG hn hb
 go_enter Tryz.func176, Tryz.ntmps176
 go_wp2
 refine wp_loop_rounds 1 ?_
 rw [rounds_succ]
 go_wp2
 exact bodyPost_end rfl rfl ⟨rfl, HB.out⟩
theorem holdFiles_calls (G : Nat) (cg : Array Value) (W : World) (hG : W.heap[G]? = some (.cells cg 66 (0, 0))) (hn : Nils cg) :
  Calls Tryz.prog 62 #[.pointer (some ⟨G, 0, none⟩)] W fun e w' => e = .returned (.bool true) ∧ Below W.heap.size W w' := by
 have x0 := (blk_cell hG 148).trans (hn 148 (by decide))
 have x2 := (blk_cell hG 150).trans (hn 150 (by decide))
 clear hG hn
 go_enter Tryz.func62, Tryz.ntmps62
 go_wp2
 refine wp_loop_rounds 1 ?_
 rw [rounds_succ]
 go_wp2
 refine wp_loop_rounds 1 ?_
 rw [rounds_succ]
 go_wp2
 refine bodyPost_ret (results_tmp rfl _ _ _) rfl ⟨rfl, Below.refl _ _⟩
theorem markExprs_calls (G : Nat) (cg : Array Value) (W : World) (hG : W.heap[G]? = some (.cells cg 66 (0, 0))) (hn : Nils cg) :
  Calls Tryz.prog 153 #[.pointer (some ⟨G, 0, none⟩)] W fun e w' => e = .returned (.tuple #[]) ∧ Below W.heap.size W w' := by
 have x2 := (blk_cell hG 159).trans (hn 159 (by decide))
 have x3 := (blk_cell hG 160).trans (hn 160 (by decide))
 have x5 := (blk_cell hG 162).trans (hn 162 (by decide))
 have x6 := (blk_cell hG 163).trans (hn 163 (by decide))
 clear hG hn
 go_enter Tryz.func153, Tryz.ntmps153
 go_wp2
 refine bodyPost_ret (results_nil rfl _ _) rfl ⟨rfl, Below.refl _ _⟩
theorem growExprs_calls (G : Nat) (cg : Array Value) (W : World) (hG : W.heap[G]? = some (.cells cg 66 (0, 0))) (hn : Nils cg) :
  Calls Tryz.prog 177 #[.pointer (some ⟨G, 0, none⟩)] W fun e w' => e = .returned (.tuple #[]) ∧ Below W.heap.size W w' := by
 have x4 := (blk_cell hG 161).trans (hn 161 (by decide))
 have x7 := (blk_cell hG 164).trans (hn 164 (by decide))
 have fr := fun j => blk_frozen hG j
 have hb := below_same2 hG (hn 161 (by decide)) (hn 164 (by decide))
 have HB := Aside0.mk hb
 clear hG hn hb
 go_enter Tryz.func177, Tryz.ntmps177
 go_wp2
 refine wp_loop_rounds 1 ?_
 rw [rounds_succ]
 go_wp2
 exact bodyPost_end rfl rfl ⟨rfl, HB.out⟩
theorem holdExprs_calls (G : Nat) (cg : Array Value) (W : World) (hG : W.heap[G]? = some (.cells cg 66 (0, 0))) (hn : Nils cg) :
  Calls Tryz.prog 63 #[.pointer (some ⟨G, 0, none⟩)] W fun e w' => e = .returned (.bool true) ∧ Below W.heap.size W w' := by
 have x0 := (blk_cell hG 157).trans (hn 157 (by decide))
 have x2 := (blk_cell hG 159).trans (hn 159 (by decide))
 clear hG hn
 go_enter Tryz.func63, Tryz.ntmps63
 go_wp2
 refine wp_loop_rounds 1 ?_
 rw [rounds_succ]
 go_wp2
 refine wp_loop_rounds 1 ?_
 rw [rounds_succ]
 go_wp2
 refine bodyPost_ret (results_tmp rfl _ _ _) rfl ⟨rfl, Below.refl _ _⟩
theorem markClauses_calls (G : Nat) (cg : Array Value) (W : World) (hG : W.heap[G]? = some (.cells cg 66 (0, 0))) (hn : Nils cg) :
  Calls Tryz.prog 154 #[.pointer (some ⟨G, 0, none⟩)] W fun e w' => e = .returned (.tuple #[]) ∧ Below W.heap.size W w' := by
 have x2 := (blk_cell hG 168).trans (hn 168 (by decide))
 have x3 := (blk_cell hG 169).trans (hn 169 (by decide))
 have x5 := (blk_cell hG 171).trans (hn 171 (by decide))
 have x6 := (blk_cell hG 172).trans (hn 172 (by decide))
 clear hG hn
 go_enter Tryz.func154, Tryz.ntmps154
 go_wp2
 refine bodyPost_ret (results_nil rfl _ _) rfl ⟨rfl, Below.refl _ _⟩
theorem growClauses_calls (G : Nat) (cg : Array Value) (W : World) (hG : W.heap[G]? = some (.cells cg 66 (0, 0))) (hn : Nils cg) :
  Calls Tryz.prog 178 #[.pointer (some ⟨G, 0, none⟩)] W fun e w' => e = .returned (.tuple #[]) ∧ Below W.heap.size W w' := by
 have x4 := (blk_cell hG 170).trans (hn 170 (by decide))
 have x7 := (blk_cell hG 173).trans (hn 173 (by decide))
 have fr := fun j => blk_frozen hG j
 have hb := below_same2 hG (hn 170 (by decide)) (hn 173 (by decide))
 have HB := Aside0.mk hb
 clear hG hn hb
 go_enter Tryz.func178, Tryz.ntmps178
 go_wp2
 refine wp_loop_rounds 1 ?_
 rw [rounds_succ]
 go_wp2
 exact bodyPost_end rfl rfl ⟨rfl, HB.out⟩
theorem holdClauses_calls (G : Nat) (cg : Array Value) (W : World) (hG : W.heap[G]? = some (.cells cg 66 (0, 0))) (hn : Nils cg) :
  Calls Tryz.prog 64 #[.pointer (some ⟨G, 0, none⟩)] W fun e w' => e = .returned (.bool true) ∧ Below W.heap.size W w' := by
 have x0 := (blk_cell hG 166).trans (hn 166 (by decide))
 have x2 := (blk_cell hG 168).trans (hn 168 (by decide))
 clear hG hn
 go_enter Tryz.func64, Tryz.ntmps64
 go_wp2
 refine wp_loop_rounds 1 ?_
 rw [rounds_succ]
 go_wp2
 refine wp_loop_rounds 1 ?_
 rw [rounds_succ]
 go_wp2
 refine bodyPost_ret (results_tmp rfl _ _ _) rfl ⟨rfl, Below.refl _ _⟩
theorem markLines_calls (G : Nat) (cg : Array Value) (W : World) (hG : W.heap[G]? = some (.cells cg 66 (0, 0))) (hn : Nils cg) :
  Calls Tryz.prog 155 #[.pointer (some ⟨G, 0, none⟩)] W fun e w' => e = .returned (.tuple #[]) ∧ Below W.heap.size W w' := by
 have x2 := (blk_cell hG 177).trans (hn 177 (by decide))
 have x3 := (blk_cell hG 178).trans (hn 178 (by decide))
 have x5 := (blk_cell hG 180).trans (hn 180 (by decide))
 have x6 := (blk_cell hG 181).trans (hn 181 (by decide))
 clear hG hn
 go_enter Tryz.func155, Tryz.ntmps155
 go_wp2
 refine bodyPost_ret (results_nil rfl _ _) rfl ⟨rfl, Below.refl _ _⟩
theorem growLines_calls (G : Nat) (cg : Array Value) (W : World) (hG : W.heap[G]? = some (.cells cg 66 (0, 0))) (hn : Nils cg) :
  Calls Tryz.prog 179 #[.pointer (some ⟨G, 0, none⟩)] W fun e w' => e = .returned (.tuple #[]) ∧ Below W.heap.size W w' := by
 have x4 := (blk_cell hG 179).trans (hn 179 (by decide))
 have x7 := (blk_cell hG 182).trans (hn 182 (by decide))
 have fr := fun j => blk_frozen hG j
 have hb := below_same2 hG (hn 179 (by decide)) (hn 182 (by decide))
 have HB := Aside0.mk hb
 clear hG hn hb
 go_enter Tryz.func179, Tryz.ntmps179
 go_wp2
 refine wp_loop_rounds 1 ?_
 rw [rounds_succ]
 go_wp2
 exact bodyPost_end rfl rfl ⟨rfl, HB.out⟩
theorem holdLines_calls (G : Nat) (cg : Array Value) (W : World) (hG : W.heap[G]? = some (.cells cg 66 (0, 0))) (hn : Nils cg) :
  Calls Tryz.prog 65 #[.pointer (some ⟨G, 0, none⟩)] W fun e w' => e = .returned (.bool true) ∧ Below W.heap.size W w' := by
 have x0 := (blk_cell hG 175).trans (hn 175 (by decide))
 have x2 := (blk_cell hG 177).trans (hn 177 (by decide))
 clear hG hn
 go_enter Tryz.func65, Tryz.ntmps65
 go_wp2
 refine wp_loop_rounds 1 ?_
 rw [rounds_succ]
 go_wp2
 refine wp_loop_rounds 1 ?_
 rw [rounds_succ]
 go_wp2
 refine bodyPost_ret (results_tmp rfl _ _ _) rfl ⟨rfl, Below.refl _ _⟩
theorem markChecks_calls (G : Nat) (cg : Array Value) (W : World) (hG : W.heap[G]? = some (.cells cg 66 (0, 0))) (hn : Nils cg) :
  Calls Tryz.prog 156 #[.pointer (some ⟨G, 0, none⟩)] W fun e w' => e = .returned (.tuple #[]) ∧ Below W.heap.size W w' := by
 have x2 := (blk_cell hG 186).trans (hn 186 (by decide))
 have x3 := (blk_cell hG 187).trans (hn 187 (by decide))
 have x5 := (blk_cell hG 189).trans (hn 189 (by decide))
 have x6 := (blk_cell hG 190).trans (hn 190 (by decide))
 clear hG hn
 go_enter Tryz.func156, Tryz.ntmps156
 go_wp2
 refine bodyPost_ret (results_nil rfl _ _) rfl ⟨rfl, Below.refl _ _⟩
theorem growChecks_calls (G : Nat) (cg : Array Value) (W : World) (hG : W.heap[G]? = some (.cells cg 66 (0, 0))) (hn : Nils cg) :
  Calls Tryz.prog 180 #[.pointer (some ⟨G, 0, none⟩)] W fun e w' => e = .returned (.tuple #[]) ∧ Below W.heap.size W w' := by
 have x4 := (blk_cell hG 188).trans (hn 188 (by decide))
 have x7 := (blk_cell hG 191).trans (hn 191 (by decide))
 have fr := fun j => blk_frozen hG j
 have hb := below_same2 hG (hn 188 (by decide)) (hn 191 (by decide))
 have HB := Aside0.mk hb
 clear hG hn hb
 go_enter Tryz.func180, Tryz.ntmps180
 go_wp2
 refine wp_loop_rounds 1 ?_
 rw [rounds_succ]
 go_wp2
 exact bodyPost_end rfl rfl ⟨rfl, HB.out⟩
theorem holdChecks_calls (G : Nat) (cg : Array Value) (W : World) (hG : W.heap[G]? = some (.cells cg 66 (0, 0))) (hn : Nils cg) :
  Calls Tryz.prog 66 #[.pointer (some ⟨G, 0, none⟩)] W fun e w' => e = .returned (.bool true) ∧ Below W.heap.size W w' := by
 have x0 := (blk_cell hG 184).trans (hn 184 (by decide))
 have x2 := (blk_cell hG 186).trans (hn 186 (by decide))
 clear hG hn
 go_enter Tryz.func66, Tryz.ntmps66
 go_wp2
 refine wp_loop_rounds 1 ?_
 rw [rounds_succ]
 go_wp2
 refine wp_loop_rounds 1 ?_
 rw [rounds_succ]
 go_wp2
 refine bodyPost_ret (results_tmp rfl _ _ _) rfl ⟨rfl, Below.refl _ _⟩
theorem markOptions_calls (G : Nat) (cg : Array Value) (W : World) (hG : W.heap[G]? = some (.cells cg 66 (0, 0))) (hn : Nils cg) :
  Calls Tryz.prog 157 #[.pointer (some ⟨G, 0, none⟩)] W fun e w' => e = .returned (.tuple #[]) ∧ Below W.heap.size W w' := by
 have x2 := (blk_cell hG 195).trans (hn 195 (by decide))
 have x3 := (blk_cell hG 196).trans (hn 196 (by decide))
 have x5 := (blk_cell hG 198).trans (hn 198 (by decide))
 have x6 := (blk_cell hG 199).trans (hn 199 (by decide))
 clear hG hn
 go_enter Tryz.func157, Tryz.ntmps157
 go_wp2
 refine bodyPost_ret (results_nil rfl _ _) rfl ⟨rfl, Below.refl _ _⟩
theorem growOptions_calls (G : Nat) (cg : Array Value) (W : World) (hG : W.heap[G]? = some (.cells cg 66 (0, 0))) (hn : Nils cg) :
  Calls Tryz.prog 181 #[.pointer (some ⟨G, 0, none⟩)] W fun e w' => e = .returned (.tuple #[]) ∧ Below W.heap.size W w' := by
 have x4 := (blk_cell hG 197).trans (hn 197 (by decide))
 have x7 := (blk_cell hG 200).trans (hn 200 (by decide))
 have fr := fun j => blk_frozen hG j
 have hb := below_same2 hG (hn 197 (by decide)) (hn 200 (by decide))
 have HB := Aside0.mk hb
 clear hG hn hb
 go_enter Tryz.func181, Tryz.ntmps181
 go_wp2
 refine wp_loop_rounds 1 ?_
 rw [rounds_succ]
 go_wp2
 exact bodyPost_end rfl rfl ⟨rfl, HB.out⟩
theorem holdOptions_calls (G : Nat) (cg : Array Value) (W : World) (hG : W.heap[G]? = some (.cells cg 66 (0, 0))) (hn : Nils cg) :
  Calls Tryz.prog 67 #[.pointer (some ⟨G, 0, none⟩)] W fun e w' => e = .returned (.bool true) ∧ Below W.heap.size W w' := by
 have x0 := (blk_cell hG 193).trans (hn 193 (by decide))
 have x2 := (blk_cell hG 195).trans (hn 195 (by decide))
 clear hG hn
 go_enter Tryz.func67, Tryz.ntmps67
 go_wp2
 refine wp_loop_rounds 1 ?_
 rw [rounds_succ]
 go_wp2
 refine wp_loop_rounds 1 ?_
 rw [rounds_succ]
 go_wp2
 refine bodyPost_ret (results_tmp rfl _ _ _) rfl ⟨rfl, Below.refl _ _⟩
theorem markTables_calls (G : Nat) (cg : Array Value) (W : World) (hG : W.heap[G]? = some (.cells cg 66 (0, 0))) (hn : Nils cg) :
  Calls Tryz.prog 158 #[.pointer (some ⟨G, 0, none⟩)] W fun e w' => e = .returned (.tuple #[]) ∧ Below W.heap.size W w' := by
 have x2 := (blk_cell hG 204).trans (hn 204 (by decide))
 have x3 := (blk_cell hG 205).trans (hn 205 (by decide))
 have x5 := (blk_cell hG 207).trans (hn 207 (by decide))
 have x6 := (blk_cell hG 208).trans (hn 208 (by decide))
 clear hG hn
 go_enter Tryz.func158, Tryz.ntmps158
 go_wp2
 refine bodyPost_ret (results_nil rfl _ _) rfl ⟨rfl, Below.refl _ _⟩
theorem growTables_calls (G : Nat) (cg : Array Value) (W : World) (hG : W.heap[G]? = some (.cells cg 66 (0, 0))) (hn : Nils cg) :
  Calls Tryz.prog 182 #[.pointer (some ⟨G, 0, none⟩)] W fun e w' => e = .returned (.tuple #[]) ∧ Below W.heap.size W w' := by
 have x4 := (blk_cell hG 206).trans (hn 206 (by decide))
 have x7 := (blk_cell hG 209).trans (hn 209 (by decide))
 have fr := fun j => blk_frozen hG j
 have hb := below_same2 hG (hn 206 (by decide)) (hn 209 (by decide))
 have HB := Aside0.mk hb
 clear hG hn hb
 go_enter Tryz.func182, Tryz.ntmps182
 go_wp2
 refine wp_loop_rounds 1 ?_
 rw [rounds_succ]
 go_wp2
 exact bodyPost_end rfl rfl ⟨rfl, HB.out⟩
theorem holdTables_calls (G : Nat) (cg : Array Value) (W : World) (hG : W.heap[G]? = some (.cells cg 66 (0, 0))) (hn : Nils cg) :
  Calls Tryz.prog 68 #[.pointer (some ⟨G, 0, none⟩)] W fun e w' => e = .returned (.bool true) ∧ Below W.heap.size W w' := by
 have x0 := (blk_cell hG 202).trans (hn 202 (by decide))
 have x2 := (blk_cell hG 204).trans (hn 204 (by decide))
 clear hG hn
 go_enter Tryz.func68, Tryz.ntmps68
 go_wp2
 refine wp_loop_rounds 1 ?_
 rw [rounds_succ]
 go_wp2
 refine wp_loop_rounds 1 ?_
 rw [rounds_succ]
 go_wp2
 refine bodyPost_ret (results_tmp rfl _ _ _) rfl ⟨rfl, Below.refl _ _⟩
theorem markGroups_calls (G : Nat) (cg : Array Value) (W : World) (hG : W.heap[G]? = some (.cells cg 66 (0, 0))) (hn : Nils cg) :
  Calls Tryz.prog 159 #[.pointer (some ⟨G, 0, none⟩)] W fun e w' => e = .returned (.tuple #[]) ∧ Below W.heap.size W w' := by
 have x2 := (blk_cell hG 213).trans (hn 213 (by decide))
 have x3 := (blk_cell hG 214).trans (hn 214 (by decide))
 have x5 := (blk_cell hG 216).trans (hn 216 (by decide))
 have x6 := (blk_cell hG 217).trans (hn 217 (by decide))
 clear hG hn
 go_enter Tryz.func159, Tryz.ntmps159
 go_wp2
 refine bodyPost_ret (results_nil rfl _ _) rfl ⟨rfl, Below.refl _ _⟩
theorem growGroups_calls (G : Nat) (cg : Array Value) (W : World) (hG : W.heap[G]? = some (.cells cg 66 (0, 0))) (hn : Nils cg) :
  Calls Tryz.prog 183 #[.pointer (some ⟨G, 0, none⟩)] W fun e w' => e = .returned (.tuple #[]) ∧ Below W.heap.size W w' := by
 have x4 := (blk_cell hG 215).trans (hn 215 (by decide))
 have x7 := (blk_cell hG 218).trans (hn 218 (by decide))
 have fr := fun j => blk_frozen hG j
 have hb := below_same2 hG (hn 215 (by decide)) (hn 218 (by decide))
 have HB := Aside0.mk hb
 clear hG hn hb
 go_enter Tryz.func183, Tryz.ntmps183
 go_wp2
 refine wp_loop_rounds 1 ?_
 rw [rounds_succ]
 go_wp2
 exact bodyPost_end rfl rfl ⟨rfl, HB.out⟩
theorem holdGroups_calls (G : Nat) (cg : Array Value) (W : World) (hG : W.heap[G]? = some (.cells cg 66 (0, 0))) (hn : Nils cg) :
  Calls Tryz.prog 69 #[.pointer (some ⟨G, 0, none⟩)] W fun e w' => e = .returned (.bool true) ∧ Below W.heap.size W w' := by
 have x0 := (blk_cell hG 211).trans (hn 211 (by decide))
 have x2 := (blk_cell hG 213).trans (hn 213 (by decide))
 clear hG hn
 go_enter Tryz.func69, Tryz.ntmps69
 go_wp2
 refine wp_loop_rounds 1 ?_
 rw [rounds_succ]
 go_wp2
 refine wp_loop_rounds 1 ?_
 rw [rounds_succ]
 go_wp2
 refine bodyPost_ret (results_tmp rfl _ _ _) rfl ⟨rfl, Below.refl _ _⟩
end Go.Proofs.YtjlclkenfmbahaaGreatDoor.PA
end
section
namespace Go.Proofs.YtjlclkenfmbahaaGreatDoor.PA
open Go.RowKit Go.Maps Go.Proofs.YtjlclkenfmbahaaGreatDoorW.PrintWords Go.Proofs.YtjlclkenfmbahaaGreatDoorW.PrintLast Go.Proofs.YtjlclkenfmbahaaGreatDoorW.PrintMore
abbrev Col := Nat → Nat
def colNew (col : Col) (n t : Nat) : Col := fun k => if k < n then col k else t
theorem colNew_lt {col : Col} {n t k : Nat} (h : k < n) : colNew col n t k = col k := if_pos h
theorem colNew_ge {col : Col} {n t k : Nat} (h : n ≤ k) : colNew col n t k = t := if_neg (by omega)
structure Mv (b : Nat) (W : World) (col : Col) (W' : World) (col' : Col) (t : Nat) : Prop where
 below : Below b W W'
 le : b ≤ W.heap.size
 same : ∀ k, k < W.heap.size → col' k = col k
 block : ∀ k, k < W.heap.size → col k ≠ t → W'.heap[k]? = W.heap[k]?
theorem Mv.of_below {b : Nat} {W W' : World} {col : Col} {t : Nat} (h : Below W.heap.size W W') (hb : b ≤ W.heap.size) : Mv b W col W' col t :=
 ⟨h.mono hb, hb, fun _ _ => rfl, fun k hk _ => h.block k hk⟩
theorem Mv.of_new {b : Nat} {W W' : World} {col : Col} {t s : Nat} (h : Below W.heap.size W W') (hb : b ≤ W.heap.size) : Mv b W col W' (colNew col W.heap.size s) t :=
 ⟨h.mono hb, hb, fun _ hk => colNew_lt hk, fun k hk _ => h.block k hk⟩
theorem Mv.size {b : Nat} {W W' : World} {col col' : Col} {t : Nat} (m : Mv b W col W' col' t) : W.heap.size ≤ W'.heap.size := m.below.size
structure KRow (b : Nat) (W : World) (col : Col) (t e : Nat) (v : Value) (xs : List Value) : Prop where
 own : W.ownsRow b e 1 v xs.length xs
 tag : ∀ k, v.ownBlock = some k → col k = t
theorem KRow.nil (b : Nat) (W : World) (col : Col) (t e : Nat) : KRow b W col t e (.slice none 0 0) [] := ⟨own_nil _ _ _ _, fun k hk => by simp [Value.ownBlock] at hk⟩
theorem KRow.mv {b : Nat} {W W' : World} {col col' : Col} {t s e : Nat} {v : Value} {xs : List Value} (h : KRow b W col s e v xs) (m : Mv b W col W' col' t) (hne : s ≠ t) : KRow b W' col' s e v xs :=
 ⟨own_move h.own (fun k hk => m.block k (own_lt h.own k hk) (by rw [h.tag k hk]; exact hne)), fun k hk => (m.same k (own_lt h.own k hk)).trans (h.tag k hk)⟩
theorem KRow.cell {b : Nat} {W : World} {col : Col} {t e g cap n : Nat} {xs : List Value} (h : KRow b W col t e (.slice (some ⟨g, 0, none⟩) n cap) xs) {i : Nat} {x : Value} (hx : xs[i]? = some x) : W.cell? ⟨g, i, none⟩ = some x := by
 have := h.own.cells (g := g) rfl i x hx
 rwa [show (⟨g, 0, none⟩ : Addr).add i = ⟨g, i, none⟩ by unfold Addr.add; split <;> simp_all] at this
theorem KRow.form {b : Nat} {W : World} {col : Col} {t e : Nat} {v : Value} {xs : List Value} (h : KRow b W col t e v xs) : ∃ A cap, v = .slice A xs.length cap ∧ (0 < xs.length → ∃ g, A = some ⟨g, 0, none⟩) := by
 rcases h.own.2 with ⟨e1, e2⟩ | ⟨g, cap, cur, e1, _⟩
 ·exact ⟨none, 0, by rw [e1, e2], fun h0 => by omega⟩
 ·exact ⟨some ⟨g, 0, none⟩, cap, e1, fun _ => ⟨g, rfl⟩⟩
theorem KRow.grown {b : Nat} {W w1 : World} {col : Col} {t e : Nat} {o : Obj} {v v1 : Value} {xs ys : List Value} (h : KRow b W col t e v xs) (hb : b ≤ W.heap.size) (ho : w1.ownsRow b e 1 v1 ys.length ys) (hg : (W.alloc o).grownBy w1 v.ownBlock)
  (hat : v1.ownBlock = v.ownBlock ∨ ∃ k, v1.ownBlock = some k ∧ W.heap.size ≤ k) : KRow b w1 (colNew col W.heap.size t) t e v1 ys ∧ Mv b W col w1 (colNew col W.heap.size t) t := by
 have ha := below_alloc (Below.refl W.heap.size W) o
 refine ⟨⟨ho, fun k hk => ?_⟩, ⟨(ha.mono hb).trans ⟨hg.os, hg.tape, hg.output, hg.size, fun k hk => hg.block k (by have := ha.size; omega) (fun e1 => ?_)⟩, hb, fun k hk => colNew_lt hk, fun k hk hc => (hg.block k (by have := ha.size; omega) (fun e1 => ?_)).trans (ha.block k hk)⟩⟩
 ·rcases hat with e1 | ⟨q, e1, hq⟩
  ·rw [e1] at hk
   rw [colNew_lt (own_lt h.own k hk)]
   exact h.tag k hk
  ·rw [e1] at hk
   cases hk
   exact colNew_ge hq
 ·have := own_base h.own k e1.symm
  omega
 ·exact hc (h.tag k e1.symm)
theorem KRow.grown2 {b : Nat} {W Wc w1 : World} {col : Col} {t e : Nat} {v v1 : Value} {xs ys : List Value} (h : KRow b W col t e v xs) (hb : b ≤ W.heap.size) (hWc : Below W.heap.size W Wc) (ho : w1.ownsRow b e 1 v1 ys.length ys) (hg : Wc.grownBy w1 v.ownBlock)
  (hat : v1.ownBlock = v.ownBlock ∨ ∃ k, v1.ownBlock = some k ∧ W.heap.size ≤ k) : KRow b w1 (colNew col W.heap.size t) t e v1 ys ∧ Mv b W col w1 (colNew col W.heap.size t) t := by
 refine ⟨⟨ho, fun k hk => ?_⟩, ⟨(hWc.mono hb).trans ⟨hg.os, hg.tape, hg.output, hg.size, fun k hk => hg.block k (by have := hWc.size; omega) (fun e1 => ?_)⟩, hb, fun k hk => colNew_lt hk, fun k hk hc => (hg.block k (by have := hWc.size; omega) (fun e1 => ?_)).trans (hWc.block k hk)⟩⟩
 ·rcases hat with e1 | ⟨q, e1, hq⟩
  ·rw [e1] at hk
   rw [colNew_lt (own_lt h.own k hk)]
   exact h.tag k hk
  ·rw [e1] at hk
   cases hk
   exact colNew_ge hq
 ·have := own_base h.own k e1.symm
  omega
 ·exact hc (h.tag k e1.symm)
theorem own_some {W : World} {b e size n : Nat} {v : Value} {xs : List Value} (h : W.ownsRow b e size v n xs) (hn : 0 < n) : ∃ g m cap, v = .slice (some ⟨g, 0, none⟩) m cap := by
 rcases h.2 with ⟨_, h0⟩ | ⟨g, cap, cur, e1, _⟩
 ·omega
 ·exact ⟨g, _, cap, e1⟩
theorem tok_some {W : World} {b : Nat} {ok : Nat → Prop} {v : Value} {xs : List S57} (h : Kd.R k57 57 W b ok v xs) : ∃ A m c, v = .slice A m c := by
 obtain ⟨A, c, e⟩ := Kd.R_slice h
 exact ⟨A, _, c, e⟩
structure Bo (b : Nat) (W : World) (col : Col) (G : Nat) (cg : Array Value) : Prop where
 blk : W.heap[G]? = some (.cells cg 66 (0, 0))
 tag : col G = 9
 le : b ≤ G
theorem Bo.mv {b : Nat} {W W' : World} {col col' : Col} {G t : Nat} {cg : Array Value} (h : Bo b W col G cg) (m : Mv b W col W' col' t) (hne : 9 ≠ t) : Bo b W' col' G cg :=
 ⟨(m.block G (blk_lt h.blk) (by rw [h.tag]; exact hne)).trans h.blk, (m.same G (blk_lt h.blk)).trans h.tag, h.le⟩
theorem Bo.set {b : Nat} {W : World} {col : Col} {G : Nat} {cg : Array Value} (h : Bo b W col G cg) (hb : b ≤ W.heap.size) (j : Nat) (v : Value) : Bo b (W.setCell ⟨G, j, none⟩ v) col G (cg.setIfInBounds j v) ∧ Mv b W col (W.setCell ⟨G, j, none⟩ v) col 9 :=
 ⟨⟨blk_set h.blk j v, h.tag, h.le⟩, ⟨(Below.refl b W).setCell (p := ⟨G, j, none⟩) h.le v, hb, fun _ _ => rfl, fun k hk hc => Below.heap_setCell W ⟨G, j, none⟩ v k (fun e => hc (by show col k = 9; rw [e]; exact h.tag))⟩⟩
theorem Bo.cell {b : Nat} {W : World} {col : Col} {G : Nat} {cg : Array Value} (h : Bo b W col G cg) {j : Nat} {v : Value} (hj : cg[j]? = some v) : W.cell? ⟨G, j, none⟩ = some v := (blk_cell h.blk j).trans hj
structure Rd (W : World) (col : Col) (t : Nat) (v : Value) (xs : List S57) : Prop where
 ex : ∃ A c, v = .slice A xs.length c ∧ xs.length ≤ c ∧ Kd.C k57 W A xs.length xs ∧ ∀ a, A = some a → a.block < W.heap.size ∧ col a.block = t
theorem C_keep {W W' : World} {A : Option Addr} {n : Nat} {xs : List S57} (h : Kd.C k57 W A n xs) (hk : ∀ a, A = some a → W'.heap[a.block]? = W.heap[a.block]?) : Kd.C k57 W' A n xs := by
 obtain ⟨h1, h2, h3⟩ := h
 refine ⟨h1, h2, fun hp => ?_⟩
 obtain ⟨a, ha, hr⟩ := h3 hp
 refine ⟨a, ha, fun j p hj => ?_⟩
 obtain ⟨cs, hcs, hK, hc⟩ := hr j p hj
 refine ⟨cs, hcs, by rw [k57_open hK]; exact k57_mk W' p, fun i u hu => ?_⟩
 rw [World.cell?_of_block (w := W) (w' := W') (by simpa [add_block] using hk a ha)]
 exact hc i u hu
theorem Rd.mv {W W' : World} {b : Nat} {col col' : Col} {t s : Nat} {v : Value} {xs : List S57} (h : Rd W col s v xs) (m : Mv b W col W' col' t) (hne : s ≠ t) : Rd W' col' s v xs := by
 obtain ⟨A, c, rfl, hc, hC, ht⟩ := h.ex
 exact ⟨A, c, rfl, hc, C_keep hC (fun a ha => m.block a.block (ht a ha).1 (by rw [(ht a ha).2]; exact hne)), fun a ha => ⟨Nat.lt_of_lt_of_le (ht a ha).1 m.size, (m.same _ (ht a ha).1).trans (ht a ha).2⟩⟩
theorem Rd.reads {W : World} {col : Col} {t n c : Nat} {A : Option Addr} {xs : List S57} (h : Rd W col t (.slice A n c) xs) : n = xs.length ∧ Kd.C k57 W A xs.length xs := by
 obtain ⟨A', c', e, _, hC, _⟩ := h.ex
 injection e with e1 e2 e3
 subst e1
 exact ⟨e2, hC⟩
abbrev Tk (b : Nat) (W : World) (col : Col) (t : Nat) (v : Value) (xs : List S57) : Prop := Kd.R k57 57 W b (fun k => col k = t) v xs
theorem tk_mv {b : Nat} {W W' : World} {col col' : Col} {t s : Nat} {v : Value} {xs : List S57} (h : Tk b W col s v xs) (m : Mv b W col W' col' t) (hne : s ≠ t) : Tk b W' col' s v xs :=
 Kd.R_mono (Kd.R_move (Kd.R_bound h) (fun k hk => m.block k hk.2.2.1 (by rw [hk.1]; exact hne))) (fun k hk => (m.same k hk.2.2.1).trans hk.1)
theorem tk_rd {b : Nat} {W : World} {col : Col} {t : Nat} {v : Value} {xs : List S57} (h : Tk b W col t v xs) : Rd W col t v xs := by
 obtain ⟨A, c, rfl, hc, hC⟩ := Kd.R_reads h
 exact ⟨A, c, rfl, hc, hC, fun a ha => ⟨Kd.R_lt h a.block (by rw [ha]; rfl), h.1 a.block (by rw [ha]; rfl)⟩⟩
theorem fresh_rd {w1 : World} {B : Nat} {v : Value} {xs : List S57} (h : Kd.R k57 57 w1 B (fun _ => True) v xs) (col : Col) : Rd w1 (colNew col B 20) 20 v xs :=
 tk_rd (col := colNew col B 20) (t := 20) (b := B) (Kd.R_mono (Kd.R_bound h) (fun k hk => colNew_ge hk.2.1))
structure Ms (b : Nat) (W : World) (col : Col) (W' : World) (col' : Col) : Prop where
 below : Below b W W'
 le : b ≤ W.heap.size
 same : ∀ k, k < W.heap.size → col' k = col k
 block : ∀ k, k < W.heap.size → 10 ≤ col k → W'.heap[k]? = W.heap[k]?
section
variable {b : Nat} {W W' W2 : World} {col col' col2 : Col} {t s : Nat}
theorem Ms.of_mv (m : Mv b W col W' col' t) (ht : t < 10) : Ms b W col W' col' := ⟨m.below, m.le, m.same, fun k hk h => m.block k hk (by omega)⟩
theorem Ms.of_below (h : Below W.heap.size W W') (hb : b ≤ W.heap.size) : Ms b W col W' col := ⟨h.mono hb, hb, fun _ _ => rfl, fun k hk _ => h.block k hk⟩
theorem Ms.of_new (h : Below W.heap.size W W') (hb : b ≤ W.heap.size) (s : Nat) : Ms b W col W' (colNew col W.heap.size s) := ⟨h.mono hb, hb, fun _ hk => colNew_lt hk, fun k hk _ => h.block k hk⟩
theorem Ms.size (m : Ms b W col W' col') : W.heap.size ≤ W'.heap.size := m.below.size
theorem Ms.trans (m : Ms b W col W' col') (n : Ms b W' col' W2 col2) : Ms b W col W2 col2 :=
 ⟨m.below.trans n.below, m.le, fun k hk => (n.same k (Nat.lt_of_lt_of_le hk m.size)).trans (m.same k hk), fun k hk h => (n.block k (Nat.lt_of_lt_of_le hk m.size) (by rw [m.same k hk]; exact h)).trans (m.block k hk h)⟩
theorem KRow.ms {e : Nat} {v : Value} {xs : List Value} (h : KRow b W col s e v xs) (m : Ms b W col W' col') (hs : 10 ≤ s) : KRow b W' col' s e v xs :=
 ⟨own_move h.own (fun k hk => m.block k (own_lt h.own k hk) (by rw [h.tag k hk]; exact hs)), fun k hk => (m.same k (own_lt h.own k hk)).trans (h.tag k hk)⟩
theorem Rd.ms {v : Value} {xs : List S57} (h : Rd W col s v xs) (m : Ms b W col W' col') (hs : 10 ≤ s) : Rd W' col' s v xs := by
 obtain ⟨A, c, rfl, hc, hC, ht⟩ := h.ex
 exact ⟨A, c, rfl, hc, C_keep hC (fun a ha => m.block a.block (ht a ha).1 (by rw [(ht a ha).2]; exact hs)), fun a ha => ⟨Nat.lt_of_lt_of_le (ht a ha).1 m.size, (m.same _ (ht a ha).1).trans (ht a ha).2⟩⟩
theorem tk_ms {v : Value} {xs : List S57} (h : Tk b W col s v xs) (m : Ms b W col W' col') (hs : 10 ≤ s) : Tk b W' col' s v xs :=
 Kd.R_mono (Kd.R_move (Kd.R_bound h) (fun k hk => m.block k hk.2.2.1 (by rw [hk.1]; exact hs))) (fun k hk => (m.same k hk.2.2.1).trans hk.1)
end
section
variable {P : Program} {ops : Array Oper} {rest : List Oper} {o : Oper} {a : Act} {Q : Exit → Act → World → Prop} {Kc : Act → World → Prop}
theorem append_moved {P : Program} {w : World} {t ty e : TypeId} {i : TypeInfo} {z : Value} {base size bytes : Nat} (ht : P.underlying t = some (.slice e)) (hi : P.info? e = some i) (hz : i.zero = some z) (hsize : i.size = size) (hby : i.bytes = bytes) (hsz : 0 < size)
  {v : Value} {n : Nat} {xs : List Value} (hown : w.ownsRow base e size v n xs) {ad : Addr} {m c : Nat} {news : List Value} (hl : news.length = m * size) (hnews : ∀ j u, news[j]? = some u → w.cell? (ad.add j) = some u) (h1 : ∀ u ∈ news, u.oneCell' = true)
  (hm : 0 < m) (hbytes : (n + m) * bytes ≤ 140737488355328) (h63 : n + m ≤ 140737488355328) {v' : Value} {w' : World} (hr : (Builtin.append_ #[t, t] ty #[v, .slice (some ad) m c]).run P w = .ok v' w') : v'.ownBlock = v.ownBlock ∨ Below w.heap.size w w' := by
 subst hsize
 subst hby
 have hB : ∀ ob : Obj, Below w.heap.size w (w.drew.alloc ob) := fun ob => below_alloc (below_drew (Below.refl _ _)) ob
 rcases hown.2 with ⟨rfl, rfl⟩ | ⟨g, cap, cur, rfl, hbg, hg, hnc, hcm, hcs, htake⟩
 ·have h := run_append_nil (P := P) w t ty e i z ht hi hz ad m c news hl hnews hm (by omega) (by rw [Nat.zero_add] at hbytes; omega)
  rw [hr] at h
  injection h with _ h
  rw [h]
  exact .inr (hB _)
 ·by_cases hroom : n + m ≤ cap
  ·have hfit : n * i.size + news.length ≤ cur.size := by rw [hl, hcs, ← Nat.add_mul]; exact Nat.mul_le_mul_right _ hroom
   have h := run_append_room (P := P) w t ty e i ht hi g n cap cur hg ad m c news hl hnews h1 hroom hfit
   rw [hr] at h
   injection h with h _
   rw [h]
   exact .inl rfl
  ·have h := run_append_grow (P := P) w t ty e i z ht hi hz ⟨g, 0, none⟩ n cap xs hown.1 (hown.cells (g := g) rfl) ad m c news hl hnews (by omega) (by omega) (growslice_fits (by omega) hbytes)
   rw [hr] at h
   injection h with _ h
   rw [h]
   exact .inr (hB _)
theorem step_row {Wc : World} (base : Nat) (hgd : o.guard = none) (s x : Operand) (t e : TypeId) (z : Value) (bytes : Nat)
  (ho : o.op = .call { callee := .builtin .append, args := #[s, x], argTypes := #[t, t] })
  (ht : P.underlying t = some (.slice e)) (hinfo : (P.info? e).map (fun i => (i.zero, i.size, i.bytes)) = some (some z, 1, bytes)) (hz : z.cells.size = 1)
  (v : Value) (xs : List Value) (y : Value) (B : Nat) (hs : a.eval s = v) (hx : a.eval x = .slice (some ⟨B, 0, none⟩) 1 1) (h1 : y.oneCell' = true) (hB : Wc.heap[B]? = some (.cells #[y] e (0, 0)))
  (HO : Wc.ownsRow base e 1 v xs.length xs) (hbase : base ≤ Wc.heap.size) (hl : (xs.length + 1) * bytes ≤ 140737488355328) (hl2 : xs.length + 1 ≤ 140737488355328)
  (h : ∀ v1 w1, w1.ownsRow base e 1 v1 (xs ++ [y]).length (xs ++ [y]) → Wc.grownBy w1 v.ownBlock → (v1.ownBlock = v.ownBlock ∨ ∃ k, v1.ownBlock = some k ∧ Wc.heap.size ≤ k) → Kc (a.put o.dst v1) w1) :
  if Region.wanted o (yielded ops a.tmps) = true then Oper.wp P o a Wc Kc Q else Kc (a.put o.dst undef) Wc := by
 have hw : Region.wanted o (yielded ops a.tmps) = true := by simp [Region.wanted, hgd]
 rw [if_pos hw]
 obtain ⟨i0, hi, hzz⟩ := Option.map_eq_some_iff.1 hinfo
 simp only [Prod.mk.injEq] at hzz
 obtain ⟨hz0, hz1, hz2⟩ := hzz
 obtain ⟨v', w', hr, h2, h3, _, h5⟩ := run_append_own_at (P := P) Wc base t o.type e i0 z 1 bytes ht hi hz0 hz1 hz2 hz (by omega) v xs.length xs HO ⟨B, 0, none⟩ 1 1 [y] rfl
  (World.news_of_block (cs := #[y]) (t := e) (fr := (0, 0)) hB) (by simpa using h1) (by simp only [maxLen]; omega) hl hbase
 unfold Oper.wp execOp
 simp only [ho, resolve, invoke, builtin, Sem.run_bind, Sem.run_pure, Result.andThen_ok, List.map_toArray, List.map_cons, List.map_nil, hs, hx, hr]
 refine h v' w' (by rw [List.length_append]; exact h2) h3 ?_
 rcases h5 with h5 | h5
 ·exact .inl h5
 ·exact .inr ⟨_, h5, Nat.le_refl _⟩
theorem tok_append {W : World} (b : Nat) (ok : Nat → Prop) (hgd : o.guard = none) (s x : Operand)
  (ho : o.op = .call { callee := .builtin .append, args := #[s, x], argTypes := #[22, 22] })
  (ht : P.underlying 22 = some (.slice 57)) (hinfo : (P.info? 57).map (fun i => (i.zero, i.size, i.bytes)) = some (some (.agg #[(.int .i64 0), (.int .i64 0), (.string ⟨#[]⟩), (.int .i64 0), (.int .i64 0)]), 5, 48))
  (v : Value) (xs : List S57) (p : S57) (hs : a.eval s = v) (hx : a.eval x = .slice (some ⟨W.heap.size, 0, none⟩) 1 1)
  (HO : Kd.R k57 57 W b ok v xs) (hb : b ≤ W.heap.size) (hl : xs.length ≤ 100000)
  (h : ∀ v1 w1, Kd.R k57 57 w1 b (fun _ => True) v1 (xs ++ [p]) → (W.alloc (.cells #[.int .i64 p.f0, .int .i64 p.f1, .string p.f2, .int .i64 p.f3, .int .i64 p.f4] 57)).grownBy w1 v.ownBlock → (v1.ownBlock = v.ownBlock ∨ (Below W.heap.size W w1 ∧ ∃ k, v1.ownBlock = some k ∧ W.heap.size ≤ k)) → wpList P ops Q rest (a.put o.dst v1) w1) :
  wpList P ops Q (o :: rest) a (W.alloc (.cells #[.int .i64 p.f0, .int .i64 p.f1, .string p.f2, .int .i64 p.f3, .int .i64 p.f4] 57)) := by
 obtain ⟨i0, hi, hzz⟩ := Option.map_eq_some_iff.1 hinfo
 simp only [Prod.mk.injEq] at hzz
 obtain ⟨hz0, hz1, hz2⟩ := hzz
 obtain ⟨h0, inner, hown, hr⟩ := HO
 refine wpList_plain hgd fun K hK => ?_
 have hal := below_alloc (Below.refl W.heap.size W) (.cells #[.int .i64 p.f0, .int .i64 p.f1, .string p.f2, .int .i64 p.f3, .int .i64 p.f4] 57)
 have hnews := World.news_of_block (cs := #[.int .i64 p.f0, .int .i64 p.f1, .string p.f2, .int .i64 p.f3, .int .i64 p.f4]) (t := 57) (fr := (0, 0)) (heap_alloc_new W (.cells #[.int .i64 p.f0, .int .i64 p.f1, .string p.f2, .int .i64 p.f3, .int .i64 p.f4] 57))
 have hone : ∀ u ∈ #[Value.int .i64 p.f0, .int .i64 p.f1, .string p.f2, .int .i64 p.f3, .int .i64 p.f4].toList, u.oneCell' = true := by simp [Value.oneCell']
 obtain ⟨v', w', hrun, h2, h3, _, h5⟩ := run_append_own_at (P := P) (W.alloc (.cells #[.int .i64 p.f0, .int .i64 p.f1, .string p.f2, .int .i64 p.f3, .int .i64 p.f4] 57)) b 22 o.type 57 i0 _ 5 48 ht hi hz0 hz1 hz2 rfl (by decide) v xs.length inner (hown.alloc _) ⟨W.heap.size, 0, none⟩ 1 1 _ rfl hnews hone (by simp only [maxLen]; omega) (by omega) (by simp; omega)
 have hmv := append_moved (P := P) ht hi hz0 hz1 hz2 (by decide) (hown.alloc (.cells #[.int .i64 p.f0, .int .i64 p.f1, .string p.f2, .int .i64 p.f3, .int .i64 p.f4] 57)) (ad := ⟨W.heap.size, 0, none⟩) (m := 1) (c := 1) rfl hnews hone (by decide) (by omega) (by omega) hrun
 unfold Oper.wp execOp
 simp only [ho, resolve, invoke, builtin, Sem.run_bind, Sem.run_pure, Result.andThen_ok, List.map_toArray, List.map_cons, List.map_nil, hs, hx, hrun]
 refine hK _ _ (h v' w' ⟨fun _ _ => trivial, inner ++ _, by rw [List.length_append]; exact h2, ?_⟩ h3 ?_)
 ·have h1 := (hr.imp_ (fun q c hp => by rw [k57_openM hp]; exact k57_mkM w' b (fun k => True ∧ some k ≠ v'.ownBlock) q) : Reps (k57.M w' b (fun k => True ∧ some k ≠ v'.ownBlock)) 5 xs inner)
  exact h1.snoc (k57_mkM w' b (fun k => True ∧ some k ≠ v'.ownBlock) p) rfl
 ·rcases hmv with e | hB
  ·exact .inl e
  ·rcases h5 with h5 | h5
   ·exact .inl h5
   ·exact .inr ⟨hal.trans (hB.mono hal.size), _, h5, hal.size⟩
end
structure Wt where
 v : Value
 nt : Value
 xs : List S57
 mr : Int
 du : Int
 tg : Nat
structure Ot where
 v : Value
 td : Value
 xs : List S57
 tg : Nat
structure RB (b : Nat) (W : World) (col : Col) (G : Nat) (cg : Array Value) (deep turn seen : Int) (rs : Nat → List Value) : Prop where
 bo : Bo b W col G cg
 nils : Nils cg
 c0 : cg[0]? = some (.bool false)
 c1 : cg[1]? = some (.bool false)
 c2 : cg[2]? = some (.int .i64 turn)
 c3 : cg[3]? = some (.int .i64 deep)
 c75 : cg[75]? = some (.int .i64 seen)
 row : ∀ i, i < 8 → ∃ v, cg[67 + i]? = some v ∧ KRow b W col i (if i < 5 then 22 else 3) v (rs i)
def upd (rs : Nat → List Value) (i : Nat) (ys : List Value) : Nat → List Value := fun j => if j = i then ys else rs j
section
variable {b : Nat} {W W' W1 : World} {col col' col1 : Col} {G : Nat} {cg : Array Value} {deep turn seen : Int} {rs : Nat → List Value}
theorem RB.mv (h : RB b W col G cg deep turn seen rs) {t : Nat} (m : Mv b W col W' col' t) (ht : 9 < t) : RB b W' col' G cg deep turn seen rs :=
 ⟨h.bo.mv m (by omega), h.nils, h.c0, h.c1, h.c2, h.c3, h.c75, fun i hi => by
  obtain ⟨v, h1, h2⟩ := h.row i hi
  exact ⟨v, h1, h2.mv m (by omega)⟩⟩
theorem RB.go (h : RB b W col G cg deep turn seen rs) (hb : b ≤ W.heap.size) (hB : Below W.heap.size W W') : RB b W' col G cg deep turn seen rs := h.mv (Mv.of_below (t := 30) hB hb) (by omega)
theorem set_ne {cg : Array Value} {i j : Nat} {u v : Value} (h : cg[i]? = some v) (hne : j ≠ i) : (cg.setIfInBounds j u)[i]? = some v := by rw [Array.getElem?_setIfInBounds_ne hne]; exact h
theorem set_eq {cg : Array Value} {j : Nat} {u v : Value} (h : cg[j]? = some v) : (cg.setIfInBounds j u)[j]? = some u := Array.getElem?_setIfInBounds_self_of_lt (Array.getElem?_eq_some_iff.1 h).1
theorem nil_row {i : Nat} (hi : i < 8) : nilIx (67 + i) = false := by
 obtain rfl | rfl | rfl | rfl | rfl | rfl | rfl | rfl : i = 0 ∨ i = 1 ∨ i = 2 ∨ i = 3 ∨ i = 4 ∨ i = 5 ∨ i = 6 ∨ i = 7 := by omega
 all_goals decide
theorem RB.put (h : RB b W col G cg deep turn seen rs) {i : Nat} (hi : i < 8) {v1 : Value} {ys : List Value} (m : Mv b W col W1 col1 i) (hr : KRow b W1 col1 i (if i < 5 then 22 else 3) v1 ys) :
  RB b (W1.setCell ⟨G, 67 + i, none⟩ v1) col1 G (cg.setIfInBounds (67 + i) v1) deep turn seen (upd rs i ys) ∧ Mv b W1 col1 (W1.setCell ⟨G, 67 + i, none⟩ v1) col1 9 := by
 have bo1 := h.bo.mv m (by omega)
 obtain ⟨s1, s2⟩ := bo1.set (Nat.le_trans m.le m.size) (67 + i) v1
 refine ⟨⟨s1, h.nils.set (nil_row hi) v1, set_ne h.c0 (by omega), set_ne h.c1 (by omega), set_ne h.c2 (by omega), set_ne h.c3 (by omega), set_ne h.c75 (by omega), fun j hj => ?_⟩, s2⟩
 by_cases e : j = i
 ·subst e
  obtain ⟨v, h1, h2⟩ := h.row j hj
  refine ⟨v1, set_eq h1, ?_⟩
  rw [show upd rs j ys j = ys from if_pos rfl]
  exact hr.mv s2 (by omega)
 ·obtain ⟨v, h1, h2⟩ := h.row j hj
  refine ⟨v, set_ne h1 (by omega), ?_⟩
  rw [show upd rs i ys j = rs j from if_neg e]
  exact (h2.mv m e).mv s2 (by omega)
theorem RB.setDeep (h : RB b W col G cg deep turn seen rs) (hb : b ≤ W.heap.size) (d : Int) : RB b (W.setCell ⟨G, 3, none⟩ (.int .i64 d)) col G (cg.setIfInBounds 3 (.int .i64 d)) d turn seen rs ∧ Mv b W col (W.setCell ⟨G, 3, none⟩ (.int .i64 d)) col 9 := by
 obtain ⟨s1, s2⟩ := h.bo.set hb 3 (.int .i64 d)
 exact ⟨⟨s1, h.nils.set (by decide) _, set_ne h.c0 (by omega), set_ne h.c1 (by omega), set_ne h.c2 (by omega), set_eq h.c3, set_ne h.c75 (by omega), fun j hj => by
  obtain ⟨v, h1, h2⟩ := h.row j hj
  exact ⟨v, set_ne h1 (by omega), h2.mv s2 (by omega)⟩⟩, s2⟩
theorem RB.setTurn (h : RB b W col G cg deep turn seen rs) (hb : b ≤ W.heap.size) (d : Int) : RB b (W.setCell ⟨G, 2, none⟩ (.int .i64 d)) col G (cg.setIfInBounds 2 (.int .i64 d)) deep d seen rs ∧ Mv b W col (W.setCell ⟨G, 2, none⟩ (.int .i64 d)) col 9 := by
 obtain ⟨s1, s2⟩ := h.bo.set hb 2 (.int .i64 d)
 exact ⟨⟨s1, h.nils.set (by decide) _, set_ne h.c0 (by omega), set_ne h.c1 (by omega), set_eq h.c2, set_ne h.c3 (by omega), set_ne h.c75 (by omega), fun j hj => by
  obtain ⟨v, h1, h2⟩ := h.row j hj
  exact ⟨v, set_ne h1 (by omega), h2.mv s2 (by omega)⟩⟩, s2⟩
theorem RB.setSeen (h : RB b W col G cg deep turn seen rs) (hb : b ≤ W.heap.size) (d : Int) : RB b (W.setCell ⟨G, 75, none⟩ (.int .i64 d)) col G (cg.setIfInBounds 75 (.int .i64 d)) deep turn d rs ∧ Mv b W col (W.setCell ⟨G, 75, none⟩ (.int .i64 d)) col 9 := by
 obtain ⟨s1, s2⟩ := h.bo.set hb 75 (.int .i64 d)
 exact ⟨⟨s1, h.nils.set (by decide) _, set_ne h.c0 (by omega), set_ne h.c1 (by omega), set_ne h.c2 (by omega), set_ne h.c3 (by omega), set_eq h.c75, fun j hj => by
  obtain ⟨v, h1, h2⟩ := h.row j hj
  exact ⟨v, set_ne h1 (by omega), h2.mv s2 (by omega)⟩⟩, s2⟩
theorem RB.setBad (h : RB b W col G cg deep turn seen rs) (hb : b ≤ W.heap.size) : RB b (W.setCell ⟨G, 1, none⟩ (.bool false)) col G (cg.setIfInBounds 1 (.bool false)) deep turn seen rs ∧ Mv b W col (W.setCell ⟨G, 1, none⟩ (.bool false)) col 9 := by
 obtain ⟨s1, s2⟩ := h.bo.set hb 1 (.bool false)
 exact ⟨⟨s1, h.nils.set (by decide) _, set_ne h.c0 (by omega), set_eq h.c1, set_ne h.c2 (by omega), set_ne h.c3 (by omega), set_ne h.c75 (by omega), fun j hj => by
  obtain ⟨v, h1, h2⟩ := h.row j hj
  exact ⟨v, set_ne h1 (by omega), h2.mv s2 (by omega)⟩⟩, s2⟩
end
structure Ct (PS : List (Value × List S57)) (b : Nat) (W : World) (col : Col) (os : List Ot) (ws : List Wt) (fs : List Wt) : Prop where
 out : ∀ o ∈ os, Rd W col o.tg o.v o.xs ∧ Rd W col 20 o.td o.xs ∧ o.xs.length ≤ 100000 ∧ (o.tg = 20 ∨ 100 ≤ o.tg)
 wait : ∀ x ∈ ws, Tk b W col x.tg x.v x.xs ∧ Rd W col 20 x.nt x.xs ∧ x.xs.length ≤ 90000 ∧ 100 ≤ x.tg
 fresh : ∀ x ∈ fs, Tk b W col x.tg x.v x.xs ∧ x.xs.length ≤ 90000 ∧ 100 ≤ x.tg
 apart : ((ws ++ fs).map (·.tg)).Nodup
 oapart : ∀ o ∈ os, ∀ x ∈ ws, o.tg ≠ x.tg
 ofresh : ∀ o ∈ os, ∀ x ∈ fs, o.tg = x.tg → o.v = x.v ∧ o.xs = x.xs
 prot : ∀ q ∈ PS, Rd W col 20 q.1 q.2
variable {PS : List (Value × List S57)}
theorem Ct.mv {b : Nat} {W W' : World} {col col' : Col} {os : List Ot} {ws fs : List Wt} {t : Nat} (h : Ct PS b W col os ws fs) (m : Mv b W col W' col' t) (ht : t < 100) (h20 : t ≠ 20) : Ct PS b W' col' os ws fs :=
 ⟨fun o ho => by
  obtain ⟨h1, h2, h3, h4⟩ := h.out o ho
  exact ⟨h1.mv m (by omega), h2.mv m (by omega), h3, h4⟩, fun x hx => by
  obtain ⟨h1, h2, h3, h4⟩ := h.wait x hx
  exact ⟨tk_mv h1 m (by omega), h2.mv m (by omega), h3, h4⟩, fun x hx => by
  obtain ⟨h1, h3, h4⟩ := h.fresh x hx
  exact ⟨tk_mv h1 m (by omega), h3, h4⟩, h.apart, h.oapart, h.ofresh, fun q hq => (h.prot q hq).mv m (by omega)⟩
theorem Ct.ms {b : Nat} {W W' : World} {col col' : Col} {os : List Ot} {ws fs : List Wt} (h : Ct PS b W col os ws fs) (m : Ms b W col W' col') : Ct PS b W' col' os ws fs :=
 ⟨fun o ho => by
  obtain ⟨h1, h2, h3, h4⟩ := h.out o ho
  exact ⟨h1.ms m (by omega), h2.ms m (by omega), h3, h4⟩, fun x hx => by
  obtain ⟨h1, h2, h3, h4⟩ := h.wait x hx
  exact ⟨tk_ms h1 m (by omega), h2.ms m (by omega), h3, h4⟩, fun x hx => by
  obtain ⟨h1, h3, h4⟩ := h.fresh x hx
  exact ⟨tk_ms h1 m (by omega), h3, h4⟩, h.apart, h.oapart, h.ofresh, fun q hq => (h.prot q hq).ms m (by omega)⟩
theorem RB.le {b : Nat} {W : World} {col : Col} {G : Nat} {cg : Array Value} {deep turn seen : Int} {rs : Nat → List Value} (h : RB b W col G cg deep turn seen rs) : b ≤ W.heap.size := Nat.le_trans h.bo.le (Nat.le_of_lt (blk_lt h.bo.blk))
theorem RB.pushed {b : Nat} {W Wc w1 : World} {col : Col} {G : Nat} {cg : Array Value} {deep turn seen : Int} {rs : Nat → List Value} (h : RB b W col G cg deep turn seen rs) {i : Nat} (hi : i < 8) {v v1 y : Value} (hv : cg[67 + i]? = some v) (hWc : Below W.heap.size W Wc)
  (ho : w1.ownsRow b (if i < 5 then 22 else 3) 1 v1 (rs i ++ [y]).length (rs i ++ [y])) (hg : Wc.grownBy w1 v.ownBlock) (hat : v1.ownBlock = v.ownBlock ∨ ∃ k, v1.ownBlock = some k ∧ W.heap.size ≤ k) :
  ∃ col1, RB b (w1.setCell ⟨G, 67 + i, none⟩ v1) col1 G (cg.setIfInBounds (67 + i) v1) deep turn seen (upd rs i (rs i ++ [y])) ∧ Ms b W col (w1.setCell ⟨G, 67 + i, none⟩ v1) col1 := by
 obtain ⟨v0, a0, r0⟩ := h.row i hi
 obtain rfl : v0 = v := Option.some.inj (a0.symm.trans hv)
 obtain ⟨g1, g2⟩ := r0.grown2 h.le hWc ho hg hat
 obtain ⟨p1, p2⟩ := h.put hi g2 g1
 exact ⟨_, p1, (Ms.of_mv g2 (by omega)).trans (Ms.of_mv p2 (by omega))⟩
theorem RB.late {b : Nat} {W Wc w1 : World} {col : Col} {G : Nat} {cg : Array Value} {deep turn seen : Int} {rs : Nat → List Value} (h : RB b W col G cg deep turn seen rs) {i : Nat} (hi : i < 8) {v : Value} (hv : cg[67 + i]? = some v) (hWc : Below W.heap.size W Wc) (hg : Wc.grownBy w1 v.ownBlock) :
  w1.heap[G]? = some (.cells cg 66 (0, 0)) := by
 obtain ⟨v0, a0, r0⟩ := h.row i hi
 obtain rfl : v0 = v := Option.some.inj (a0.symm.trans hv)
 have hG := blk_lt h.bo.blk
 refine (hg.block G (by have := hWc.size; omega) (fun e => ?_)).trans ((hWc.block G hG).trans h.bo.blk)
 have := r0.tag G e.symm
 rw [h.bo.tag] at this
 omega
def stdR (os : List Ot) (ws fs : List Wt) : Nat → List Value
 | 0 => os.map (·.v) | 1 => os.map (·.td) | 2 => ws.map (·.v) | 3 => ws.map (·.nt) | 4 => fs.map (·.v)
 | 5 => ws.map (fun x => .int .i64 x.mr) | 6 => ws.map (fun x => .int .i64 x.du) | _ => fs.map (fun x => .int .i64 x.mr)
theorem RB.congr {b : Nat} {W : World} {col : Col} {G : Nat} {cg : Array Value} {deep turn seen : Int} {rs rs' : Nat → List Value} (h : RB b W col G cg deep turn seen rs) (e : ∀ i, i < 8 → rs i = rs' i) : RB b W col G cg deep turn seen rs' :=
 ⟨h.bo, h.nils, h.c0, h.c1, h.c2, h.c3, h.c75, fun i hi => by
  obtain ⟨v, h1, h2⟩ := h.row i hi
  exact ⟨v, h1, by rw [← e i hi]; exact h2⟩⟩
theorem upd_eq (rs : Nat → List Value) (i : Nat) (ys : List Value) : upd rs i ys i = ys := if_pos rfl
theorem upd_ne (rs : Nat → List Value) {i j : Nat} (ys : List Value) (h : j ≠ i) : upd rs i ys j = rs j := if_neg h
theorem KRow.paint {b : Nat} {W : World} {col : Col} {t e : Nat} {v : Value} {xs : List Value} (h : KRow b W col t e v xs) (f : Nat → Nat) : KRow b W (fun k => f (col k)) (f t) e v xs := ⟨h.own, fun k hk => congrArg f (h.tag k hk)⟩
theorem Rd.paint {W : World} {col : Col} {t : Nat} {v : Value} {xs : List S57} (h : Rd W col t v xs) (f : Nat → Nat) : Rd W (fun k => f (col k)) (f t) v xs := by
 obtain ⟨A, c, rfl, hc, hC, ht⟩ := h.ex
 exact ⟨A, c, rfl, hc, hC, fun a ha => ⟨(ht a ha).1, congrArg f (ht a ha).2⟩⟩
theorem tk_paint {b : Nat} {W : World} {col : Col} {t : Nat} {v : Value} {xs : List S57} (h : Tk b W col t v xs) (f : Nat → Nat) : Tk b W (fun k => f (col k)) (f t) v xs := Kd.R_mono h (fun k hk => congrArg f hk)
theorem RB.paint {b : Nat} {W : World} {col : Col} {G : Nat} {cg : Array Value} {deep turn seen : Int} {rs : Nat → List Value} (h : RB b W col G cg deep turn seen rs) (f : Nat → Nat) (hf : ∀ i, i < 10 → f i = i) : RB b W (fun k => f (col k)) G cg deep turn seen rs :=
 ⟨⟨h.bo.blk, by show f (col G) = 9; rw [h.bo.tag]; exact hf 9 (by omega), h.bo.le⟩, h.nils, h.c0, h.c1, h.c2, h.c3, h.c75, fun i hi => by
  obtain ⟨v, h1, h2⟩ := h.row i hi
  have := h2.paint f
  rw [hf i (by omega)] at this
  exact ⟨v, h1, this⟩⟩
theorem same_refl_k (l : List S57) (hl : l.length < 1000000) : Ev (fun k => levykept_sameTokens.f k l l) true := by
 suffices h : ∀ (d i : Nat), l.length = i + d → Ev (fun k => levykept_sameTokens.l0 k l l (i : Int)) true by
  refine Ev.congr (fun k => ?_) (h l.length 0 (by omega))
  unfold levykept_sameTokens.f
  rw [if_pos rfl]
  rfl
 intro d
 induction d with
 | zero =>
  intro i hi
  refine ⟨1, fun k hk => ?_⟩
  obtain ⟨n, rfl⟩ : ∃ n, k = n + 1 := ⟨k - 1, by omega⟩
  show levykept_sameTokens.l0 (n + 1) l l (i : Int) = _
  unfold levykept_sameTokens.l0
  rw [if_neg (by omega)]
 | succ d ih =>
  intro i hi
  obtain ⟨K, hK⟩ := ih (i + 1) (by omega)
  refine ⟨K + 1, fun k hk => ?_⟩
  obtain ⟨n, rfl⟩ : ∃ n, k = n + 1 := ⟨k - 1, by omega⟩
  have h := hK n (by omega)
  dsimp only at h
  show levykept_sameTokens.l0 (n + 1) l l (i : Int) = _
  unfold levykept_sameTokens.l0
  have e1 : wrap64 ((i : Int) + 1) = ((i + 1 : Nat) : Int) := by rw [Go.Proofs.YtjlclkenfmbahaaGreatDoor.Days.wr (by omega) (by omega)]; omega
  rw [e1, h, if_pos (by omega), if_pos (by omega), if_pos (by omega), if_neg (by simp)]
theorem sameK_calls {W : World} {col : Col} {s t : Nat} {u v : Value} {xs : List S57} (h1 : Rd W col s u xs) (h2 : Rd W col t v xs) (hl : xs.length ≤ 100000) :
  Calls Tryz.prog 95 #[u, v] W fun e w' => e = .returned (.bool true) ∧ Below W.heap.size W w' := by
 obtain ⟨A, c, rfl, hc, hC, _⟩ := h1.ex
 obtain ⟨A2, c2, rfl, hc2, hC2, _⟩ := h2.ex
 obtain ⟨K, hK⟩ := same_refl_k xs (by omega)
 exact levykept_sameTokens.calls K A c xs A2 c2 xs true W hC hc hC2 hc2 (hK K (Nat.le_refl _))
variable {PS : List (Value × List S57)}
structure GS (b : Nat) (W : World) (col : Col) (W2 : World) (col2 : Col) (t : Nat) (l : Value) (xs : List S57) (g : Value) (zs : List S57) : Prop where
 mv : Mv b W col W2 col2 t
 tk : Tk b W2 col2 t g zs
 rd : Rd W2 col2 t l xs
 pre : ∀ B, g.ownBlock = some B → l.ownBlock = some B → (∃ n c, l = .slice (some ⟨B, 0, none⟩) n c) ∧ xs <+: zs
theorem Mv.trans {b : Nat} {W W' W2 : World} {col col' col2 : Col} {t : Nat} (m : Mv b W col W' col' t) (n : Mv b W' col' W2 col2 t) : Mv b W col W2 col2 t :=
 ⟨m.below.trans n.below, m.le, fun k hk => (n.same k (Nat.lt_of_lt_of_le hk m.size)).trans (m.same k hk), fun k hk h => (n.block k (Nat.lt_of_lt_of_le hk m.size) (by rw [m.same k hk]; exact h)).trans (m.block k hk h)⟩
theorem tk_form {b : Nat} {W : World} {col : Col} {t B : Nat} {v : Value} {xs : List S57} {ok : Nat → Prop} (h : Kd.R k57 57 W b ok v xs) (hB : v.ownBlock = some B) : ∃ c, v = .slice (some ⟨B, 0, none⟩) xs.length c := by
 obtain ⟨inner, hown⟩ := Kd.R_own h
 rcases hown.2 with ⟨e, _⟩ | ⟨g, cap, cur, e, _⟩
 ·rw [e] at hB
  simp [Value.ownBlock] at hB
 ·rw [e] at hB
  have : g = B := by simpa [Value.ownBlock] using hB
  subst this
  exact ⟨cap, e⟩
theorem C_prefix {W : World} {A : Option Addr} {n : Nat} {xs zs : List S57} (h : Kd.C k57 W A n zs) (hp : xs <+: zs) : Kd.C k57 W A xs.length xs := by
 obtain ⟨r, rfl⟩ := hp
 obtain ⟨h1, h2, h3⟩ := h
 rw [List.length_append] at h1
 refine ⟨rfl, by omega, fun h0 => ?_⟩
 obtain ⟨a, ha, hr⟩ := h3 (by omega)
 exact ⟨a, ha, fun j p hj => hr j p (by rw [List.getElem?_append_left (List.getElem?_eq_some_iff.1 hj).1]; exact hj)⟩
section
variable {b : Nat} {W W2 w1 : World} {col col2 : Col} {t : Nat} {l g g1 : Value} {xs zs : List S57} {p : S57}
theorem GS.start (h : Tk b W col t l xs) (hb : b ≤ W.heap.size) : GS b W col W col t l xs l xs :=
 ⟨Mv.of_below (Below.refl _ _) hb, h, tk_rd h, fun B hB _ => ⟨by obtain ⟨c, e⟩ := tk_form (col := col) (t := t) h hB; exact ⟨_, c, e⟩, List.prefix_rfl⟩⟩
theorem GS.step (h : GS b W col W2 col2 t l xs g zs) {ob : Obj} (ho : Kd.R k57 57 w1 b (fun _ => True) g1 (zs ++ [p])) (hg : (W2.alloc ob).grownBy w1 g.ownBlock)
  (hm : g1.ownBlock = g.ownBlock ∨ (Below W2.heap.size W2 w1 ∧ ∃ k, g1.ownBlock = some k ∧ W2.heap.size ≤ k)) : GS b W col w1 (colNew col2 W2.heap.size t) t l xs g1 (zs ++ [p]) := by
 have ha := below_alloc (Below.refl W2.heap.size W2) ob
 have hb : b ≤ W2.heap.size := Nat.le_trans h.mv.le h.mv.size
 have same : ∀ k, k < W2.heap.size → some k ≠ g.ownBlock → w1.heap[k]? = W2.heap[k]? := fun k hk hne => (hg.block k (by have := ha.size; omega) hne).trans (ha.block k hk)
 have m1 : Mv b W2 col2 w1 (colNew col2 W2.heap.size t) t :=
  ⟨⟨hg.os, hg.tape, hg.output, Nat.le_trans ha.size hg.size, fun k hk => same k (by omega) (fun e => by have := Kd.R_base h.tk k e.symm; omega)⟩, hb, fun k hk => colNew_lt hk, fun k hk hc => same k hk (fun e => hc (h.tk.1 k e.symm))⟩
 have hcol : ∀ k, g1.ownBlock = some k → colNew col2 W2.heap.size t k = t := fun k hk => by
  rcases hm with e | ⟨_, q, e, hq⟩
  ·rw [e] at hk
   rw [colNew_lt (Kd.R_lt h.tk k hk)]
   exact h.tk.1 k hk
  ·rw [e] at hk
   cases hk
   exact colNew_ge hq
 refine ⟨h.mv.trans m1, ?_, ?_, fun B hB hl => ?_⟩
 ·obtain ⟨_, inner, hown, hr⟩ := ho
  exact ⟨hcol, inner, hown, hr.imp_ (fun q c hp => by rw [k57_openM hp]; exact k57_mkM w1 b _ q)⟩
 ·obtain ⟨A, c, rfl, hc, hC, hA⟩ := h.rd.ex
  refine ⟨A, c, rfl, hc, ?_, fun a e => ⟨Nat.lt_of_lt_of_le (hA a e).1 m1.size, (m1.same _ (hA a e).1).trans (hA a e).2⟩⟩
  cases A with
  | none => exact C_keep hC (fun a e => by cases e)
  | some a =>
   by_cases hne : some a.block = g.ownBlock
   ·rcases hm with e | ⟨hB, _⟩
    ·obtain ⟨⟨n, c', e1⟩, hp⟩ := h.pre a.block hne.symm rfl
     injection e1 with e1
     injection e1 with e1
     have hg1 : g1.ownBlock = some a.block := by rw [e, hne]
     obtain ⟨c1, e2⟩ := tk_form (col := col) (t := t) ho hg1
     subst e2
     rw [e1]
     exact C_prefix (Kd.R_reads' ho).2.2 (hp.trans (List.prefix_append zs [p]))
    ·exact C_keep hC (fun a' e => by cases e; exact hB.block _ (hA a rfl).1)
   ·exact C_keep hC (fun a' e => by cases e; exact same _ (hA a rfl).1 hne)
 ·rcases hm with e | ⟨_, q, e, hq⟩
  ·obtain ⟨h1, h2⟩ := h.pre B (by rw [← e]; exact hB) hl
   exact ⟨h1, h2.trans (List.prefix_append zs [p])⟩
  ·rw [e] at hB
   cases hB
   obtain ⟨A, c, rfl, _, _, hA⟩ := h.rd.ex
   cases A with
   | none => simp [Value.ownBlock] at hl
   | some a =>
    have : a.block = B := by simpa [Value.ownBlock] using hl
    have := (hA a rfl).1
    omega
end
def settle (t : Nat) : Nat → Nat := fun c => if c = t then 20 else c
theorem settle_self (t : Nat) : settle t t = 20 := if_pos rfl
theorem settle_ne {t c : Nat} (h : c ≠ t) : settle t c = c := if_neg h
def Ot.settle (t : Nat) (o : Ot) : Ot := ⟨o.v, o.td, o.xs, PA.settle t o.tg⟩
theorem Ct.grown {b : Nat} {W W2 : World} {col col2 : Col} {os : List Ot} {ws fs : List Wt} {x : Wt} {g : Value} {zs : List S57} (hc : Ct PS b W col os ws (x :: fs)) (h : GS b W col W2 col2 x.tg x.v x.xs g zs) :
  Ct PS b W2 (fun k => PA.settle x.tg (col2 k)) (os.map (Ot.settle x.tg)) ws fs ∧ Rd W2 (fun k => PA.settle x.tg (col2 k)) 20 g zs := by
 obtain ⟨hx1, hx2, hx3⟩ := hc.fresh x (by simp)
 have hap := hc.apart
 rw [List.map_append, List.map_cons, List.nodup_append] at hap
 obtain ⟨n1, n2, n3⟩ := hap
 rw [List.nodup_cons] at n2
 have hw : ∀ y ∈ ws, y.tg ≠ x.tg := fun y hy => n3 _ (List.mem_map_of_mem hy) _ (by simp)
 have hf : ∀ y ∈ fs, y.tg ≠ x.tg := fun y hy e => n2.1 (by rw [← e]; exact List.mem_map_of_mem hy)
 refine ⟨⟨fun o' ho' => ?_, fun y hy => ?_, fun y hy => ?_, ?_, fun o' ho' y hy => ?_, fun o' ho' y hy => ?_, fun q hq => ?_⟩, ?_⟩
 ·obtain ⟨o, ho, rfl⟩ := List.mem_map.1 ho'
  obtain ⟨h1, h2, h3, h4⟩ := hc.out o ho
  have htd := (h2.mv h.mv (by omega)).paint (PA.settle x.tg)
  rw [settle_ne (show 20 ≠ x.tg by omega)] at htd
  by_cases e : o.tg = x.tg
  ·obtain ⟨e1, e2⟩ := hc.ofresh o ho x (by simp) e
   have := h.rd.paint (PA.settle x.tg)
   rw [settle_self] at this
   refine ⟨?_, htd, h3, .inl ?_⟩
   ·show Rd W2 _ (PA.settle x.tg o.tg) o.v o.xs
    rw [e, settle_self, e1, e2]
    exact this
   ·show PA.settle x.tg o.tg = 20
    rw [e, settle_self]
  ·have := (h1.mv h.mv e).paint (PA.settle x.tg)
   refine ⟨this, htd, h3, ?_⟩
   show PA.settle x.tg o.tg = 20 ∨ 100 ≤ PA.settle x.tg o.tg
   rw [settle_ne e]
   exact h4
 ·obtain ⟨h1, h2, h3, h4⟩ := hc.wait y hy
  have a1 := tk_paint (tk_mv h1 h.mv (hw y hy)) (PA.settle x.tg)
  have a2 := (h2.mv h.mv (by omega)).paint (PA.settle x.tg)
  rw [settle_ne (hw y hy)] at a1
  rw [settle_ne (show 20 ≠ x.tg by omega)] at a2
  exact ⟨a1, a2, h3, h4⟩
 ·obtain ⟨h1, h3, h4⟩ := hc.fresh y (by simp [hy])
  have a1 := tk_paint (tk_mv h1 h.mv (hf y hy)) (PA.settle x.tg)
  rw [settle_ne (hf y hy)] at a1
  exact ⟨a1, h3, h4⟩
 ·rw [List.map_append, List.nodup_append]
  exact ⟨n1, n2.2, fun a ha c hc' => n3 a ha c (by simp at hc' ⊢; exact .inr hc')⟩
 ·obtain ⟨o, ho, rfl⟩ := List.mem_map.1 ho'
  have h4 := (hc.wait y hy).2.2.2
  show PA.settle x.tg o.tg ≠ y.tg
  by_cases e : o.tg = x.tg
  ·rw [e, settle_self]; omega
  ·rw [settle_ne e]; exact hc.oapart o ho y hy
 ·obtain ⟨o, ho, rfl⟩ := List.mem_map.1 ho'
  have h4 := (hc.fresh y (by simp [hy])).2.2
  intro e0
  have e0 : PA.settle x.tg o.tg = y.tg := e0
  by_cases e : o.tg = x.tg
  ·rw [e, settle_self] at e0; omega
  ·rw [settle_ne e] at e0; exact hc.ofresh o ho y (by simp [hy]) e0
 ·have a2 := ((hc.prot q hq).mv h.mv (by omega)).paint (PA.settle x.tg)
  rw [settle_ne (show 20 ≠ x.tg by omega)] at a2
  exact a2
 ·have := (tk_rd h.tk).paint (PA.settle x.tg)
  rw [settle_self] at this
  exact this
theorem Ct.add {b : Nat} {W : World} {col : Col} {os : List Ot} {ws fs : List Wt} {v td : Value} {xs : List S57} (h : Ct PS b W col os ws fs) (h1 : Rd W col 20 v xs) (h2 : Rd W col 20 td xs) (hl : xs.length ≤ 100000) : Ct PS b W col (os ++ [⟨v, td, xs, 20⟩]) ws fs := by
 refine ⟨fun o ho => ?_, h.wait, h.fresh, h.apart, fun o ho y hy => ?_, fun o ho y hy e => ?_, h.prot⟩
 ·rcases List.mem_append.1 ho with ho | ho
  ·exact h.out o ho
  ·rw [List.mem_singleton] at ho
   subst ho
   exact ⟨h1, h2, hl, .inl rfl⟩
 ·rcases List.mem_append.1 ho with ho | ho
  ·exact h.oapart o ho y hy
  ·rw [List.mem_singleton] at ho
   subst ho
   have := (h.wait y hy).2.2.2
   show 20 ≠ y.tg
   omega
 ·rcases List.mem_append.1 ho with ho | ho
  ·exact h.ofresh o ho y hy e
  ·rw [List.mem_singleton] at ho
   subst ho
   have := (h.fresh y hy).2.2
   have e : 20 = y.tg := e
   omega
theorem info22k : (Tryz.prog.info? 22).map (fun i => (i.zero, i.size, i.bytes)) = some (some (.slice none 0 0), 1, 24) := by kernel_rfl
theorem info3k : (Tryz.prog.info? 3).map (fun i => (i.zero, i.size, i.bytes)) = some (some (.int .i64 0), 1, 8) := by kernel_rfl
theorem made_empty {W Wc : World} (h : Below W.heap.size W Wc) : Kd.R k57 57 (Wc.alloc (.cells #[] 57)) W.heap.size (fun _ => True) (.slice (some ⟨Wc.heap.size, 0, none⟩) 0 0) [] :=
 Kd.R_lower ⟨fun _ _ => trivial, [], World.ownsRow_made Wc #[] 0 (Nat.le_refl _) (by simp [maxLen]) rfl, Reps.none _ _⟩ h.size
theorem stdR_add (os : List Ot) (ws fs : List Wt) (t : Nat) (g v : Value) (zs : List S57) : ∀ i, i < 8 → upd (upd (stdR os ws fs) 0 (stdR os ws fs 0 ++ [g])) 1 (stdR os ws fs 1 ++ [v]) i = stdR (os.map (Ot.settle t) ++ [⟨g, v, zs, 20⟩]) ws fs i := by
 intro i hi
 obtain rfl | rfl | h : i = 0 ∨ i = 1 ∨ 2 ≤ i := by omega
 ·rw [upd_ne _ _ (by decide), upd_eq]
  simp [stdR, Ot.settle, Function.comp_def]
 ·rw [upd_eq]
  simp [stdR, Ot.settle, Function.comp_def]
 ·rw [upd_ne _ _ (by omega), upd_ne _ _ (by omega)]
  obtain rfl | rfl | rfl | rfl | rfl | rfl : i = 2 ∨ i = 3 ∨ i = 4 ∨ i = 5 ∨ i = 6 ∨ i = 7 := by omega
  all_goals rfl
theorem RB.clear2 {b : Nat} {W : World} {col : Col} {G : Nat} {cg : Array Value} {deep turn seen : Int} {os : List Ot} {ws fs : List Wt} (h : RB b W col G cg deep turn seen (stdR os ws fs)) :
  ∃ cg', RB b ((W.setCell ⟨G, 71, none⟩ (.slice none 0 0)).setCell ⟨G, 74, none⟩ (.slice none 0 0)) col G cg' deep turn seen (stdR os ws []) ∧ Ms b W col ((W.setCell ⟨G, 71, none⟩ (.slice none 0 0)).setCell ⟨G, 74, none⟩ (.slice none 0 0)) col := by
 obtain ⟨p1, p2⟩ := h.put (i := 4) (by omega) (Mv.of_below (Below.refl _ _) h.le) (KRow.nil b W col 4 _)
 obtain ⟨q1, q2⟩ := p1.put (i := 7) (by omega) (Mv.of_below (Below.refl _ _) p1.le) (KRow.nil b _ col 7 _)
 refine ⟨_, q1.congr (fun i hi => ?_), (Ms.of_mv p2 (by omega)).trans (Ms.of_mv q2 (by omega))⟩
 obtain rfl | rfl | rfl | rfl | rfl | rfl | rfl | rfl : i = 0 ∨ i = 1 ∨ i = 2 ∨ i = 3 ∨ i = 4 ∨ i = 5 ∨ i = 6 ∨ i = 7 := by omega
 all_goals rfl
variable {PS : List (Value × List S57)}
def aside9 : Nat → Nat := fun c => if c = 2 then 12 else if c = 3 then 13 else if c = 5 then 15 else if c = 6 then 16 else c
theorem aside9_id {c : Nat} (h : c ≠ 2 ∧ c ≠ 3 ∧ c ≠ 5 ∧ c ≠ 6) : aside9 c = c := by
 unfold aside9
 rw [if_neg h.1, if_neg h.2.1, if_neg h.2.2.1, if_neg h.2.2.2]
theorem Ct.paint {b : Nat} {W : World} {col : Col} {os : List Ot} {ws fs : List Wt} (h : Ct PS b W col os ws fs) (f : Nat → Nat) (hf : ∀ c, 20 ≤ c → f c = c) : Ct PS b W (fun k => f (col k)) os ws fs :=
 ⟨fun o ho => by
  obtain ⟨h1, h2, h3, h4⟩ := h.out o ho
  have a1 := h1.paint f
  have a2 := h2.paint f
  rw [hf _ (by omega)] at a1 a2
  exact ⟨a1, a2, h3, h4⟩, fun x hx => by
  obtain ⟨h1, h2, h3, h4⟩ := h.wait x hx
  have a1 := tk_paint h1 f
  have a2 := h2.paint f
  rw [hf _ (by omega)] at a1 a2
  exact ⟨a1, a2, h3, h4⟩, fun x hx => by
  obtain ⟨h1, h3, h4⟩ := h.fresh x hx
  have a1 := tk_paint h1 f
  rw [hf _ (by omega)] at a1
  exact ⟨a1, h3, h4⟩, h.apart, h.oapart, h.ofresh, fun q hq => by
  have a2 := (h.prot q hq).paint f
  rw [hf _ (by omega)] at a2
  exact a2⟩
section
variable {b : Nat} {W W2 W' : World} {col col2 col' : Col} {G : Nat} {cg : Array Value} {deep turn seen : Int} {os : List Ot} {ws fs wk rest : List Wt}
theorem RB.open4 (h : RB b W col G cg deep turn seen (stdR os ws [])) {v2 v3 v5 v6 : Value} (a2 : cg[69]? = some v2) (a3 : cg[70]? = some v3) (a5 : cg[72]? = some v5) (a6 : cg[73]? = some v6) {W4 : World}
  (hW : (((W.setCell ⟨G, 69, none⟩ (.slice none 0 0)).setCell ⟨G, 70, none⟩ (.slice none 0 0)).setCell ⟨G, 72, none⟩ (.slice none 0 0)).setCell ⟨G, 73, none⟩ (.slice none 0 0) = W4) :
  ∃ cg', RB b W4 (fun k => aside9 (col k)) G cg' deep turn seen (stdR os [] []) ∧ Ms b W col W4 col ∧ KRow b W4 (fun k => aside9 (col k)) 12 22 v2 (ws.map (·.v)) ∧ KRow b W4 (fun k => aside9 (col k)) 13 22 v3 (ws.map (·.nt)) ∧
   KRow b W4 (fun k => aside9 (col k)) 15 3 v5 (ws.map (fun x => .int .i64 x.mr)) ∧ KRow b W4 (fun k => aside9 (col k)) 16 3 v6 (ws.map (fun x => .int .i64 x.du)) := by
 subst hW
 have g : ∀ {i : Nat} {v : Value}, i < 8 → cg[67 + i]? = some v → KRow b W col i (if i < 5 then 22 else 3) v (stdR os ws [] i) := fun {i v} hi ha => by
  obtain ⟨v', e1, e2⟩ := h.row i hi
  obtain rfl := Option.some.inj (e1.symm.trans ha)
  exact e2
 have r2 := g (i := 2) (by omega) a2
 have r3 := g (i := 3) (by omega) a3
 have r5 := g (i := 5) (by omega) a5
 have r6 := g (i := 6) (by omega) a6
 obtain ⟨p1, q1⟩ := h.put (i := 2) (by omega) (Mv.of_below (Below.refl _ _) h.le) (KRow.nil b W col 2 _)
 obtain ⟨p2, q2⟩ := p1.put (i := 3) (by omega) (Mv.of_below (Below.refl _ _) p1.le) (KRow.nil b _ col 3 _)
 obtain ⟨p3, q3⟩ := p2.put (i := 5) (by omega) (Mv.of_below (Below.refl _ _) p2.le) (KRow.nil b _ col 5 _)
 obtain ⟨p4, q4⟩ := p3.put (i := 6) (by omega) (Mv.of_below (Below.refl _ _) p3.le) (KRow.nil b _ col 6 _)
 have mv : Mv b W col _ col 9 := ((q1.trans q2).trans q3).trans q4
 have n2 : ∀ {i : Nat}, (i = 2 ∨ i = 3 ∨ i = 5 ∨ i = 6) → ((((cg.setIfInBounds (67 + 2) (.slice none 0 0)).setIfInBounds (67 + 3) (.slice none 0 0)).setIfInBounds (67 + 5) (.slice none 0 0)).setIfInBounds (67 + 6) (.slice none 0 0))[67 + i]? = some (.slice none 0 0) := fun {i} hi => by
  rcases hi with rfl | rfl | rfl | rfl
  ·exact set_ne (set_ne (set_ne (set_eq a2) (by omega)) (by omega)) (by omega)
  ·exact set_ne (set_ne (set_eq (set_ne a3 (by omega))) (by omega)) (by omega)
  ·exact set_ne (set_eq (set_ne (set_ne a5 (by omega)) (by omega))) (by omega)
  ·exact set_eq (set_ne (set_ne (set_ne a6 (by omega)) (by omega)) (by omega))
 refine ⟨_, ⟨⟨p4.bo.blk, by show aside9 (col G) = 9; rw [p4.bo.tag]; rfl, p4.bo.le⟩, p4.nils, p4.c0, p4.c1, p4.c2, p4.c3, p4.c75, fun i hi => ?_⟩, Ms.of_mv mv (by omega), ?_, ?_, ?_, ?_⟩
 ·by_cases hs : i = 2 ∨ i = 3 ∨ i = 5 ∨ i = 6
  ·refine ⟨_, n2 hs, ?_⟩
   have e : stdR os [] [] i = [] := by rcases hs with rfl | rfl | rfl | rfl <;> rfl
   rw [e]
   exact KRow.nil _ _ _ _ _
  ·obtain ⟨v, e1, e2⟩ := p4.row i hi
   have e3 := e2.paint aside9
   rw [aside9_id (by omega)] at e3
   refine ⟨v, e1, ?_⟩
   have e : upd (upd (upd (upd (stdR os ws []) 2 []) 3 []) 5 []) 6 [] i = stdR os [] [] i := by
    rw [upd_ne _ _ (by omega), upd_ne _ _ (by omega), upd_ne _ _ (by omega), upd_ne _ _ (by omega)]
    obtain rfl | rfl | rfl | rfl : i = 0 ∨ i = 1 ∨ i = 4 ∨ i = 7 := by omega
    all_goals rfl
   rw [e] at e3
   exact e3
 ·exact (r2.mv mv (by omega)).paint aside9
 ·exact (r3.mv mv (by omega)).paint aside9
 ·exact (r5.mv mv (by omega)).paint aside9
 ·exact (r6.mv mv (by omega)).paint aside9
theorem Ct.moved {x : Wt} {ys : List S57} (hc : Ct PS b W col os (wk ++ x :: rest) fs) (m : Mv b W col W2 col2 x.tg) (ht : Tk b W2 col2 x.tg x.v ys) (hl : ys.length = x.xs.length) : Ct PS b W2 col2 os (wk ++ rest) (fs ++ [⟨x.v, x.nt, ys, x.mr, x.du, x.tg⟩]) := by
 obtain ⟨hx1, hx2, hx3, hx4⟩ := hc.wait x (by simp)
 have hap := hc.apart
 have hap2 : (x.tg :: ((wk ++ rest) ++ fs).map (·.tg)).Nodup := by
  refine (List.Perm.nodup_iff ?_).1 hap
  simp only [List.map_append, List.map_cons, List.append_assoc, List.cons_append]
  exact List.perm_middle
 rw [List.nodup_cons] at hap2
 have hne : ∀ y, y ∈ wk ++ rest ∨ y ∈ fs → y.tg ≠ x.tg := fun y hy e => hap2.1 (by rw [← e]; exact List.mem_map_of_mem (by rcases hy with hy | hy; exact List.mem_append_left _ hy; exact List.mem_append_right _ hy))
 have hmem : ∀ y, y ∈ wk ++ rest → y ∈ wk ++ x :: rest := fun y hy => by
  rcases List.mem_append.1 hy with h | h
  ·exact List.mem_append_left _ h
  ·exact List.mem_append_right _ (List.mem_cons_of_mem _ h)
 refine ⟨fun o ho => ?_, fun y hy => ?_, fun y hy => ?_, ?_, fun o ho y hy => hc.oapart o ho y (hmem y hy), fun o ho y hy e => ?_, fun q hq => (hc.prot q hq).mv m (by omega)⟩
 ·obtain ⟨h1, h2, h3, h4⟩ := hc.out o ho
  exact ⟨h1.mv m (hc.oapart o ho x (by simp)), h2.mv m (by omega), h3, h4⟩
 ·obtain ⟨h1, h2, h3, h4⟩ := hc.wait y (hmem y hy)
  exact ⟨tk_mv h1 m (hne y (.inl hy)), h2.mv m (by omega), h3, h4⟩
 ·rcases List.mem_append.1 hy with hy | hy
  ·obtain ⟨h1, h3, h4⟩ := hc.fresh y hy
   exact ⟨tk_mv h1 m (hne y (.inr hy)), h3, h4⟩
  ·rw [List.mem_singleton] at hy
   subst hy
   exact ⟨ht, by show ys.length ≤ 90000; omega, hx4⟩
 ·refine (List.Perm.nodup_iff ?_).1 (List.nodup_cons.2 hap2)
  simp only [List.map_append, List.map_cons, List.map_nil, List.append_assoc]
  exact (List.perm_append_comm (l₁ := [x.tg]) (l₂ := wk.map (·.tg) ++ (rest.map (·.tg) ++ fs.map (·.tg)))).trans (by simp)
 ·rcases List.mem_append.1 hy with hy | hy
  ·exact hc.ofresh o ho y hy e
  ·rw [List.mem_singleton] at hy
   subst hy
   exact absurd e (hc.oapart o ho x (by simp))
theorem Ct.addF {x : Wt} {td : Value} (hc : Ct PS b W col os ws (fs ++ [x])) (h2 : Rd W col 20 td x.xs) : Ct PS b W col (os ++ [⟨x.v, td, x.xs, x.tg⟩]) ws (fs ++ [x]) := by
 obtain ⟨hx1, hx2, hx3⟩ := hc.fresh x (by simp)
 have hap := hc.apart
 rw [List.map_append, List.nodup_append] at hap
 obtain ⟨n1, n2, n3⟩ := hap
 rw [List.map_append, List.nodup_append] at n2
 refine ⟨fun o ho => ?_, hc.wait, hc.fresh, hc.apart, fun o ho y hy => ?_, fun o ho y hy e => ?_, hc.prot⟩
 ·rcases List.mem_append.1 ho with ho | ho
  ·exact hc.out o ho
  ·rw [List.mem_singleton] at ho
   subst ho
   exact ⟨tk_rd hx1, h2, by show x.xs.length ≤ 100000; omega, .inr hx3⟩
 ·rcases List.mem_append.1 ho with ho | ho
  ·exact hc.oapart o ho y hy
  ·rw [List.mem_singleton] at ho
   subst ho
   exact fun e => n3 _ (List.mem_map_of_mem hy) x.tg (by simp) e.symm
 ·rcases List.mem_append.1 ho with ho | ho
  ·exact hc.ofresh o ho y hy e
  ·rw [List.mem_singleton] at ho
   subst ho
   rcases List.mem_append.1 hy with hy | hy
   ·exact absurd e.symm (n2.2.2 _ (List.mem_map_of_mem hy) x.tg (by simp))
   ·rw [List.mem_singleton] at hy
    subst hy
    exact ⟨rfl, rfl⟩
end
theorem tk_put {b : Nat} {W : World} {col : Col} {t g n cap i : Nat} {xs : List S57} (h : Tk b W col t (.slice (some ⟨g, 0, none⟩) n cap) xs) (hb : b ≤ W.heap.size) (hi : i < xs.length) (p : S57) :
  Tk b (W.setCells g (i * 5) [.int .i64 p.f0, .int .i64 p.f1, .string p.f2, .int .i64 p.f3, .int .i64 p.f4]) col t (.slice (some ⟨g, 0, none⟩) n cap) (xs.set i p) ∧ Mv b W col (W.setCells g (i * 5) [.int .i64 p.f0, .int .i64 p.f1, .string p.f2, .int .i64 p.f3, .int .i64 p.f4]) col t := by
 have hn := (Kd.R_reads' h).1
 obtain ⟨c, hc, hM, hcell, hfr⟩ := Kd.R_elem h p (i : Int) (by omega) (by omega)
 have e := k57_openM hM
 subst e
 obtain ⟨p1, p2⟩ := Kd.R_seg h (i : Int) (by omega) (by omega) (seg := [.int .i64 p.f0, .int .i64 p.f1, .string p.f2, .int .i64 p.f3, .int .i64 p.f4]) (j := 0) hc hcell (show 0 + 5 ≤ 5 by decide) (x' := p) (k57_mkM W b (fun k => col k = t ∧ k ≠ g) p) (fun k hk => hk)
 rw [Int.toNat_natCast] at p1
 have gB := Kd.R_base h g rfl
 refine ⟨p1, ⟨⟨p2.os, p2.tape, p2.output, p2.size, fun k hk => p2.block k (by omega) (fun e => ?_)⟩, hb, fun _ _ => rfl, fun k hk hck => p2.block k hk (fun e => ?_)⟩⟩
 ·injection e with e
  omega
 ·injection e with e
  exact hck (by rw [e]; exact h.1 g rfl)
theorem tk_cell {b : Nat} {W : World} {col : Col} {t g n cap i : Nat} {xs : List S57} (h : Tk b W col t (.slice (some ⟨g, 0, none⟩) n cap) xs) (hi : i < xs.length) : ∃ p : S57, (W.cell? ⟨g, i * 5, none⟩ = some (.int .i64 p.f0) ∧ W.cell? ⟨g, i * 5 + 1, none⟩ = some (.int .i64 p.f1) ∧ W.cell? ⟨g, i * 5 + 2, none⟩ = some (.string p.f2) ∧ W.cell? ⟨g, i * 5 + 3, none⟩ = some (.int .i64 p.f3) ∧ W.cell? ⟨g, i * 5 + 4, none⟩ = some (.int .i64 p.f4)) ∧ ∀ j, W.frozen? ⟨g, j, none⟩ = false := by
 have hn := (Kd.R_reads' h).1
 obtain ⟨c, hc, hM, hcell, hfr⟩ := Kd.R_elem h ⟨0, 0, ⟨#[]⟩, 0, 0⟩ (i : Int) (by omega) (by omega)
 have e := k57_openM hM
 subst e
 rw [Int.toNat_natCast] at hcell
 obtain ⟨cells, hcl⟩ := Kd.R_typed h g rfl
 exact ⟨_, ⟨hcell 0 _ rfl, hcell 1 _ rfl, hcell 2 _ rfl, hcell 3 _ rfl, hcell 4 _ rfl⟩, fun j => blk_frozen hcl j⟩
theorem rest_cons {α : Type} {l : List α} {k : Nat} {x : α} (h : l[k]? = some x) : l.drop k = x :: l.drop (k + 1) := by
 obtain ⟨hl, e⟩ := List.getElem?_eq_some_iff.1 h
 rw [List.drop_eq_getElem_cons hl, e]
structure Loc (b : Nat) (W : World) (col : Col) (L Nn M D : Value) (ws : List Wt) : Prop where
 l : KRow b W col 12 22 L (ws.map (·.v))
 n : KRow b W col 13 22 Nn (ws.map (·.nt))
 m : KRow b W col 15 3 M (ws.map (fun x => .int .i64 x.mr))
 d : KRow b W col 16 3 D (ws.map (fun x => .int .i64 x.du))
theorem Loc.ms {b : Nat} {W W' : World} {col col' : Col} {L Nn M D : Value} {ws : List Wt} (h : Loc b W col L Nn M D ws) (m : Ms b W col W' col') : Loc b W' col' L Nn M D ws := ⟨h.l.ms m (by omega), h.n.ms m (by omega), h.m.ms m (by omega), h.d.ms m (by omega)⟩
theorem Loc.mv {b : Nat} {W W' : World} {col col' : Col} {t : Nat} {L Nn M D : Value} {ws : List Wt} (h : Loc b W col L Nn M D ws) (m : Mv b W col W' col' t) (ht : 20 ≤ t) : Loc b W' col' L Nn M D ws := ⟨h.l.mv m (by omega), h.n.mv m (by omega), h.m.mv m (by omega), h.d.mv m (by omega)⟩
theorem stdR_keep (os : List Ot) (wk fk : List Wt) (x : Wt) {v nt : Value} (hv : x.v = v) (hn : x.nt = nt) {rs1 rs2 rs3 rs4 : Nat → List Value} (h1 : rs1 = upd (stdR os wk fk) 2 (stdR os wk fk 2 ++ [v])) (h2 : rs2 = upd rs1 3 (rs1 3 ++ [nt])) (h3 : rs3 = upd rs2 5 (rs2 5 ++ [.int .i64 x.mr])) (h4 : rs4 = upd rs3 6 (rs3 6 ++ [.int .i64 x.du])) : ∀ i, i < 8 → rs4 i = stdR os (wk ++ [x]) fk i := by
 intro i hi
 subst h4 h3 h2 h1 hv hn
 obtain rfl | rfl | rfl | rfl | rfl | rfl | rfl | rfl : i = 0 ∨ i = 1 ∨ i = 2 ∨ i = 3 ∨ i = 4 ∨ i = 5 ∨ i = 6 ∨ i = 7 := by omega
 all_goals simp [upd, stdR]
theorem stdR_fresh (os : List Ot) (wk fk : List Wt) (x : Wt) (ys : List S57) (td : Value) {v : Value} (hv : x.v = v) {rs1 rs2 rs3 rs4 : Nat → List Value} (h1 : rs1 = upd (stdR os wk fk) 0 (stdR os wk fk 0 ++ [v])) (h2 : rs2 = upd rs1 1 (rs1 1 ++ [td])) (h3 : rs3 = upd rs2 4 (rs2 4 ++ [v])) (h4 : rs4 = upd rs3 7 (rs3 7 ++ [.int .i64 x.mr])) :
  ∀ i, i < 8 → rs4 i = stdR (os ++ [⟨x.v, td, ys, x.tg⟩]) wk (fk ++ [⟨x.v, x.nt, ys, x.mr, x.du, x.tg⟩]) i := by
 intro i hi
 subst h4 h3 h2 h1 hv
 obtain rfl | rfl | rfl | rfl | rfl | rfl | rfl | rfl : i = 0 ∨ i = 1 ∨ i = 2 ∨ i = 3 ∨ i = 4 ∨ i = 5 ∨ i = 6 ∨ i = 7 := by omega
 all_goals simp [upd, stdR]
theorem bound_of (l : List Nat) : ∃ N, ∀ a ∈ l, a < N := by
 induction l with
 | nil => exact ⟨0, fun a h => by cases h⟩
 | cons x l ih =>
  obtain ⟨N, hN⟩ := ih
  refine ⟨N + x + 1, fun a h => ?_⟩
  rcases List.mem_cons.1 h with rfl | h
  ·omega
  ·have := hN a h
   omega
theorem fresh_tag (os : List Ot) (ws : List Wt) : ∃ N, 100 ≤ N ∧ (∀ o ∈ os, o.tg ≠ N) ∧ ∀ x ∈ ws, x.tg ≠ N := by
 obtain ⟨N, hN⟩ := bound_of (os.map (·.tg) ++ ws.map (·.tg))
 refine ⟨N + 100, by omega, fun o ho e => ?_, fun x hx e => ?_⟩
 ·have := hN o.tg (List.mem_append_left _ (List.mem_map_of_mem ho))
  omega
 ·have := hN x.tg (List.mem_append_right _ (List.mem_map_of_mem hx))
  omega
theorem Ct.addW {b : Nat} {W : World} {col : Col} {os : List Ot} {ws : List Wt} (h : Ct PS b W col os ws []) {x : Wt} (h1 : Tk b W col x.tg x.v x.xs) (h2 : Rd W col 20 x.nt x.xs) (hl : x.xs.length ≤ 90000) (ht : 100 ≤ x.tg) (ho : ∀ o ∈ os, o.tg ≠ x.tg) (hw : ∀ y ∈ ws, y.tg ≠ x.tg) : Ct PS b W col os (ws ++ [x]) [] := by
 refine ⟨h.out, fun y hy => ?_, fun y hy => (by cases hy), ?_, fun o ho2 y hy => ?_, fun o ho2 y hy => (by cases hy), h.prot⟩
 ·rcases List.mem_append.1 hy with hy | hy
  ·exact h.wait y hy
  ·rw [List.mem_singleton] at hy
   subst hy
   exact ⟨h1, h2, hl, ht⟩
 ·have := h.apart
  rw [List.append_nil] at this ⊢
  rw [List.map_append, List.nodup_append]
  refine ⟨this, by simp, fun a ha c hc => ?_⟩
  obtain ⟨y, hy, rfl⟩ := List.mem_map.1 ha
  simp at hc
  rw [hc]
  exact hw y hy
 ·rcases List.mem_append.1 hy with hy | hy
  ·exact h.oapart o ho2 y hy
  ·rw [List.mem_singleton] at hy
   subst hy
   exact ho o ho2
def MkPost (PS : List (Value × List S57)) (b : Nat) (W : World) (G : Nat) (deep turn seen : Int) (os : List Ot) (ws : List Wt) (w' : World) : Prop :=
 ∃ os' ws' fs' col' cg', os'.length = os.length + fs'.length ∧ ws'.length + fs'.length = ws.length ∧ RB b w' col' G cg' deep turn seen (stdR os' ws' fs') ∧ Ct PS b w' col' os' ws' fs' ∧ Below b W w'
end Go.Proofs.YtjlclkenfmbahaaGreatDoor.PA
end
