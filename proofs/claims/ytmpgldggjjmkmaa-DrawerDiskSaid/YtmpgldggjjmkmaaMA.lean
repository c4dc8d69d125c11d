/- Several texts of this claim in one, each in a section of its own; what nothing reaches is left out. Conditions: each law's own. -/
import Derived.Test.YtmpgldggjjmkmaaMW
import Derived.Test.YtmpgldggjjmkmaaML
import Derived.Maps.AppendAt
import Derived.Sort.KeysCollected
import Derived.Maps.Views
import Derived.Sort.Walk0
import Derived.Lib.Strings
import Derived.Maps.OwnSet
import Derived.Maps.RangeWalk
import Derived.Lib.BufferMore
import Derived.BigQuiet
set_option linter.unusedVariables false
set_option linter.unusedSimpArgs false
set_option linter.unusedSectionVars false
section
namespace Go.Proofs.Ytmpgldggjjmkmaa.PA
open Go.RowKit Go.Proofs.YtmpgldggjjmkmaaW.PrintWords Go.Proofs.YtmpgldggjjmkmaaW.PrintLast Go.Proofs.YtmpgldggjjmkmaaW.PrintMore
theorem wr {x : Int} (h1 : -9223372036854775808 ≤ x) (h2 : x ≤ 9223372036854775807) : wrap64 x = x := by unfold wrap64; omega
def okc (c : Int) : Bool := (decide (97 ≤ c) && decide (c ≤ 122)) || (decide (48 ≤ c) && decide (c ≤ 57)) || decide (c = 45)
def okFrom (s : ByteArray) : Nat → Nat → Bool
  | 0, _ => true
  | d + 1, i => okc (bt s i) && okFrom s d (i + 1)
def Nm (s : ByteArray) : Bool := decide (1 ≤ s.size) && decide (s.size ≤ 12) && okFrom s s.size 0
theorem nm_ref_l (s : ByteArray) (hs : s.size ≤ 140737488355328) : ∀ (d i : Nat), i + d = s.size → ∀ k, d < k → levyref19_named.l0 k s (i : Int) = some (okFrom s d i && (decide (1 ≤ s.size) && decide (s.size ≤ 12)))
  | 0, i, h, k, hk => by
    obtain ⟨k, rfl⟩ : ∃ m, k = m + 1 := ⟨k - 1, by omega⟩
    unfold levyref19_named.l0 okFrom
    rw [if_neg (by omega)]
    by_cases h1 : (s.size : Int) ≥ 1
    · rw [if_pos h1, decide_eq_true (show 1 ≤ s.size by omega)]
      simp
      omega
    · rw [if_neg h1, decide_eq_false (show ¬ 1 ≤ s.size by omega)]
      simp
  | d + 1, i, h, k, hk => by
    obtain ⟨k, rfl⟩ : ∃ m, k = m + 1 := ⟨k - 1, by omega⟩
    have ih := nm_ref_l s hs d (i + 1) (by omega) k (by omega)
    have e1 : wrap64 ((i : Int) + 1) = ((i + 1 : Nat) : Int) := by rw [wr (by omega) (by omega)]; omega
    unfold levyref19_named.l0 okFrom
    rw [if_pos (by omega), if_pos (by omega), e1, ih]
    generalize bt s (i : Int) = c
    unfold okc
    by_cases h1 : c ≥ 97
    · rw [if_pos h1]
      by_cases h2 : c ≤ 122
      · rw [if_pos h2]; simp [h1, h2]
      · rw [if_neg h2, if_pos (show c ≥ 48 by omega), if_neg (show ¬ c ≤ 57 by omega), if_neg (show ¬ c = 45 by omega)]
        simp [h2, show ¬ c ≤ 57 by omega, show ¬ c = 45 by omega]
    · rw [if_neg h1]
      by_cases h2 : c ≥ 48
      · rw [if_pos h2]
        by_cases h3 : c ≤ 57
        · rw [if_pos h3]; simp [h2, h3]
        · rw [if_neg h3, if_neg (show ¬ c = 45 by omega)]
          simp [h1, h3, show ¬ c = 45 by omega] <;> omega
      · rw [if_neg h2]
        by_cases h3 : c = 45
        · rw [if_pos h3]; simp [h3]
        · rw [if_neg h3]; simp [h1, h2, h3] <;> omega
theorem nm_ref (s : ByteArray) (hs : s.size ≤ 140737488355328) : ∃ k, levyref19_named.f k s = some (Nm s) := by
  refine ⟨s.size + 1, ?_⟩
  have h := nm_ref_l s hs s.size 0 (by omega) (s.size + 1) (by omega)
  show levyref19_named.l0 (s.size + 1) s ((0 : Nat) : Int) = _
  rw [h]
  unfold Nm
  rw [Bool.and_comm]
theorem nm_prog_l (s : ByteArray) (hs : s.size ≤ 140737488355328) : ∀ (d i : Nat), i + d = s.size → ∀ k, d < k → drawer_named.l0 k s (s.size : Int) (i : Int) = some (okFrom s d i)
  | 0, i, h, k, hk => by
    obtain ⟨k, rfl⟩ : ∃ m, k = m + 1 := ⟨k - 1, by omega⟩
    unfold drawer_named.l0 okFrom
    rw [if_neg (by omega)]
  | d + 1, i, h, k, hk => by
    obtain ⟨k, rfl⟩ : ∃ m, k = m + 1 := ⟨k - 1, by omega⟩
    have ih := nm_prog_l s hs d (i + 1) (by omega) k (by omega)
    have e1 : wrap64 ((i : Int) + 1) = ((i + 1 : Nat) : Int) := by rw [wr (by omega) (by omega)]; omega
    unfold drawer_named.l0 okFrom
    rw [if_pos (by omega), if_pos (by omega), if_pos (by omega), e1, ih]
    generalize bt s (i : Int) = c
    unfold okc
    by_cases h1 : c ≥ 97
    · rw [if_pos h1]
      by_cases h2 : c ≤ 122
      · rw [if_pos h2]; simp [h1, h2]
      · rw [if_neg h2, if_pos (show c ≥ 48 by omega), if_neg (show ¬ c ≤ 57 by omega), if_neg (show ¬ c = 45 by omega)]
        simp [h2, show ¬ c ≤ 57 by omega, show ¬ c = 45 by omega]
    · rw [if_neg h1]
      by_cases h2 : c ≥ 48
      · rw [if_pos h2]
        by_cases h3 : c ≤ 57
        · rw [if_pos h3]; simp [h2, h3]
        · rw [if_neg h3, if_neg (show ¬ c = 45 by omega)]
          simp [h1, h3, show ¬ c = 45 by omega] <;> omega
      · rw [if_neg h2]
        by_cases h3 : c = 45
        · rw [if_pos h3]; simp [h3]
        · rw [if_neg h3]; simp [h1, h2, h3] <;> omega
theorem nm_prog (s : ByteArray) (hs : s.size ≤ 140737488355328) : ∃ k, drawer_named.f k s = some (Nm s) := by
  refine ⟨s.size + 2, ?_⟩
  have h := nm_prog_l s hs s.size 0 (by omega) (s.size + 1) (by omega)
  unfold drawer_named.f Nm
  by_cases h1 : (s.size : Int) < 1
  · rw [if_pos h1, decide_eq_false (show ¬ 1 ≤ s.size by omega)]
    unfold drawer_named.j0
    simp
  · rw [if_neg h1, decide_eq_true (show 1 ≤ s.size by omega)]
    by_cases h2 : (s.size : Int) > 12
    · rw [decide_eq_true h2, decide_eq_false (show ¬ s.size ≤ 12 by omega)]
      unfold drawer_named.j0
      simp
    · rw [decide_eq_false h2, decide_eq_true (show s.size ≤ 12 by omega)]
      show (if false = true then some false else drawer_named.l0 (s.size + 1) s (s.size : Int) 0) = _
      rw [if_neg (by decide)]
      simpa using h
theorem rnamed_calls (s : ByteArray) (hs : s.size ≤ 140737488355328) (w : World) : Calls Try.prog 37 #[.string s] w fun e w' => e = .returned (.bool (Nm s)) ∧ Drawn0 w w' := by
  obtain ⟨k, h⟩ := nm_ref s hs
  exact levyref19_named.calls k s _ w h
theorem pnamed_calls (s : ByteArray) (hs : s.size ≤ 140737488355328) (w : World) : Calls Try.prog 40 #[.string s] w fun e w' => e = .returned (.bool (Nm s)) ∧ Drawn0 w w' := by
  obtain ⟨k, h⟩ := nm_prog s hs
  exact drawer_named.calls k s _ w h
theorem same_bytes (l : List Int) : levylaw19_sameBytes.f l l = some true := by unfold levylaw19_sameBytes.f; simp
theorem same_files_l (l : List S74) (hl : l.length ≤ 140737488355328) : ∀ (d i : Nat), i + d = l.length → ∀ k, d < k → levylaw19_sameFiles.l0 k l l (i : Int) = some true
  | 0, i, h, k, hk => by
    obtain ⟨k, rfl⟩ : ∃ m, k = m + 1 := ⟨k - 1, by omega⟩
    unfold levylaw19_sameFiles.l0
    rw [if_neg (by omega)]
  | d + 1, i, h, k, hk => by
    obtain ⟨k, rfl⟩ : ∃ m, k = m + 1 := ⟨k - 1, by omega⟩
    have ih := same_files_l l hl d (i + 1) (by omega) k (by omega)
    have e1 : wrap64 ((i : Int) + 1) = ((i + 1 : Nat) : Int) := by rw [wr (by omega) (by omega)]; omega
    unfold levylaw19_sameFiles.l0
    rw [if_pos (by omega), if_pos (by omega), if_pos (by omega), if_pos rfl, if_pos rfl, same_bytes, e1, ih]
    rfl
theorem same_files (l : List S74) (hl : l.length ≤ 140737488355328) : ∃ k, levylaw19_sameFiles.f k l l = some true := by
  refine ⟨l.length + 1, ?_⟩
  unfold levylaw19_sameFiles.f
  rw [if_pos rfl]
  exact same_files_l l hl l.length 0 (by omega) _ (by omega)
theorem sameFiles_calls (l : List S74) (hl : l.length ≤ 140737488355328) (A0 A1 : Option Addr) (c0 c1 : Nat) (w : World) (h0 : Kd.C k74 w A0 l.length l) (hc0 : l.length ≤ c0) (h1 : Kd.C k74 w A1 l.length l) (hc1 : l.length ≤ c1) :
    Calls Try.prog 6 #[.slice A0 l.length c0, .slice A1 l.length c1] w fun e w' => e = .returned (.bool true) ∧ Below w.heap.size w w' := by
  obtain ⟨k, h⟩ := same_files l hl
  exact levylaw19_sameFiles.calls k A0 c0 l A1 c1 l true w h0 hc0 h1 hc1 h
theorem sameBytes_calls (l : List Int) (A0 A1 : Option Addr) (c0 c1 : Nat) (w : World) (h0 : Kd.C (Kd.int .u8) w A0 l.length l) (hc0 : l.length ≤ c0) (h1 : Kd.C (Kd.int .u8) w A1 l.length l) (hc1 : l.length ≤ c1) :
    Calls Try.prog 15 #[.slice A0 l.length c0, .slice A1 l.length c1] w fun e w' => e = .returned (.bool true) ∧ Drawn0 w w' :=
  levylaw19_sameBytes.calls A0 c0 l A1 c1 l true w h0 hc0 h1 hc1 (same_bytes l)
end Go.Proofs.Ytmpgldggjjmkmaa.PA
end
section
namespace Go.Proofs.Ytmpgldggjjmkmaa.PA
open Go.RowKit Go.Proofs.YtmpgldggjjmkmaaW.PrintWords Go.Proofs.YtmpgldggjjmkmaaW.PrintLast Go.Proofs.YtmpgldggjjmkmaaW.PrintMore
attribute [local go_sem] max2_int min2_int max_two min_two
abbrev PB (W : World) (g : Nat) (m : Value) (dn ar : Bool) (u a c : Int) : Prop := W.heap[g]? = some (.cells #[m, .bool dn, .bool ar, .int .i64 u, .int .i64 a, .int .i64 c] 96 (0, 0))
abbrev RB (W : World) (g : Nat) (v : Value) (dn : Bool) (u a c : Int) : Prop := W.heap[g]? = some (.cells #[v, .bool dn, .int .i64 u, .int .i64 a, .int .i64 c] 100 (0, 0))
theorem gb_set {W0 W : World} {g : Nat} (h : W0.grownBy W (some g)) (i : Nat) (v : Value) : W0.grownBy (W.setCell ⟨g, i, none⟩ v) (some g) :=
  have q := (Below.refl 0 W).setCell (p := ⟨g, i, none⟩) (Nat.zero_le _) v
  ⟨q.os.trans h.os, q.tape.trans h.tape, q.output.trans h.output, Nat.le_trans h.size q.size, fun k hk hne => (Below.heap_setCell W ⟨g, i, none⟩ v k (fun e => hne (by rw [e]))).trans (h.block k hk hne)⟩
theorem gb_drewN {W0 W : World} {r : Option Nat} (h : W0.grownBy W r) (n : Nat) : W0.grownBy (W.drewN n) r := ⟨h.os, h.tape, h.output, h.size, h.block⟩
theorem gb_drew {W0 W : World} {r : Option Nat} (h : W0.grownBy W r) : W0.grownBy W.drew r := ⟨h.os, h.tape, h.output, h.size, h.block⟩
theorem gb_drawn {W0 W W1 : World} {r : Option Nat} (h : W0.grownBy W r) (d : Drawn0 W W1) : W0.grownBy W1 r := by obtain ⟨n, rfl⟩ := d.out; exact gb_drewN h n
theorem blk_drawn {W W1 : World} {g : Nat} {o : Obj} (h : W.heap[g]? = some o) (d : Drawn0 W W1) : W1.heap[g]? = some o := by obtain ⟨n, rfl⟩ := d.out; exact h
theorem blk_to {w : World} {g : Nat} {t : TypeId} {cs ds : Array Value} {i : Nat} {u : Value} (h : w.heap[g]? = some (.cells cs t (0, 0))) (e : cs.setIfInBounds i u = ds) : (w.setCell ⟨g, i, none⟩ u).heap[g]? = some (.cells ds t (0, 0)) := by rw [blk_set h i u, e]
def firstS (ok dn : Bool) (a c : Int) : Int × Int × Int :=
  if ok = false then (192, a, c) else if dn = true then (190, a, c) else if c ≤ 0 then (0, a, c) else if 0 < a then (0, a - 1, c) else (191, a, c - 1)
set_option maxRecDepth 100000 in
set_option maxHeartbeats 2000000 in
theorem pcrash (g : Nat) (m : Value) (dn ar : Bool) (u a c : Int) (w : World) (hG : PB w g m dn ar u a c) :
    Calls Try.prog 29 #[.pointer (some ⟨g, 0, none⟩)] w fun e w' => e = .returned (.tuple #[]) ∧ w.grownBy w' (some g) ∧ PB w' g m true false 0 0 0 := by
  have c1 : w.cell? ⟨g, 1, none⟩ = some (.bool dn) := (blk_cell hG 1).trans rfl
  have c2 : w.cell? ⟨g, 2, none⟩ = some (.bool ar) := (blk_cell hG 2).trans rfl
  have c3 : w.cell? ⟨g, 3, none⟩ = some (.int .i64 u) := (blk_cell hG 3).trans rfl
  have c4 : w.cell? ⟨g, 4, none⟩ = some (.int .i64 a) := (blk_cell hG 4).trans rfl
  have c5 : w.cell? ⟨g, 5, none⟩ = some (.int .i64 c) := (blk_cell hG 5).trans rfl
  have f1 := blk_frozen hG 1
  have f2 := blk_frozen hG 2
  have f3 := blk_frozen hG 3
  have f4 := blk_frozen hG 4
  have f5 := blk_frozen hG 5
  go_enter Try.func29, Try.ntmps29
  go_wp2
  go_end0
  exact ⟨rfl, gb_set (gb_set (gb_set (gb_set (gb_set (World.grownBy.refl _ _) _ _) _ _) _ _) _ _) _ _, blk_to (blk_to (blk_to (blk_to (blk_to (hG) rfl) rfl) rfl) rfl) (by simp)⟩
set_option maxRecDepth 100000 in
set_option maxHeartbeats 2000000 in
theorem rfalls (g : Nat) (v : Value) (dn : Bool) (u a c : Int) (w : World) (hG : RB w g v dn u a c) :
    Calls Try.prog 72 #[.pointer (some ⟨g, 0, none⟩)] w fun e w' => e = .returned (.tuple #[]) ∧ w.grownBy w' (some g) ∧ RB w' g v true (-1) 0 0 := by
  have c1 : w.cell? ⟨g, 1, none⟩ = some (.bool dn) := (blk_cell hG 1).trans rfl
  have c2 : w.cell? ⟨g, 2, none⟩ = some (.int .i64 u) := (blk_cell hG 2).trans rfl
  have c3 : w.cell? ⟨g, 3, none⟩ = some (.int .i64 a) := (blk_cell hG 3).trans rfl
  have c4 : w.cell? ⟨g, 4, none⟩ = some (.int .i64 c) := (blk_cell hG 4).trans rfl
  have f1 := blk_frozen hG 1
  have f2 := blk_frozen hG 2
  have f3 := blk_frozen hG 3
  have f4 := blk_frozen hG 4
  go_enter Try.func72, Try.ntmps72
  go_wp2
  go_end0
  exact ⟨rfl, gb_set (gb_set (gb_set (gb_set (World.grownBy.refl _ _) _ _) _ _) _ _) _ _, blk_to (blk_to (blk_to (blk_to (hG) rfl) rfl) rfl) (by simp)⟩
set_option maxRecDepth 100000 in
set_option maxHeartbeats 2000000 in
theorem pfailed_no (g : Nat) (m : Value) (dn ar : Bool) (u a c : Int) (hc : c ≤ 0) (w : World) (hG : PB w g m dn ar u a c) :
    Calls Try.prog 74 #[.pointer (some ⟨g, 0, none⟩)] w fun e w' => e = .returned (.bool false) ∧ w.grownBy w' (some g) ∧ PB w' g m dn ar u a c := by
  have c1 : w.cell? ⟨g, 1, none⟩ = some (.bool dn) := (blk_cell hG 1).trans rfl
  have c2 : w.cell? ⟨g, 2, none⟩ = some (.bool ar) := (blk_cell hG 2).trans rfl
  have c3 : w.cell? ⟨g, 3, none⟩ = some (.int .i64 u) := (blk_cell hG 3).trans rfl
  have c4 : w.cell? ⟨g, 4, none⟩ = some (.int .i64 a) := (blk_cell hG 4).trans rfl
  have c5 : w.cell? ⟨g, 5, none⟩ = some (.int .i64 c) := (blk_cell hG 5).trans rfl
  have f1 := blk_frozen hG 1
  have f2 := blk_frozen hG 2
  have f3 := blk_frozen hG 3
  have f4 := blk_frozen hG 4
  have f5 := blk_frozen hG 5
  have h1 : decide (c ≤ 0) = true := decide_eq_true hc
  go_enter Try.func74, Try.ntmps74
  go_wp2
  go_ret
  exact ⟨rfl, World.grownBy.refl _ _, hG⟩
set_option maxRecDepth 100000 in
set_option maxHeartbeats 2000000 in
theorem pfailed_after (g : Nat) (m : Value) (dn ar : Bool) (u a c : Int) (hc : ¬ c ≤ 0) (ha : 0 < a) (ha2 : a ≤ 9223372036854775807) (w : World) (hG : PB w g m dn ar u a c) :
    Calls Try.prog 74 #[.pointer (some ⟨g, 0, none⟩)] w fun e w' => e = .returned (.bool false) ∧ w.grownBy w' (some g) ∧ PB w' g m dn ar u (a - 1) c := by
  have c1 : w.cell? ⟨g, 1, none⟩ = some (.bool dn) := (blk_cell hG 1).trans rfl
  have c2 : w.cell? ⟨g, 2, none⟩ = some (.bool ar) := (blk_cell hG 2).trans rfl
  have c3 : w.cell? ⟨g, 3, none⟩ = some (.int .i64 u) := (blk_cell hG 3).trans rfl
  have c4 : w.cell? ⟨g, 4, none⟩ = some (.int .i64 a) := (blk_cell hG 4).trans rfl
  have c5 : w.cell? ⟨g, 5, none⟩ = some (.int .i64 c) := (blk_cell hG 5).trans rfl
  have f1 := blk_frozen hG 1
  have f2 := blk_frozen hG 2
  have f3 := blk_frozen hG 3
  have f4 := blk_frozen hG 4
  have f5 := blk_frozen hG 5
  have h1 : decide (c ≤ 0) = false := decide_eq_false hc
  have h2 : decide (0 < a) = true := decide_eq_true ha
  have h3 : wrap64 (a - 1) = a - 1 := wr (by omega) (by omega)
  go_enter Try.func74, Try.ntmps74
  go_wp2
  go_ret
  exact ⟨rfl, gb_set (World.grownBy.refl _ _) _ _, blk_to (hG) (by simp)⟩
set_option maxRecDepth 100000 in
set_option maxHeartbeats 2000000 in
theorem pfailed_yes (g : Nat) (m : Value) (dn ar : Bool) (u a c : Int) (hc : ¬ c ≤ 0) (ha : ¬ 0 < a) (hc2 : c ≤ 9223372036854775807) (w : World) (hG : PB w g m dn ar u a c) :
    Calls Try.prog 74 #[.pointer (some ⟨g, 0, none⟩)] w fun e w' => e = .returned (.bool true) ∧ w.grownBy w' (some g) ∧ PB w' g m dn ar u a (c - 1) := by
  have c1 : w.cell? ⟨g, 1, none⟩ = some (.bool dn) := (blk_cell hG 1).trans rfl
  have c2 : w.cell? ⟨g, 2, none⟩ = some (.bool ar) := (blk_cell hG 2).trans rfl
  have c3 : w.cell? ⟨g, 3, none⟩ = some (.int .i64 u) := (blk_cell hG 3).trans rfl
  have c4 : w.cell? ⟨g, 4, none⟩ = some (.int .i64 a) := (blk_cell hG 4).trans rfl
  have c5 : w.cell? ⟨g, 5, none⟩ = some (.int .i64 c) := (blk_cell hG 5).trans rfl
  have f1 := blk_frozen hG 1
  have f2 := blk_frozen hG 2
  have f3 := blk_frozen hG 3
  have f4 := blk_frozen hG 4
  have f5 := blk_frozen hG 5
  have h1 : decide (c ≤ 0) = false := decide_eq_false hc
  have h2 : decide (0 < a) = false := decide_eq_false ha
  have h3 : wrap64 (c - 1) = c - 1 := wr (by omega) (by omega)
  go_enter Try.func74, Try.ntmps74
  go_wp2
  go_ret
  exact ⟨rfl, gb_set (World.grownBy.refl _ _) _ _, blk_to (hG) (by simp)⟩
set_option maxRecDepth 100000 in
set_option maxHeartbeats 2000000 in
theorem ppaid_free (g : Nat) (m : Value) (dn ar : Bool) (u a c : Int) (x : Int) (hr : ar = false) (w : World) (hG : PB w g m dn ar u a c) :
    Calls Try.prog 63 #[.pointer (some ⟨g, 0, none⟩), .int .i64 x] w fun e w' => e = .returned (.tuple #[.int .i64 x, .bool false]) ∧ w.grownBy w' (some g) ∧ PB w' g m dn ar u a c := by
  have c1 : w.cell? ⟨g, 1, none⟩ = some (.bool dn) := (blk_cell hG 1).trans rfl
  have c2 : w.cell? ⟨g, 2, none⟩ = some (.bool ar) := (blk_cell hG 2).trans rfl
  have c3 : w.cell? ⟨g, 3, none⟩ = some (.int .i64 u) := (blk_cell hG 3).trans rfl
  have c4 : w.cell? ⟨g, 4, none⟩ = some (.int .i64 a) := (blk_cell hG 4).trans rfl
  have c5 : w.cell? ⟨g, 5, none⟩ = some (.int .i64 c) := (blk_cell hG 5).trans rfl
  have f1 := blk_frozen hG 1
  have f2 := blk_frozen hG 2
  have f3 := blk_frozen hG 3
  have f4 := blk_frozen hG 4
  have f5 := blk_frozen hG 5
  subst hr
  go_enter Try.func63, Try.ntmps63
  go_wp2
  go_ret2
  exact ⟨rfl, World.grownBy.refl _ _, hG⟩
set_option maxRecDepth 100000 in
set_option maxHeartbeats 2000000 in
theorem ppaid_ok (g : Nat) (m : Value) (dn ar : Bool) (u a c : Int) (x : Int) (hr : ar = true) (hx : x ≤ u) (h0 : 0 ≤ x) (hu : u ≤ 9223372036854775807) (w : World) (hG : PB w g m dn ar u a c) :
    Calls Try.prog 63 #[.pointer (some ⟨g, 0, none⟩), .int .i64 x] w fun e w' => e = .returned (.tuple #[.int .i64 x, .bool false]) ∧ w.grownBy w' (some g) ∧ PB w' g m dn ar (u - x) a c := by
  have c1 : w.cell? ⟨g, 1, none⟩ = some (.bool dn) := (blk_cell hG 1).trans rfl
  have c2 : w.cell? ⟨g, 2, none⟩ = some (.bool ar) := (blk_cell hG 2).trans rfl
  have c3 : w.cell? ⟨g, 3, none⟩ = some (.int .i64 u) := (blk_cell hG 3).trans rfl
  have c4 : w.cell? ⟨g, 4, none⟩ = some (.int .i64 a) := (blk_cell hG 4).trans rfl
  have c5 : w.cell? ⟨g, 5, none⟩ = some (.int .i64 c) := (blk_cell hG 5).trans rfl
  have f1 := blk_frozen hG 1
  have f2 := blk_frozen hG 2
  have f3 := blk_frozen hG 3
  have f4 := blk_frozen hG 4
  have f5 := blk_frozen hG 5
  subst hr
  have h1 : decide (x ≤ u) = true := decide_eq_true hx
  have h3 : wrap64 (u - x) = u - x := wr (by omega) (by omega)
  go_enter Try.func63, Try.ntmps63
  go_wp2
  go_ret2
  exact ⟨rfl, gb_set (World.grownBy.refl _ _) _ _, blk_to (hG) (by simp)⟩
set_option maxRecDepth 100000 in
set_option maxHeartbeats 2000000 in
theorem ppaid_fall (g : Nat) (m : Value) (dn ar : Bool) (u a c : Int) (x : Int) (hr : ar = true) (hx : ¬ x ≤ u) (w : World) (hG : PB w g m dn ar u a c) :
    Calls Try.prog 63 #[.pointer (some ⟨g, 0, none⟩), .int .i64 x] w fun e w' => e = .returned (.tuple #[.int .i64 u, .bool true]) ∧ w.grownBy w' (some g) ∧ PB w' g m true false 0 0 0 := by
  have c1 : w.cell? ⟨g, 1, none⟩ = some (.bool dn) := (blk_cell hG 1).trans rfl
  have c2 : w.cell? ⟨g, 2, none⟩ = some (.bool ar) := (blk_cell hG 2).trans rfl
  have c3 : w.cell? ⟨g, 3, none⟩ = some (.int .i64 u) := (blk_cell hG 3).trans rfl
  have c4 : w.cell? ⟨g, 4, none⟩ = some (.int .i64 a) := (blk_cell hG 4).trans rfl
  have c5 : w.cell? ⟨g, 5, none⟩ = some (.int .i64 c) := (blk_cell hG 5).trans rfl
  have f1 := blk_frozen hG 1
  have f2 := blk_frozen hG 2
  have f3 := blk_frozen hG 3
  have f4 := blk_frozen hG 4
  have f5 := blk_frozen hG 5
  subst hr
  have h1 : decide (x ≤ u) = false := decide_eq_false hx
  go_enter Try.func63, Try.ntmps63
  go_wp2_with (go_at_call 29; refine (pcrash g m dn true u a c _ hG).mono ?_; rintro e w' ⟨rfl, hg1, hG1⟩)
  go_ret2
  exact ⟨rfl, hg1, hG1⟩
set_option maxRecDepth 100000 in
set_option maxHeartbeats 2000000 in
theorem rpays_free (g : Nat) (v : Value) (dn : Bool) (u a c : Int) (x : Int) (hu : u < 0) (w : World) (hG : RB w g v dn u a c) :
    Calls Try.prog 66 #[.pointer (some ⟨g, 0, none⟩), .int .i64 x] w fun e w' => e = .returned (.tuple #[.bool true, .int .i64 0]) ∧ w.grownBy w' (some g) ∧ RB w' g v dn u a c := by
  have c1 : w.cell? ⟨g, 1, none⟩ = some (.bool dn) := (blk_cell hG 1).trans rfl
  have c2 : w.cell? ⟨g, 2, none⟩ = some (.int .i64 u) := (blk_cell hG 2).trans rfl
  have c3 : w.cell? ⟨g, 3, none⟩ = some (.int .i64 a) := (blk_cell hG 3).trans rfl
  have c4 : w.cell? ⟨g, 4, none⟩ = some (.int .i64 c) := (blk_cell hG 4).trans rfl
  have f1 := blk_frozen hG 1
  have f2 := blk_frozen hG 2
  have f3 := blk_frozen hG 3
  have f4 := blk_frozen hG 4
  have h1 : decide (u < 0) = true := decide_eq_true hu
  go_enter Try.func66, Try.ntmps66
  go_wp2
  go_ret2
  exact ⟨rfl, World.grownBy.refl _ _, hG⟩
set_option maxRecDepth 100000 in
set_option maxHeartbeats 2000000 in
theorem rpays_ok (g : Nat) (v : Value) (dn : Bool) (u a c : Int) (x : Int) (hu : ¬ u < 0) (hx : x ≤ u) (h0 : 0 ≤ x) (hu : u ≤ 9223372036854775807) (w : World) (hG : RB w g v dn u a c) :
    Calls Try.prog 66 #[.pointer (some ⟨g, 0, none⟩), .int .i64 x] w fun e w' => e = .returned (.tuple #[.bool true, .int .i64 0]) ∧ w.grownBy w' (some g) ∧ RB w' g v dn (u - x) a c := by
  have c1 : w.cell? ⟨g, 1, none⟩ = some (.bool dn) := (blk_cell hG 1).trans rfl
  have c2 : w.cell? ⟨g, 2, none⟩ = some (.int .i64 u) := (blk_cell hG 2).trans rfl
  have c3 : w.cell? ⟨g, 3, none⟩ = some (.int .i64 a) := (blk_cell hG 3).trans rfl
  have c4 : w.cell? ⟨g, 4, none⟩ = some (.int .i64 c) := (blk_cell hG 4).trans rfl
  have f1 := blk_frozen hG 1
  have f2 := blk_frozen hG 2
  have f3 := blk_frozen hG 3
  have f4 := blk_frozen hG 4
  have h1 : decide (u < 0) = false := decide_eq_false (by omega)
  have h2 : decide (x ≤ u) = true := decide_eq_true hx
  have h3 : wrap64 (u - x) = u - x := wr (by omega) (by omega)
  go_enter Try.func66, Try.ntmps66
  go_wp2
  go_ret2
  exact ⟨rfl, gb_set (World.grownBy.refl _ _) _ _, blk_to (hG) (by simp)⟩
set_option maxRecDepth 100000 in
set_option maxHeartbeats 2000000 in
theorem rpays_fall (g : Nat) (v : Value) (dn : Bool) (u a c : Int) (x : Int) (hu : ¬ u < 0) (hx : ¬ x ≤ u) (w : World) (hG : RB w g v dn u a c) :
    Calls Try.prog 66 #[.pointer (some ⟨g, 0, none⟩), .int .i64 x] w fun e w' => e = .returned (.tuple #[.bool false, .int .i64 u]) ∧ w.grownBy w' (some g) ∧ RB w' g v true (-1) 0 0 := by
  have c1 : w.cell? ⟨g, 1, none⟩ = some (.bool dn) := (blk_cell hG 1).trans rfl
  have c2 : w.cell? ⟨g, 2, none⟩ = some (.int .i64 u) := (blk_cell hG 2).trans rfl
  have c3 : w.cell? ⟨g, 3, none⟩ = some (.int .i64 a) := (blk_cell hG 3).trans rfl
  have c4 : w.cell? ⟨g, 4, none⟩ = some (.int .i64 c) := (blk_cell hG 4).trans rfl
  have f1 := blk_frozen hG 1
  have f2 := blk_frozen hG 2
  have f3 := blk_frozen hG 3
  have f4 := blk_frozen hG 4
  have h1 : decide (u < 0) = false := decide_eq_false hu
  have h2 : decide (x ≤ u) = false := decide_eq_false hx
  go_enter Try.func66, Try.ntmps66
  go_wp2_with (go_at_call 72; refine (rfalls g v dn u a c _ hG).mono ?_; rintro e w' ⟨rfl, hg1, hG1⟩)
  go_ret2
  exact ⟨rfl, hg1, hG1⟩
set_option maxRecDepth 100000 in
set_option maxHeartbeats 2000000 in
theorem rcrash (g : Nat) (v : Value) (dn : Bool) (u a c : Int) (w : World) (hG : RB w g v dn u a c) :
    Calls Try.prog 30 #[.pointer (some ⟨g, 0, none⟩)] w fun e w' => e = .returned (.tuple #[]) ∧ w.grownBy w' (some g) ∧ RB w' g v true (-1) 0 0 := by
  have c1 : w.cell? ⟨g, 1, none⟩ = some (.bool dn) := (blk_cell hG 1).trans rfl
  have c2 : w.cell? ⟨g, 2, none⟩ = some (.int .i64 u) := (blk_cell hG 2).trans rfl
  have c3 : w.cell? ⟨g, 3, none⟩ = some (.int .i64 a) := (blk_cell hG 3).trans rfl
  have c4 : w.cell? ⟨g, 4, none⟩ = some (.int .i64 c) := (blk_cell hG 4).trans rfl
  have f1 := blk_frozen hG 1
  have f2 := blk_frozen hG 2
  have f3 := blk_frozen hG 3
  have f4 := blk_frozen hG 4
  go_enter Try.func30, Try.ntmps30
  go_wp2_with (go_at_call 72; refine (rfalls g v dn u a c _ hG).mono ?_; rintro e w' ⟨rfl, hg1, hG1⟩)
  first | go_end0 | ((try simp only [Exit.inBlock, Exit.then]); refine bodyPost_ret (results_none rfl _ _ _) rfl ?_)
  exact ⟨rfl, hg1, hG1⟩
set_option maxRecDepth 100000 in
set_option maxHeartbeats 2000000 in
theorem parm_down (g : Nat) (m : Value) (dn ar : Bool) (u a c : Int) (x : Int) (hd : dn = true) (w : World) (hG : PB w g m dn ar u a c) :
    Calls Try.prog 25 #[.pointer (some ⟨g, 0, none⟩), .int .i64 x] w fun e w' => e = .returned (.tuple #[]) ∧ w.grownBy w' (some g) ∧ PB w' g m dn ar u a c := by
  have c1 : w.cell? ⟨g, 1, none⟩ = some (.bool dn) := (blk_cell hG 1).trans rfl
  have c2 : w.cell? ⟨g, 2, none⟩ = some (.bool ar) := (blk_cell hG 2).trans rfl
  have c3 : w.cell? ⟨g, 3, none⟩ = some (.int .i64 u) := (blk_cell hG 3).trans rfl
  have c4 : w.cell? ⟨g, 4, none⟩ = some (.int .i64 a) := (blk_cell hG 4).trans rfl
  have c5 : w.cell? ⟨g, 5, none⟩ = some (.int .i64 c) := (blk_cell hG 5).trans rfl
  have f1 := blk_frozen hG 1
  have f2 := blk_frozen hG 2
  have f3 := blk_frozen hG 3
  have f4 := blk_frozen hG 4
  have f5 := blk_frozen hG 5
  subst hd
  go_enter Try.func25, Try.ntmps25
  go_wp2
  first | go_end0 | ((try simp only [Exit.inBlock, Exit.then]); refine bodyPost_ret (results_none rfl _ _ _) rfl ?_)
  exact ⟨rfl, World.grownBy.refl _ _, hG⟩
set_option maxRecDepth 100000 in
set_option maxHeartbeats 2000000 in
theorem parm_up (g : Nat) (m : Value) (dn ar : Bool) (u a c : Int) (x : Int) (hd : dn = false) (w : World) (hG : PB w g m dn ar u a c) :
    Calls Try.prog 25 #[.pointer (some ⟨g, 0, none⟩), .int .i64 x] w fun e w' => e = .returned (.tuple #[]) ∧ w.grownBy w' (some g) ∧ PB w' g m dn (decide (0 ≤ x)) x a c := by
  have c1 : w.cell? ⟨g, 1, none⟩ = some (.bool dn) := (blk_cell hG 1).trans rfl
  have c2 : w.cell? ⟨g, 2, none⟩ = some (.bool ar) := (blk_cell hG 2).trans rfl
  have c3 : w.cell? ⟨g, 3, none⟩ = some (.int .i64 u) := (blk_cell hG 3).trans rfl
  have c4 : w.cell? ⟨g, 4, none⟩ = some (.int .i64 a) := (blk_cell hG 4).trans rfl
  have c5 : w.cell? ⟨g, 5, none⟩ = some (.int .i64 c) := (blk_cell hG 5).trans rfl
  have f1 := blk_frozen hG 1
  have f2 := blk_frozen hG 2
  have f3 := blk_frozen hG 3
  have f4 := blk_frozen hG 4
  have f5 := blk_frozen hG 5
  subst hd
  go_enter Try.func25, Try.ntmps25
  go_wp2
  first | go_end0 | ((try simp only [Exit.inBlock, Exit.then]); refine bodyPost_ret (results_none rfl _ _ _) rfl ?_)
  exact ⟨rfl, gb_set (gb_set (World.grownBy.refl _ _) _ _) _ _, blk_to (blk_to (hG) rfl) (by simp)⟩
set_option maxRecDepth 100000 in
set_option maxHeartbeats 2000000 in
theorem rarm_down (g : Nat) (v : Value) (dn : Bool) (u a c : Int) (x : Int) (hd : dn = true) (w : World) (hG : RB w g v dn u a c) :
    Calls Try.prog 26 #[.pointer (some ⟨g, 0, none⟩), .int .i64 x] w fun e w' => e = .returned (.tuple #[]) ∧ w.grownBy w' (some g) ∧ RB w' g v dn u a c := by
  have c1 : w.cell? ⟨g, 1, none⟩ = some (.bool dn) := (blk_cell hG 1).trans rfl
  have c2 : w.cell? ⟨g, 2, none⟩ = some (.int .i64 u) := (blk_cell hG 2).trans rfl
  have c3 : w.cell? ⟨g, 3, none⟩ = some (.int .i64 a) := (blk_cell hG 3).trans rfl
  have c4 : w.cell? ⟨g, 4, none⟩ = some (.int .i64 c) := (blk_cell hG 4).trans rfl
  have f1 := blk_frozen hG 1
  have f2 := blk_frozen hG 2
  have f3 := blk_frozen hG 3
  have f4 := blk_frozen hG 4
  subst hd
  go_enter Try.func26, Try.ntmps26
  go_wp2
  first | go_end0 | ((try simp only [Exit.inBlock, Exit.then]); refine bodyPost_ret (results_none rfl _ _ _) rfl ?_)
  exact ⟨rfl, World.grownBy.refl _ _, hG⟩
set_option maxRecDepth 100000 in
set_option maxHeartbeats 2000000 in
theorem rarm_up (g : Nat) (v : Value) (dn : Bool) (u a c : Int) (x : Int) (hd : dn = false) (w : World) (hG : RB w g v dn u a c) :
    Calls Try.prog 26 #[.pointer (some ⟨g, 0, none⟩), .int .i64 x] w fun e w' => e = .returned (.tuple #[]) ∧ w.grownBy w' (some g) ∧ RB w' g v dn (max x (-1)) a c := by
  have c1 : w.cell? ⟨g, 1, none⟩ = some (.bool dn) := (blk_cell hG 1).trans rfl
  have c2 : w.cell? ⟨g, 2, none⟩ = some (.int .i64 u) := (blk_cell hG 2).trans rfl
  have c3 : w.cell? ⟨g, 3, none⟩ = some (.int .i64 a) := (blk_cell hG 3).trans rfl
  have c4 : w.cell? ⟨g, 4, none⟩ = some (.int .i64 c) := (blk_cell hG 4).trans rfl
  have f1 := blk_frozen hG 1
  have f2 := blk_frozen hG 2
  have f3 := blk_frozen hG 3
  have f4 := blk_frozen hG 4
  subst hd
  go_enter Try.func26, Try.ntmps26
  go_wp2
  all_goals (first | go_end0 | ((try simp only [Exit.inBlock, Exit.then]); refine bodyPost_ret (results_none rfl _ _ _) rfl ?_))
  · exact ⟨rfl, gb_set (World.grownBy.refl _ _) _ _, blk_to hG (by rw [show max x (-1) = -1 by omega]; simp)⟩
  · exact ⟨rfl, gb_set (World.grownBy.refl _ _) _ _, blk_to hG (by rw [show max x (-1) = x by omega]; simp)⟩
set_option maxRecDepth 100000 in
set_option maxHeartbeats 2000000 in
theorem pfail_down (g : Nat) (m : Value) (dn ar : Bool) (u a c : Int) (x y : Int) (hd : dn = true) (w : World) (hG : PB w g m dn ar u a c) :
    Calls Try.prog 27 #[.pointer (some ⟨g, 0, none⟩), .int .i64 x, .int .i64 y] w fun e w' => e = .returned (.tuple #[]) ∧ w.grownBy w' (some g) ∧ PB w' g m dn ar u a c := by
  have c1 : w.cell? ⟨g, 1, none⟩ = some (.bool dn) := (blk_cell hG 1).trans rfl
  have c2 : w.cell? ⟨g, 2, none⟩ = some (.bool ar) := (blk_cell hG 2).trans rfl
  have c3 : w.cell? ⟨g, 3, none⟩ = some (.int .i64 u) := (blk_cell hG 3).trans rfl
  have c4 : w.cell? ⟨g, 4, none⟩ = some (.int .i64 a) := (blk_cell hG 4).trans rfl
  have c5 : w.cell? ⟨g, 5, none⟩ = some (.int .i64 c) := (blk_cell hG 5).trans rfl
  have f1 := blk_frozen hG 1
  have f2 := blk_frozen hG 2
  have f3 := blk_frozen hG 3
  have f4 := blk_frozen hG 4
  have f5 := blk_frozen hG 5
  subst hd
  go_enter Try.func27, Try.ntmps27
  go_wp2
  first | go_end0 | ((try simp only [Exit.inBlock, Exit.then]); refine bodyPost_ret (results_none rfl _ _ _) rfl ?_)
  exact ⟨rfl, World.grownBy.refl _ _, hG⟩
set_option maxRecDepth 100000 in
set_option maxHeartbeats 2000000 in
theorem pfail_set (g : Nat) (m : Value) (dn ar : Bool) (u a c : Int) (x y : Int) (hd : dn = false) (hx : 0 ≤ x) (hy : 0 < y) (w : World) (hG : PB w g m dn ar u a c) :
    Calls Try.prog 27 #[.pointer (some ⟨g, 0, none⟩), .int .i64 x, .int .i64 y] w fun e w' => e = .returned (.tuple #[]) ∧ w.grownBy w' (some g) ∧ PB w' g m dn ar u x y := by
  have c1 : w.cell? ⟨g, 1, none⟩ = some (.bool dn) := (blk_cell hG 1).trans rfl
  have c2 : w.cell? ⟨g, 2, none⟩ = some (.bool ar) := (blk_cell hG 2).trans rfl
  have c3 : w.cell? ⟨g, 3, none⟩ = some (.int .i64 u) := (blk_cell hG 3).trans rfl
  have c4 : w.cell? ⟨g, 4, none⟩ = some (.int .i64 a) := (blk_cell hG 4).trans rfl
  have c5 : w.cell? ⟨g, 5, none⟩ = some (.int .i64 c) := (blk_cell hG 5).trans rfl
  have f1 := blk_frozen hG 1
  have f2 := blk_frozen hG 2
  have f3 := blk_frozen hG 3
  have f4 := blk_frozen hG 4
  have f5 := blk_frozen hG 5
  subst hd
  have h1 : decide (x < 0) = false := decide_eq_false (by omega)
  have h2 : decide (y ≤ 0) = false := decide_eq_false (by omega)
  go_enter Try.func27, Try.ntmps27
  go_wp2
  first | go_end0 | ((try simp only [Exit.inBlock, Exit.then]); refine bodyPost_ret (results_none rfl _ _ _) rfl ?_)
  exact ⟨rfl, gb_set (gb_set (World.grownBy.refl _ _) _ _) _ _, blk_to (blk_to (hG) rfl) (by simp)⟩
set_option maxRecDepth 100000 in
set_option maxHeartbeats 2000000 in
theorem pfail_neg (g : Nat) (m : Value) (dn ar : Bool) (u a c : Int) (x y : Int) (hd : dn = false) (hx : x < 0) (w : World) (hG : PB w g m dn ar u a c) :
    Calls Try.prog 27 #[.pointer (some ⟨g, 0, none⟩), .int .i64 x, .int .i64 y] w fun e w' => e = .returned (.tuple #[]) ∧ w.grownBy w' (some g) ∧ PB w' g m dn ar u 0 0 := by
  have c1 : w.cell? ⟨g, 1, none⟩ = some (.bool dn) := (blk_cell hG 1).trans rfl
  have c2 : w.cell? ⟨g, 2, none⟩ = some (.bool ar) := (blk_cell hG 2).trans rfl
  have c3 : w.cell? ⟨g, 3, none⟩ = some (.int .i64 u) := (blk_cell hG 3).trans rfl
  have c4 : w.cell? ⟨g, 4, none⟩ = some (.int .i64 a) := (blk_cell hG 4).trans rfl
  have c5 : w.cell? ⟨g, 5, none⟩ = some (.int .i64 c) := (blk_cell hG 5).trans rfl
  have f1 := blk_frozen hG 1
  have f2 := blk_frozen hG 2
  have f3 := blk_frozen hG 3
  have f4 := blk_frozen hG 4
  have f5 := blk_frozen hG 5
  subst hd
  have h1 : decide (x < 0) = true := decide_eq_true (by omega)
  go_enter Try.func27, Try.ntmps27
  go_wp2
  first | go_end0 | ((try simp only [Exit.inBlock, Exit.then]); refine bodyPost_ret (results_none rfl _ _ _) rfl ?_)
  exact ⟨rfl, gb_set (gb_set (gb_set (gb_set (World.grownBy.refl _ _) _ _) _ _) _ _) _ _, blk_to (blk_to (blk_to (blk_to (hG) rfl) rfl) rfl) (by simp)⟩
set_option maxRecDepth 100000 in
set_option maxHeartbeats 2000000 in
theorem pfail_nil (g : Nat) (m : Value) (dn ar : Bool) (u a c : Int) (x y : Int) (hd : dn = false) (hx : ¬ x < 0) (hy : y ≤ 0) (w : World) (hG : PB w g m dn ar u a c) :
    Calls Try.prog 27 #[.pointer (some ⟨g, 0, none⟩), .int .i64 x, .int .i64 y] w fun e w' => e = .returned (.tuple #[]) ∧ w.grownBy w' (some g) ∧ PB w' g m dn ar u 0 0 := by
  have c1 : w.cell? ⟨g, 1, none⟩ = some (.bool dn) := (blk_cell hG 1).trans rfl
  have c2 : w.cell? ⟨g, 2, none⟩ = some (.bool ar) := (blk_cell hG 2).trans rfl
  have c3 : w.cell? ⟨g, 3, none⟩ = some (.int .i64 u) := (blk_cell hG 3).trans rfl
  have c4 : w.cell? ⟨g, 4, none⟩ = some (.int .i64 a) := (blk_cell hG 4).trans rfl
  have c5 : w.cell? ⟨g, 5, none⟩ = some (.int .i64 c) := (blk_cell hG 5).trans rfl
  have f1 := blk_frozen hG 1
  have f2 := blk_frozen hG 2
  have f3 := blk_frozen hG 3
  have f4 := blk_frozen hG 4
  have f5 := blk_frozen hG 5
  subst hd
  have h1 : decide (x < 0) = false := decide_eq_false (by omega)
  have h2 : decide (y ≤ 0) = true := decide_eq_true (by omega)
  go_enter Try.func27, Try.ntmps27
  go_wp2
  first | go_end0 | ((try simp only [Exit.inBlock, Exit.then]); refine bodyPost_ret (results_none rfl _ _ _) rfl ?_)
  exact ⟨rfl, gb_set (gb_set (gb_set (gb_set (World.grownBy.refl _ _) _ _) _ _) _ _) _ _, blk_to (blk_to (blk_to (blk_to (hG) rfl) rfl) rfl) (by simp)⟩
set_option maxRecDepth 100000 in
set_option maxHeartbeats 2000000 in
theorem rfail_down (g : Nat) (v : Value) (dn : Bool) (u a c : Int) (x y : Int) (hd : dn = true) (w : World) (hG : RB w g v dn u a c) :
    Calls Try.prog 28 #[.pointer (some ⟨g, 0, none⟩), .int .i64 x, .int .i64 y] w fun e w' => e = .returned (.tuple #[]) ∧ w.grownBy w' (some g) ∧ RB w' g v dn u a c := by
  have c1 : w.cell? ⟨g, 1, none⟩ = some (.bool dn) := (blk_cell hG 1).trans rfl
  have c2 : w.cell? ⟨g, 2, none⟩ = some (.int .i64 u) := (blk_cell hG 2).trans rfl
  have c3 : w.cell? ⟨g, 3, none⟩ = some (.int .i64 a) := (blk_cell hG 3).trans rfl
  have c4 : w.cell? ⟨g, 4, none⟩ = some (.int .i64 c) := (blk_cell hG 4).trans rfl
  have f1 := blk_frozen hG 1
  have f2 := blk_frozen hG 2
  have f3 := blk_frozen hG 3
  have f4 := blk_frozen hG 4
  subst hd
  go_enter Try.func28, Try.ntmps28
  go_wp2
  first | go_end0 | ((try simp only [Exit.inBlock, Exit.then]); refine bodyPost_ret (results_none rfl _ _ _) rfl ?_)
  exact ⟨rfl, World.grownBy.refl _ _, hG⟩
set_option maxRecDepth 100000 in
set_option maxHeartbeats 2000000 in
theorem rfail_set (g : Nat) (v : Value) (dn : Bool) (u a c : Int) (x y : Int) (hd : dn = false) (hx : 0 ≤ x) (hy : 0 < y) (w : World) (hG : RB w g v dn u a c) :
    Calls Try.prog 28 #[.pointer (some ⟨g, 0, none⟩), .int .i64 x, .int .i64 y] w fun e w' => e = .returned (.tuple #[]) ∧ w.grownBy w' (some g) ∧ RB w' g v dn u x y := by
  have c1 : w.cell? ⟨g, 1, none⟩ = some (.bool dn) := (blk_cell hG 1).trans rfl
  have c2 : w.cell? ⟨g, 2, none⟩ = some (.int .i64 u) := (blk_cell hG 2).trans rfl
  have c3 : w.cell? ⟨g, 3, none⟩ = some (.int .i64 a) := (blk_cell hG 3).trans rfl
  have c4 : w.cell? ⟨g, 4, none⟩ = some (.int .i64 c) := (blk_cell hG 4).trans rfl
  have f1 := blk_frozen hG 1
  have f2 := blk_frozen hG 2
  have f3 := blk_frozen hG 3
  have f4 := blk_frozen hG 4
  subst hd
  have h1 : decide (0 ≤ x) = true := decide_eq_true (by omega)
  have h2 : decide (0 < y) = true := decide_eq_true (by omega)
  go_enter Try.func28, Try.ntmps28
  go_wp2
  first | go_end0 | ((try simp only [Exit.inBlock, Exit.then]); refine bodyPost_ret (results_none rfl _ _ _) rfl ?_)
  exact ⟨rfl, gb_set (gb_set (gb_set (gb_set (World.grownBy.refl _ _) _ _) _ _) _ _) _ _, blk_to (blk_to (blk_to (blk_to (hG) rfl) rfl) rfl) (by simp)⟩
set_option maxRecDepth 100000 in
set_option maxHeartbeats 2000000 in
theorem rfail_neg (g : Nat) (v : Value) (dn : Bool) (u a c : Int) (x y : Int) (hd : dn = false) (hx : x < 0) (w : World) (hG : RB w g v dn u a c) :
    Calls Try.prog 28 #[.pointer (some ⟨g, 0, none⟩), .int .i64 x, .int .i64 y] w fun e w' => e = .returned (.tuple #[]) ∧ w.grownBy w' (some g) ∧ RB w' g v dn u 0 0 := by
  have c1 : w.cell? ⟨g, 1, none⟩ = some (.bool dn) := (blk_cell hG 1).trans rfl
  have c2 : w.cell? ⟨g, 2, none⟩ = some (.int .i64 u) := (blk_cell hG 2).trans rfl
  have c3 : w.cell? ⟨g, 3, none⟩ = some (.int .i64 a) := (blk_cell hG 3).trans rfl
  have c4 : w.cell? ⟨g, 4, none⟩ = some (.int .i64 c) := (blk_cell hG 4).trans rfl
  have f1 := blk_frozen hG 1
  have f2 := blk_frozen hG 2
  have f3 := blk_frozen hG 3
  have f4 := blk_frozen hG 4
  subst hd
  have h1 : decide (0 ≤ x) = false := decide_eq_false (by omega)
  go_enter Try.func28, Try.ntmps28
  go_wp2
  first | go_end0 | ((try simp only [Exit.inBlock, Exit.then]); refine bodyPost_ret (results_none rfl _ _ _) rfl ?_)
  exact ⟨rfl, gb_set (gb_set (World.grownBy.refl _ _) _ _) _ _, blk_to (blk_to (hG) rfl) (by simp)⟩
set_option maxRecDepth 100000 in
set_option maxHeartbeats 2000000 in
theorem rfail_nil (g : Nat) (v : Value) (dn : Bool) (u a c : Int) (x y : Int) (hd : dn = false) (hx : ¬ x < 0) (hy : y ≤ 0) (w : World) (hG : RB w g v dn u a c) :
    Calls Try.prog 28 #[.pointer (some ⟨g, 0, none⟩), .int .i64 x, .int .i64 y] w fun e w' => e = .returned (.tuple #[]) ∧ w.grownBy w' (some g) ∧ RB w' g v dn u 0 0 := by
  have c1 : w.cell? ⟨g, 1, none⟩ = some (.bool dn) := (blk_cell hG 1).trans rfl
  have c2 : w.cell? ⟨g, 2, none⟩ = some (.int .i64 u) := (blk_cell hG 2).trans rfl
  have c3 : w.cell? ⟨g, 3, none⟩ = some (.int .i64 a) := (blk_cell hG 3).trans rfl
  have c4 : w.cell? ⟨g, 4, none⟩ = some (.int .i64 c) := (blk_cell hG 4).trans rfl
  have f1 := blk_frozen hG 1
  have f2 := blk_frozen hG 2
  have f3 := blk_frozen hG 3
  have f4 := blk_frozen hG 4
  subst hd
  have h1 : decide (0 ≤ x) = true := decide_eq_true (by omega)
  have h2 : decide (0 < y) = false := decide_eq_false (by omega)
  go_enter Try.func28, Try.ntmps28
  go_wp2
  first | go_end0 | ((try simp only [Exit.inBlock, Exit.then]); refine bodyPost_ret (results_none rfl _ _ _) rfl ?_)
  exact ⟨rfl, gb_set (gb_set (World.grownBy.refl _ _) _ _) _ _, blk_to (blk_to (hG) rfl) (by simp)⟩
set_option maxRecDepth 100000 in
set_option maxHeartbeats 2000000 in
theorem pahead (g : Nat) (m : Value) (dn ar : Bool) (u a c : Int) (s : ByteArray) (hs : s.size ≤ 140737488355328) (ha : a ≤ 9223372036854775807) (hc : c ≤ 9223372036854775807) (w : World) (hG : PB w g m dn ar u a c) :
    Calls Try.prog 62 #[.pointer (some ⟨g, 0, none⟩), .string s] w fun e w' => e = .returned (.int .i64 (firstS (Nm s) dn a c).1) ∧ w.grownBy w' (some g) ∧ PB w' g m dn ar u (firstS (Nm s) dn a c).2.1 (firstS (Nm s) dn a c).2.2 := by
  cases hN : Nm s
  · go_enter Try.func62, Try.ntmps62
    go_wp2_with (go_at_call 40; refine (pnamed_calls s hs _).mono ?_; rintro e w1 ⟨rfl, hd1⟩; have hG1 := blk_drawn hG hd1; have hw1 := gb_drawn (World.grownBy.refl w (some g)) hd1; clear hd1; rw [hN])
    go_ret
    exact ⟨rfl, hw1, hG1⟩
  cases hD : dn
  rotate_left
  · go_enter Try.func62, Try.ntmps62
    go_wp2_with (go_at_call 40; refine (pnamed_calls s hs _).mono ?_; rintro e w1 ⟨rfl, hd1⟩; have hG1 := blk_drawn hG hd1; have hw1 := gb_drawn (World.grownBy.refl w (some g)) hd1; clear hd1; rw [hN]; subst hD; have c1 : World.cell? w1 ⟨g, 1, none⟩ = some (.bool true) := (blk_cell hG1 1).trans rfl; have c2 : World.cell? w1 ⟨g, 2, none⟩ = some (.bool ar) := (blk_cell hG1 2).trans rfl; have c3 : World.cell? w1 ⟨g, 3, none⟩ = some (.int .i64 u) := (blk_cell hG1 3).trans rfl; have c4 : World.cell? w1 ⟨g, 4, none⟩ = some (.int .i64 a) := (blk_cell hG1 4).trans rfl; have c5 : World.cell? w1 ⟨g, 5, none⟩ = some (.int .i64 c) := (blk_cell hG1 5).trans rfl; have f1 := blk_frozen hG1 1; have f2 := blk_frozen hG1 2; have f3 := blk_frozen hG1 3; have f4 := blk_frozen hG1 4; have f5 := blk_frozen hG1 5)
    go_ret
    exact ⟨rfl, hw1, hG1⟩
  subst hD
  by_cases hc0 : c ≤ 0
  · rw [show firstS true false a c = (0, a, c) by unfold firstS; rw [if_neg (by decide), if_neg (by decide), if_pos hc0]]
    go_enter Try.func62, Try.ntmps62
    go_wp2_with (first | (go_at_call 40; refine (pnamed_calls s hs _).mono ?_; rintro e w1 ⟨rfl, hd1⟩; have hG1 := blk_drawn hG hd1; have hw1 := gb_drawn (World.grownBy.refl w (some g)) hd1; clear hd1; rw [hN]; have c1 : World.cell? w1 ⟨g, 1, none⟩ = some (.bool false) := (blk_cell hG1 1).trans rfl; have c2 : World.cell? w1 ⟨g, 2, none⟩ = some (.bool ar) := (blk_cell hG1 2).trans rfl; have c3 : World.cell? w1 ⟨g, 3, none⟩ = some (.int .i64 u) := (blk_cell hG1 3).trans rfl; have c4 : World.cell? w1 ⟨g, 4, none⟩ = some (.int .i64 a) := (blk_cell hG1 4).trans rfl; have c5 : World.cell? w1 ⟨g, 5, none⟩ = some (.int .i64 c) := (blk_cell hG1 5).trans rfl; have f1 := blk_frozen hG1 1; have f2 := blk_frozen hG1 2; have f3 := blk_frozen hG1 3; have f4 := blk_frozen hG1 4; have f5 := blk_frozen hG1 5) | (go_at_call 74; refine (pfailed_no g m false ar u a c (by omega) _ hG1).mono ?_; rintro e w2 ⟨rfl, hg2, hG2⟩))
    go_ret
    exact ⟨rfl, hw1.trans hg2, hG2⟩
  by_cases ha0 : 0 < a
  · rw [show firstS true false a c = (0, a - 1, c) by unfold firstS; rw [if_neg (by decide), if_neg (by decide), if_neg hc0, if_pos ha0]]
    go_enter Try.func62, Try.ntmps62
    go_wp2_with (first | (go_at_call 40; refine (pnamed_calls s hs _).mono ?_; rintro e w1 ⟨rfl, hd1⟩; have hG1 := blk_drawn hG hd1; have hw1 := gb_drawn (World.grownBy.refl w (some g)) hd1; clear hd1; rw [hN]; have c1 : World.cell? w1 ⟨g, 1, none⟩ = some (.bool false) := (blk_cell hG1 1).trans rfl; have c2 : World.cell? w1 ⟨g, 2, none⟩ = some (.bool ar) := (blk_cell hG1 2).trans rfl; have c3 : World.cell? w1 ⟨g, 3, none⟩ = some (.int .i64 u) := (blk_cell hG1 3).trans rfl; have c4 : World.cell? w1 ⟨g, 4, none⟩ = some (.int .i64 a) := (blk_cell hG1 4).trans rfl; have c5 : World.cell? w1 ⟨g, 5, none⟩ = some (.int .i64 c) := (blk_cell hG1 5).trans rfl; have f1 := blk_frozen hG1 1; have f2 := blk_frozen hG1 2; have f3 := blk_frozen hG1 3; have f4 := blk_frozen hG1 4; have f5 := blk_frozen hG1 5) | (go_at_call 74; refine (pfailed_after g m false ar u a c (by omega) (by omega) ha _ hG1).mono ?_; rintro e w2 ⟨rfl, hg2, hG2⟩))
    go_ret
    exact ⟨rfl, hw1.trans hg2, hG2⟩
  · rw [show firstS true false a c = (191, a, c - 1) by unfold firstS; rw [if_neg (by decide), if_neg (by decide), if_neg hc0, if_neg ha0]]
    go_enter Try.func62, Try.ntmps62
    go_wp2_with (first | (go_at_call 40; refine (pnamed_calls s hs _).mono ?_; rintro e w1 ⟨rfl, hd1⟩; have hG1 := blk_drawn hG hd1; have hw1 := gb_drawn (World.grownBy.refl w (some g)) hd1; clear hd1; rw [hN]; have c1 : World.cell? w1 ⟨g, 1, none⟩ = some (.bool false) := (blk_cell hG1 1).trans rfl; have c2 : World.cell? w1 ⟨g, 2, none⟩ = some (.bool ar) := (blk_cell hG1 2).trans rfl; have c3 : World.cell? w1 ⟨g, 3, none⟩ = some (.int .i64 u) := (blk_cell hG1 3).trans rfl; have c4 : World.cell? w1 ⟨g, 4, none⟩ = some (.int .i64 a) := (blk_cell hG1 4).trans rfl; have c5 : World.cell? w1 ⟨g, 5, none⟩ = some (.int .i64 c) := (blk_cell hG1 5).trans rfl; have f1 := blk_frozen hG1 1; have f2 := blk_frozen hG1 2; have f3 := blk_frozen hG1 3; have f4 := blk_frozen hG1 4; have f5 := blk_frozen hG1 5) | (go_at_call 74; refine (pfailed_yes g m false ar u a c (by omega) (by omega) hc _ hG1).mono ?_; rintro e w2 ⟨rfl, hg2, hG2⟩))
    go_ret
    exact ⟨rfl, hw1.trans hg2, hG2⟩
set_option maxRecDepth 100000 in
set_option maxHeartbeats 2000000 in
theorem rfirst (g : Nat) (v : Value) (dn : Bool) (u a c : Int) (s : ByteArray) (hs : s.size ≤ 140737488355328) (ha : a ≤ 9223372036854775807) (hc : c ≤ 9223372036854775807) (w : World) (hG : RB w g v dn u a c) :
    Calls Try.prog 65 #[.pointer (some ⟨g, 0, none⟩), .string s] w fun e w' => e = .returned (.int .i64 (firstS (Nm s) dn a c).1) ∧ w.grownBy w' (some g) ∧ RB w' g v dn u (firstS (Nm s) dn a c).2.1 (firstS (Nm s) dn a c).2.2 := by
  cases hN : Nm s
  · go_enter Try.func65, Try.ntmps65
    go_wp2_with (go_at_call 37; refine (rnamed_calls s hs _).mono ?_; rintro e w1 ⟨rfl, hd1⟩; have hG1 := blk_drawn hG hd1; have hw1 := gb_drawn (World.grownBy.refl w (some g)) hd1; clear hd1; rw [hN])
    go_ret
    exact ⟨rfl, hw1, hG1⟩
  cases hD : dn
  rotate_left
  · go_enter Try.func65, Try.ntmps65
    go_wp2_with (go_at_call 37; refine (rnamed_calls s hs _).mono ?_; rintro e w1 ⟨rfl, hd1⟩; have hG1 := blk_drawn hG hd1; have hw1 := gb_drawn (World.grownBy.refl w (some g)) hd1; clear hd1; rw [hN]; subst hD; have c1 : World.cell? w1 ⟨g, 1, none⟩ = some (.bool true) := (blk_cell hG1 1).trans rfl; have c2 : World.cell? w1 ⟨g, 2, none⟩ = some (.int .i64 u) := (blk_cell hG1 2).trans rfl; have c3 : World.cell? w1 ⟨g, 3, none⟩ = some (.int .i64 a) := (blk_cell hG1 3).trans rfl; have c4 : World.cell? w1 ⟨g, 4, none⟩ = some (.int .i64 c) := (blk_cell hG1 4).trans rfl; have f1 := blk_frozen hG1 1; have f2 := blk_frozen hG1 2; have f3 := blk_frozen hG1 3; have f4 := blk_frozen hG1 4)
    go_ret
    exact ⟨rfl, hw1, hG1⟩
  subst hD
  by_cases hc0 : c ≤ 0
  · rw [show firstS true false a c = (0, a, c) by unfold firstS; rw [if_neg (by decide), if_neg (by decide), if_pos hc0]]
    have k1 : decide (0 < c) = false := decide_eq_false (by omega)
    go_enter Try.func65, Try.ntmps65
    go_wp2_with (first | (go_at_call 37; refine (rnamed_calls s hs _).mono ?_; rintro e w1 ⟨rfl, hd1⟩; have hG1 := blk_drawn hG hd1; have hw1 := gb_drawn (World.grownBy.refl w (some g)) hd1; clear hd1; rw [hN]; have c1 : World.cell? w1 ⟨g, 1, none⟩ = some (.bool false) := (blk_cell hG1 1).trans rfl; have c2 : World.cell? w1 ⟨g, 2, none⟩ = some (.int .i64 u) := (blk_cell hG1 2).trans rfl; have c3 : World.cell? w1 ⟨g, 3, none⟩ = some (.int .i64 a) := (blk_cell hG1 3).trans rfl; have c4 : World.cell? w1 ⟨g, 4, none⟩ = some (.int .i64 c) := (blk_cell hG1 4).trans rfl; have f1 := blk_frozen hG1 1; have f2 := blk_frozen hG1 2; have f3 := blk_frozen hG1 3; have f4 := blk_frozen hG1 4))
    go_ret
    exact ⟨rfl, hw1, hG1⟩
  by_cases ha0 : 0 < a
  · rw [show firstS true false a c = (0, a - 1, c) by unfold firstS; rw [if_neg (by decide), if_neg (by decide), if_neg hc0, if_pos ha0]]
    have k1 : decide (0 < c) = true := decide_eq_true (by omega)
    have k2 : decide (0 < a) = true := decide_eq_true ha0
    have k3 : wrap64 (a - 1) = a - 1 := wr (by omega) (by omega)
    go_enter Try.func65, Try.ntmps65
    go_wp2_with (first | (go_at_call 37; refine (rnamed_calls s hs _).mono ?_; rintro e w1 ⟨rfl, hd1⟩; have hG1 := blk_drawn hG hd1; have hw1 := gb_drawn (World.grownBy.refl w (some g)) hd1; clear hd1; rw [hN]; have c1 : World.cell? w1 ⟨g, 1, none⟩ = some (.bool false) := (blk_cell hG1 1).trans rfl; have c2 : World.cell? w1 ⟨g, 2, none⟩ = some (.int .i64 u) := (blk_cell hG1 2).trans rfl; have c3 : World.cell? w1 ⟨g, 3, none⟩ = some (.int .i64 a) := (blk_cell hG1 3).trans rfl; have c4 : World.cell? w1 ⟨g, 4, none⟩ = some (.int .i64 c) := (blk_cell hG1 4).trans rfl; have f1 := blk_frozen hG1 1; have f2 := blk_frozen hG1 2; have f3 := blk_frozen hG1 3; have f4 := blk_frozen hG1 4))
    go_ret
    exact ⟨rfl, gb_set hw1 _ _, blk_to hG1 (by simp)⟩
  · rw [show firstS true false a c = (191, a, c - 1) by unfold firstS; rw [if_neg (by decide), if_neg (by decide), if_neg hc0, if_neg ha0]]
    have k1 : decide (0 < c) = true := decide_eq_true (by omega)
    have k2 : decide (0 < a) = false := decide_eq_false ha0
    have k3 : wrap64 (c - 1) = c - 1 := wr (by omega) (by omega)
    go_enter Try.func65, Try.ntmps65
    go_wp2_with (first | (go_at_call 37; refine (rnamed_calls s hs _).mono ?_; rintro e w1 ⟨rfl, hd1⟩; have hG1 := blk_drawn hG hd1; have hw1 := gb_drawn (World.grownBy.refl w (some g)) hd1; clear hd1; rw [hN]; have c1 : World.cell? w1 ⟨g, 1, none⟩ = some (.bool false) := (blk_cell hG1 1).trans rfl; have c2 : World.cell? w1 ⟨g, 2, none⟩ = some (.int .i64 u) := (blk_cell hG1 2).trans rfl; have c3 : World.cell? w1 ⟨g, 3, none⟩ = some (.int .i64 a) := (blk_cell hG1 3).trans rfl; have c4 : World.cell? w1 ⟨g, 4, none⟩ = some (.int .i64 c) := (blk_cell hG1 4).trans rfl; have f1 := blk_frozen hG1 1; have f2 := blk_frozen hG1 2; have f3 := blk_frozen hG1 3; have f4 := blk_frozen hG1 4))
    go_ret
    exact ⟨rfl, gb_set hw1 _ _, blk_to hG1 (by simp)⟩
end Go.Proofs.Ytmpgldggjjmkmaa.PA
end
section
namespace Go.Proofs.Ytmpgldggjjmkmaa.PA
open Go.RowKit Go.Proofs.YtmpgldggjjmkmaaW.PrintWords Go.Proofs.YtmpgldggjjmkmaaW.PrintLast Go.Proofs.YtmpgldggjjmkmaaW.PrintMore
abbrev Fl := S74
def place : List Fl → ByteArray → Nat
  | [], _ => 0
  | f :: r, nm => if f.f0.toList < nm.toList then place r nm + 1 else 0
def there (fs : List Fl) (nm : ByteArray) : Bool := match fs[place fs nm]? with | some f => f.f0.toList == nm.toList | none => false
def addF (fs : List Fl) (f : Fl) : List Fl := fs.take (place fs f.f0) ++ f :: fs.drop (place fs f.f0)
def remF (fs : List Fl) (nm : ByteArray) : List Fl := fs.take (place fs nm) ++ fs.drop (place fs nm + 1)
def setF (fs : List Fl) (nm : ByteArray) (f : Fl) : List Fl := fs.set (place fs nm) f
def getF (fs : List Fl) (nm : ByteArray) : Fl := fs.getD (place fs nm) z74
def Rises (fs : List Fl) : Prop := fs.Pairwise (fun a b => a.f0.toList < b.f0.toList)
theorem ba_ext {a b : ByteArray} (h : a.toList = b.toList) : a = b := by
  rw [Lib.toList_data, Lib.toList_data] at h
  exact ByteArray.ext (Array.ext' h)
theorem place_le : ∀ (fs : List Fl) (nm : ByteArray), place fs nm ≤ fs.length
  | [], _ => Nat.le_refl _
  | f :: r, nm => by
    unfold place
    split
    · have := place_le r nm
      simp only [List.length_cons]; omega
    · exact Nat.zero_le _
theorem place_lt : ∀ (fs : List Fl) (nm : ByteArray) (i : Nat) (f : Fl), i < place fs nm → fs[i]? = some f → f.f0.toList < nm.toList
  | [], _, i, f, h, e => by simp at e
  | g :: r, nm, i, f, h, e => by
    unfold place at h
    split at h
    · rename_i hg
      cases i with
      | zero => simp at e; subst e; exact hg
      | succ j => exact place_lt r nm j f (by omega) (by simpa using e)
    · omega
theorem place_ge : ∀ (fs : List Fl) (nm : ByteArray) (f : Fl), fs[place fs nm]? = some f → ¬ f.f0.toList < nm.toList
  | [], _, f, e => by simp at e
  | g :: r, nm, f, e => by
    unfold place at e
    split at e
    · exact place_ge r nm f (by simpa using e)
    · rename_i hg
      simp at e; subst e; exact hg
theorem place_is {fs : List Fl} {nm : ByteArray} {i : Nat} (hi : i ≤ fs.length) (h1 : ∀ j f, j < i → fs[j]? = some f → f.f0.toList < nm.toList) (h2 : ∀ f, fs[i]? = some f → ¬ f.f0.toList < nm.toList) : place fs nm = i := by
  rcases Nat.lt_trichotomy (place fs nm) i with h | h | h
  · have hl : place fs nm < fs.length := by omega
    exact absurd (h1 _ _ h (List.getElem?_eq_getElem hl)) (place_ge fs nm _ (List.getElem?_eq_getElem hl))
  · exact h
  · have hl : i < fs.length := Nat.lt_of_lt_of_le h (place_le fs nm)
    exact absurd (place_lt fs nm i _ h (List.getElem?_eq_getElem hl)) (h2 _ (List.getElem?_eq_getElem hl))
theorem there_get {fs : List Fl} {nm : ByteArray} (h : there fs nm = true) : place fs nm < fs.length ∧ fs[place fs nm]? = some (getF fs nm) ∧ (getF fs nm).f0 = nm := by
  unfold there at h
  cases hf : fs[place fs nm]? with
  | none => rw [hf] at h; cases h
  | some f =>
    rw [hf] at h
    have e : getF fs nm = f := by unfold getF; rw [List.getD_eq_getElem?_getD, hf]; rfl
    have hl : place fs nm < fs.length := (List.getElem?_eq_some_iff.1 hf).1
    exact ⟨hl, by rw [e], by rw [e]; exact ba_ext (by simpa using h)⟩
theorem there_mem {fs : List Fl} {nm : ByteArray} (h : there fs nm = true) : getF fs nm ∈ fs := List.mem_of_getElem? (there_get h).2.1
theorem lt_ge {a b : List UInt8} (h : ¬ a < b) : b ≤ a := List.not_lt.1 h
theorem not_there {fs : List Fl} (hs : Rises fs) {nm : ByteArray} (h : there fs nm = false) {f : Fl} (hf : f ∈ fs) : f.f0 ≠ nm := by
  intro e
  obtain ⟨i, hi⟩ := List.mem_iff_getElem?.1 hf
  have hil : i < fs.length := (List.getElem?_eq_some_iff.1 hi).1
  have h1 : ¬ i < place fs nm := fun hlt => by
    have := place_lt fs nm i f hlt hi
    rw [e] at this
    exact List.lt_irrefl _ this
  rcases Nat.lt_or_eq_of_le (Nat.not_lt.1 h1) with h2 | h2
  · have hp : place fs nm < fs.length := by omega
    have h3 := List.pairwise_iff_getElem.1 hs (place fs nm) i hp hil h2
    have h4 : fs[i] = f := by have := List.getElem?_eq_getElem hil; rw [hi] at this; injection this with this; exact this.symm
    rw [h4, e] at h3
    exact place_ge fs nm _ (List.getElem?_eq_getElem hp) h3
  · unfold there at h
    rw [h2, hi] at h
    simp [e] at h
theorem addF_len (fs : List Fl) (f : Fl) : (addF fs f).length = fs.length + 1 := by
  have := place_le fs f.f0
  unfold addF
  simp; omega
theorem addF_mem {fs : List Fl} {f x : Fl} : x ∈ addF fs f ↔ x = f ∨ x ∈ fs := by
  unfold addF
  rw [List.mem_append, List.mem_cons]
  constructor
  · rintro (h | h | h)
    · exact .inr (List.mem_of_mem_take h)
    · exact .inl h
    · exact .inr (List.mem_of_mem_drop h)
  · rintro (h | h)
    · exact .inr (.inl h)
    · rw [← List.take_append_drop (place fs f.f0) fs, List.mem_append] at h
      rcases h with h | h
      · exact .inl h
      · exact .inr (.inr h)
theorem lt_of_ge {fs : List Fl} (hs : Rises fs) {nm : ByteArray} (h : there fs nm = false) {i : Nat} {f : Fl} (hp : place fs nm ≤ i) (hf : fs[i]? = some f) : nm.toList < f.f0.toList := by
  have hil : i < fs.length := (List.getElem?_eq_some_iff.1 hf).1
  have h0 : ∀ g : Fl, fs[place fs nm]? = some g → nm.toList < g.f0.toList := fun g hg => by
    rcases List.le_iff_lt_or_eq.1 (lt_ge (place_ge fs nm g hg)) with h1 | h1
    · exact h1
    · exact absurd (ba_ext h1.symm) (not_there hs h (List.mem_of_getElem? hg))
  rcases Nat.lt_or_eq_of_le hp with h2 | h2
  · have hpl : place fs nm < fs.length := by omega
    have h3 := List.pairwise_iff_getElem.1 hs (place fs nm) i hpl hil h2
    have h4 : fs[i] = f := by have := List.getElem?_eq_getElem hil; rw [hf] at this; injection this with this; exact this.symm
    rw [h4] at h3
    exact List.lt_trans (h0 _ (List.getElem?_eq_getElem hpl)) h3
  · subst h2; exact h0 f hf
theorem rises_add {fs : List Fl} (hs : Rises fs) {f : Fl} (h : there fs f.f0 = false) : Rises (addF fs f) := by
  unfold Rises addF
  refine List.pairwise_append.2 ⟨hs.sublist (List.take_sublist _ _), List.pairwise_cons.2 ⟨fun x hx => ?_, hs.sublist (List.drop_sublist _ _)⟩, fun x hx y hy => ?_⟩
  · obtain ⟨i, hi⟩ := List.mem_iff_getElem?.1 hx
    rw [List.getElem?_drop] at hi
    exact lt_of_ge hs h (Nat.le_add_right _ i) hi
  · have hx' : x.f0.toList < f.f0.toList := by
      obtain ⟨i, hi⟩ := List.mem_iff_getElem?.1 hx
      have hil : i < (fs.take (place fs f.f0)).length := (List.getElem?_eq_some_iff.1 hi).1
      rw [List.length_take] at hil
      rw [List.getElem?_take_of_lt (by omega)] at hi
      exact place_lt fs f.f0 i x (by omega) hi
    rcases List.mem_cons.1 hy with rfl | hy
    · exact hx'
    · obtain ⟨i, hi⟩ := List.mem_iff_getElem?.1 hy
      rw [List.getElem?_drop] at hi
      exact List.lt_trans hx' (lt_of_ge hs h (Nat.le_add_right _ i) hi)
theorem rises_rem {fs : List Fl} (hs : Rises fs) (nm : ByteArray) : Rises (remF fs nm) := by
  unfold Rises remF
  have h : (fs.take (place fs nm) ++ fs.drop (place fs nm + 1)).Sublist fs := by
    conv => rhs; rw [← List.take_append_drop (place fs nm) fs]
    refine List.Sublist.append (List.Sublist.refl _) ?_
    rw [show fs.drop (place fs nm + 1) = (fs.drop (place fs nm)).drop 1 by rw [List.drop_drop]]
    exact List.drop_sublist _ _
  exact hs.sublist h
theorem names_set {fs : List Fl} {nm : ByteArray} (h : there fs nm = true) {f : Fl} (hf : f.f0 = nm) : (setF fs nm f).map (·.f0) = fs.map (·.f0) := by
  obtain ⟨hl, hg, he⟩ := there_get h
  unfold setF
  rw [List.map_set]
  refine List.ext_getElem? fun i => ?_
  rw [List.getElem?_set]
  split
  · rename_i hi
    subst hi
    rw [if_pos (by simpa using hl), List.getElem?_map, hg]
    simp [hf, he]
  · rfl
theorem rises_names {fs gs : List Fl} (hs : Rises fs) (h : gs.map (·.f0) = fs.map (·.f0)) : Rises gs := by
  have h1 : (fs.map (·.f0)).Pairwise (fun a b => a.toList < b.toList) := List.pairwise_map.2 hs
  rw [← h] at h1
  exact (List.pairwise_map (f := fun x : Fl => x.f0) (R := fun a b : ByteArray => a.toList < b.toList)).1 h1
theorem place_add (fs : List Fl) (f : Fl) : place (addF fs f) f.f0 = place fs f.f0 := by
  have hp := place_le fs f.f0
  have hlt : (fs.take (place fs f.f0)).length = place fs f.f0 := by rw [List.length_take]; omega
  refine place_is (by rw [addF_len]; omega) (fun j g hj hg => ?_) (fun g hg => ?_)
  · unfold addF at hg
    rw [List.getElem?_append_left (by omega), List.getElem?_take_of_lt hj] at hg
    exact place_lt fs f.f0 j g hj hg
  · unfold addF at hg
    rw [List.getElem?_append_right (by omega), hlt, Nat.sub_self] at hg
    simp at hg
    subst hg
    exact List.lt_irrefl _
theorem there_add (fs : List Fl) (f : Fl) : there (addF fs f) f.f0 = true ∧ getF (addF fs f) f.f0 = f := by
  have hp := place_le fs f.f0
  have hlt : (fs.take (place fs f.f0)).length = place fs f.f0 := by rw [List.length_take]; omega
  have hg : (addF fs f)[place (addF fs f) f.f0]? = some f := by
    rw [place_add]
    unfold addF
    rw [List.getElem?_append_right (by omega), hlt, Nat.sub_self]
    rfl
  refine ⟨?_, ?_⟩
  · unfold there; rw [hg]; simp
  · unfold getF; rw [List.getD_eq_getElem?_getD, hg]; rfl
def mapD {H : Type} (fs : List Fl) (gb : ByteArray → Nat) : DataW H := .map (fs.map fun f => (.string f.f0.data.toList, .lit (.int .i64 (gb f.f0))))
theorem bb_eq : ∀ (a b : List UInt8), bytesBefore a b = decide (a < b)
  | [], [] => by simp [bytesBefore]
  | [], _ :: _ => by simp [bytesBefore]
  | _ :: _, [] => by simp [bytesBefore]
  | x :: a, y :: b => by
    rw [bytesBefore, bb_eq a b]
    simp only [List.cons_lt_cons_iff]
    by_cases h1 : x < y <;> by_cases h2 : x = y <;> by_cases h3 : a < b <;> simp [h1, h2, h3]
theorem mapD_at {H : Type} {fs : List Fl} (hs : Rises fs) (gb : ByteArray → Nat) (nm : ByteArray) (z : DataW H) : (mapD fs gb).atKey (.string nm.data.toList) z = if there fs nm = true then .lit (.int .i64 (gb nm)) else z := by
  have hfind : ∀ l : List Fl, (∀ f ∈ l, f ∈ fs) → ((l.map fun f => ((Lit.string f.f0.data.toList, DataW.lit (.int .i64 (gb f.f0))) : Lit × DataW H)).find? (fun p => p.1.sameKey (.string nm.data.toList))) = if l.any (fun f => f.f0.data.toList == nm.data.toList) = true then some (.string nm.data.toList, .lit (.int .i64 (gb nm))) else none := by
    intro l
    induction l with
    | nil => intro _; simp
    | cons f r ih =>
      intro hm
      rw [List.map_cons, List.find?_cons]
      by_cases h : f.f0.data.toList = nm.data.toList
      · have e : f.f0 = nm := ba_ext (by rw [Lib.toList_data, Lib.toList_data]; exact h)
        simp [Lit.sameKey, e]
      · have ih' := ih (fun g hg => hm g (List.mem_cons_of_mem _ hg))
        have h1 : (Lit.string f.f0.data.toList).sameKey (.string nm.data.toList) = false := by simpa [Lit.sameKey] using h
        rw [h1, List.any_cons]
        have h2 : (f.f0.data.toList == nm.data.toList) = false := by simpa using h
        rw [h2, Bool.false_or]
        exact ih'
  have hany : fs.any (fun f => f.f0.data.toList == nm.data.toList) = there fs nm := by
    cases ht : there fs nm
    · rw [List.any_eq_false]
      intro f hf
      have := not_there hs ht hf
      simp only [beq_iff_eq]
      exact fun e => this (ba_ext (by rw [Lib.toList_data, Lib.toList_data]; exact e))
    · rw [List.any_eq_true]
      exact ⟨_, there_mem ht, by rw [(there_get ht).2.2]; simp⟩
  show (match ((fs.map fun f => ((Lit.string f.f0.data.toList, DataW.lit (.int .i64 (gb f.f0))) : Lit × DataW H)).find? (fun p => p.1.sameKey (.string nm.data.toList))) with | some p => p.2 | none => z) = _
  rw [hfind fs (fun f hf => hf), hany]
  cases there fs nm <;> rfl
theorem filter_other {H : Type} (gb : ByteArray → Nat) (nm : ByteArray) : ∀ (l : List Fl), (∀ f ∈ l, f.f0 ≠ nm) → (l.map fun f => ((Lit.string f.f0.data.toList, DataW.lit (.int .i64 (gb f.f0))) : Lit × DataW H)).filter (fun p => !p.1.sameKey (.string nm.data.toList)) = l.map fun f => (Lit.string f.f0.data.toList, DataW.lit (.int .i64 (gb f.f0)))
  | [], _ => rfl
  | f :: r, h => by
    have h1 : (Lit.string f.f0.data.toList).sameKey (.string nm.data.toList) = false := by
      simp only [Lit.sameKey, beq_eq_false_iff_ne]
      exact fun e => h f (by simp) (ba_ext (by rw [Lib.toList_data, Lib.toList_data]; exact e))
    rw [List.map_cons, List.filter_cons, h1, filter_other gb nm r (fun g hg => h g (List.mem_cons_of_mem _ hg))]
    rfl
theorem insert_place {H : Type} (gb : ByteArray → Nat) (nm : ByteArray) (d : DataW H) : ∀ (fs : List Fl), (∀ f ∈ fs, f.f0 ≠ nm) → DataW.insert (Lit.string nm.data.toList, d) (fs.map fun f => (Lit.string f.f0.data.toList, DataW.lit (.int .i64 (gb f.f0)))) =
    ((fs.take (place fs nm)).map fun f => ((Lit.string f.f0.data.toList, DataW.lit (.int .i64 (gb f.f0))) : Lit × DataW H)) ++ (Lit.string nm.data.toList, d) :: ((fs.drop (place fs nm)).map fun f => (Lit.string f.f0.data.toList, DataW.lit (.int .i64 (gb f.f0))))
  | [], _ => rfl
  | f :: r, h => by
    have ih := insert_place gb nm d r (fun g hg => h g (List.mem_cons_of_mem _ hg))
    have hne := h f (by simp)
    rw [List.map_cons, DataW.insert]
    show (if bytesBefore nm.data.toList f.f0.data.toList = true then _ else _) = _
    rw [bb_eq]
    unfold place
    rw [Lib.toList_data, Lib.toList_data]
    by_cases h1 : f.f0.data.toList < nm.data.toList
    · have h2 : ¬ nm.data.toList < f.f0.data.toList := fun h2 => List.lt_irrefl _ (List.lt_trans h1 h2)
      rw [if_neg (by simpa using h2), if_pos h1, ih]
      rfl
    · have h2 : nm.data.toList < f.f0.data.toList := by
        rcases List.le_iff_lt_or_eq.1 (lt_ge h1) with h2 | h2
        · exact h2
        · exact absurd (ba_ext (by rw [Lib.toList_data, Lib.toList_data]; exact h2.symm)) hne
      rw [if_pos (by simpa using h2), if_neg h1]
      rfl
theorem mapD_put {H : Type} {fs : List Fl} (hs : Rises fs) (gb : ByteArray → Nat) (f : Fl) (h : there fs f.f0 = false) (g : Nat) (hg : gb f.f0 = g) : (mapD (H := H) fs gb).put (.string f.f0.data.toList) (.lit (.int .i64 g)) = mapD (addF fs f) gb := by
  show DataW.map (DataW.insert _ ((fs.map _).filter _)) = _
  rw [filter_other gb f.f0 fs (fun x hx => not_there hs h hx), insert_place gb f.f0 _ fs (fun x hx => not_there hs h hx)]
  unfold mapD addF
  rw [List.map_append, List.map_cons, hg]
theorem mapD_del {H : Type} {fs : List Fl} (hs : Rises fs) (gb : ByteArray → Nat) (nm : ByteArray) (h : there fs nm = true) : (mapD (H := H) fs gb).del (.string nm.data.toList) = mapD (remF fs nm) gb := by
  obtain ⟨hl, hg, he⟩ := there_get h
  show DataW.map ((fs.map _).filter _) = _
  have hsplit : fs = fs.take (place fs nm) ++ getF fs nm :: fs.drop (place fs nm + 1) := by
    conv => lhs; rw [← List.take_append_drop (place fs nm) fs, List.drop_eq_getElem_cons hl]
    rw [show fs[place fs nm] = getF fs nm by have := List.getElem?_eq_getElem hl; rw [hg] at this; injection this with this; exact this.symm]
  have h1 : ∀ x ∈ fs.take (place fs nm), x.f0 ≠ nm := fun x hx e => by
    obtain ⟨i, hi⟩ := List.mem_iff_getElem?.1 hx
    have hil : i < (fs.take (place fs nm)).length := (List.getElem?_eq_some_iff.1 hi).1
    rw [List.length_take] at hil
    rw [List.getElem?_take_of_lt (by omega)] at hi
    have := place_lt fs nm i x (by omega) hi
    rw [e] at this
    exact List.lt_irrefl _ this
  have h2 : ∀ x ∈ fs.drop (place fs nm + 1), x.f0 ≠ nm := fun x hx e => by
    have hp := hs
    unfold Rises at hp
    rw [hsplit] at hp
    have := (List.pairwise_cons.1 (List.pairwise_append.1 hp).2.1).1 x hx
    rw [he, e] at this
    exact List.lt_irrefl _ this
  have h3 : (Lit.string (getF fs nm).f0.data.toList).sameKey (.string nm.data.toList) = true := by rw [he]; simp [Lit.sameKey]
  unfold mapD remF
  conv => lhs; rw [hsplit]
  rw [List.map_append, List.filter_append, List.map_cons, List.filter_cons, h3, filter_other gb nm _ h1, List.map_append]
  simp only [Bool.not_true, Bool.false_eq_true, if_false]
  rw [filter_other gb nm _ h2]
theorem mapD_size {H : Type} (fs : List Fl) (gb : ByteArray → Nat) : Maps.size (mapD (H := H) fs gb) = fs.length := by unfold mapD Maps.size; simp
theorem mapD_congr {H : Type} {fs : List Fl} {gb gb' : ByteArray → Nat} (h : ∀ f ∈ fs, gb' f.f0 = gb f.f0) : mapD (H := H) fs gb' = mapD fs gb := by
  unfold mapD
  rw [List.map_congr_left (fun f hf => by rw [h f hf])]
theorem mapD_names {H : Type} {fs gs : List Fl} (h : gs.map (·.f0) = fs.map (·.f0)) (gb : ByteArray → Nat) : mapD (H := H) gs gb = mapD fs gb := by
  unfold mapD
  have e : ∀ l : List Fl, (l.map fun f => ((Lit.string f.f0.data.toList, DataW.lit (.int .i64 (gb f.f0))) : Lit × DataW H)) = (l.map (·.f0)).map (fun s => (Lit.string s.data.toList, DataW.lit (.int .i64 (gb s)))) := fun l => by rw [List.map_map]; rfl
  rw [e, e, h]
theorem strKeys_mapD {H : Type} (fs : List Fl) (gb : ByteArray → Nat) : strKeys (mapD (H := H) fs gb) = fs.map (fun f => f.f0.data.toList) := by
  show List.map (fun p : Lit × DataW H => strOf p.1) (fs.map fun f => (Lit.string f.f0.data.toList, DataW.lit (.int .i64 (gb f.f0)))) = _
  rw [List.map_map]
  rfl
theorem sorted_keys {H : Type} {fs : List Fl} (hs : Rises fs) (gb : ByteArray → Nat) {ss : List (List UInt8)} (hp : ss.Perm (strKeys (mapD (H := H) fs gb))) : ss.mergeSort (fun x y => decide (x ≤ y)) = fs.map (fun f => f.f0.data.toList) := by
  rw [show (fun x y : List UInt8 => decide (x ≤ y)) = leB from rfl, mergeSort_of_perm hp, strKeys_mapD]
  refine List.mergeSort_of_pairwise (List.pairwise_map.2 (hs.imp fun {a b} h => ?_))
  rw [Lib.toList_data, Lib.toList_data] at h
  simp only [leB, decide_eq_true_eq]
  exact List.le_of_lt h
end Go.Proofs.Ytmpgldggjjmkmaa.PA
end
section
namespace Go.Proofs.Ytmpgldggjjmkmaa.PA
open Go.RowKit Go.Maps Go.Proofs.YtmpgldggjjmkmaaW.PrintWords Go.Proofs.YtmpgldggjjmkmaaW.PrintLast Go.Proofs.YtmpgldggjjmkmaaW.PrintMore
inductive Role where
  | other | pd | pm | pf (n : ByteArray) | pb (n : ByteArray) | rd | rl | rb | tm | rm
abbrev RCol := Nat → Role
def isP : Role → Prop
  | .pd | .pm | .pf _ | .pb _ => True
  | _ => False
def isR : Role → Prop
  | .rd | .rl | .rb => True
  | _ => False
def colN (col : RCol) (n : Nat) (new : RCol) : RCol := fun k => if k < n then col k else new k
theorem colN_lt {col new : RCol} {n k : Nat} (h : k < n) : colN col n new k = col k := if_pos h
theorem colN_ge {col new : RCol} {n k : Nat} (h : n ≤ k) : colN col n new k = new k := if_neg (by omega)
structure Ch (b : Nat) (W : World) (col : RCol) (W' : World) (col' : RCol) (S : Role → Prop) : Prop where
  below : Below b W W'
  le : b ≤ W.heap.size
  same : ∀ k, k < W.heap.size → col' k = col k
  block : ∀ k, k < W.heap.size → ¬ S (col k) → W'.heap[k]? = W.heap[k]?
section
variable {b : Nat} {W W' W2 : World} {col col' col2 : RCol} {S S' : Role → Prop}
theorem Ch.refl (hb : b ≤ W.heap.size) : Ch b W col W col S := ⟨Below.refl _ _, hb, fun _ _ => rfl, fun _ _ _ => rfl⟩
theorem Ch.size (m : Ch b W col W' col' S) : W.heap.size ≤ W'.heap.size := m.below.size
theorem Ch.le' (m : Ch b W col W' col' S) : b ≤ W'.heap.size := Nat.le_trans m.le m.size
theorem Ch.mono (m : Ch b W col W' col' S) (h : ∀ r, S r → S' r) : Ch b W col W' col' S' := ⟨m.below, m.le, m.same, fun k hk hn => m.block k hk (fun hs => hn (h _ hs))⟩
theorem Ch.trans (m : Ch b W col W' col' S) (n : Ch b W' col' W2 col2 S) : Ch b W col W2 col2 S :=
  ⟨m.below.trans n.below, m.le, fun k hk => (n.same k (Nat.lt_of_lt_of_le hk m.size)).trans (m.same k hk), fun k hk h => (n.block k (Nat.lt_of_lt_of_le hk m.size) (by rw [m.same k hk]; exact h)).trans (m.block k hk h)⟩
theorem Ch.of_below (h : Below W.heap.size W W') (hb : b ≤ W.heap.size) : Ch b W col W' col S := ⟨h.mono hb, hb, fun _ _ => rfl, fun k hk _ => h.block k hk⟩
theorem Ch.of_new (h : Below W.heap.size W W') (hb : b ≤ W.heap.size) (new : RCol) : Ch b W col W' (colN col W.heap.size new) S := ⟨h.mono hb, hb, fun _ hk => colN_lt hk, fun k hk _ => h.block k hk⟩
theorem Ch.of_grown' {g : Nat} (h : W.grownBy W' (some g)) (hb : b ≤ W.heap.size) (hg : b ≤ g) (hS : S (col g)) : Ch b W col W' col S :=
  ⟨(Below.refl b W).grown h hb (fun j hj => by cases hj; exact hg), hb, fun _ _ => rfl, fun k hk hn => h.block k hk (fun e => by cases e; exact hn hS)⟩
theorem Ch.blk (m : Ch b W col W' col' S) {k : Nat} {o : Obj} (h : W.heap[k]? = some o) (hn : ¬ S (col k)) : W'.heap[k]? = some o := (m.block k (blk_lt h) hn).trans h
structure BRow (b : Nat) (W : World) (col : RCol) (r : Role) (v : Value) (xs : List Int) : Prop where
  own : W.ownsRow b 5 1 v xs.length (nums .u8 xs)
  tag : ∀ k, v.ownBlock = some k → col k = r
theorem BRow.nil (b : Nat) (W : World) (col : RCol) (r : Role) : BRow b W col r (.slice none 0 0) [] := ⟨own_nil _ _ _ _, fun k hk => by simp [Value.ownBlock] at hk⟩
theorem BRow.ch {r : Role} {v : Value} {xs : List Int} (h : BRow b W col r v xs) (m : Ch b W col W' col' S) (hn : ¬ S r) : BRow b W' col' r v xs :=
  ⟨own_move h.own (fun k hk => m.block k (own_lt h.own k hk) (by rw [h.tag k hk]; exact hn)), fun k hk => (m.same k (own_lt h.own k hk)).trans (h.tag k hk)⟩
theorem own_le_cap {W : World} {b e size n : Nat} {v : Value} {xs : List Value} (h : W.ownsRow b e size v n xs) : ∃ A c, v = .slice A n c ∧ n ≤ c := by
  rcases h.2 with ⟨rfl, rfl⟩ | ⟨g, cap, cur, rfl, _, _, hc, _⟩
  · exact ⟨none, 0, rfl, Nat.le_refl _⟩
  · exact ⟨_, cap, rfl, hc⟩
theorem own_form {W : World} {base n size : Nat} {e : TypeId} {v : Value} {xs : List Value} (h : W.ownsRow base e size v n xs) : ∃ A c, v = .slice A n c ∧ n ≤ c ∧ ∀ a, A = some a → v.ownBlock = some a.block := by
  rcases h.2 with ⟨rfl, rfl⟩ | ⟨g, cap, cur, rfl, _, _, hc, _⟩
  · exact ⟨none, 0, rfl, Nat.le_refl _, fun a ha => by cases ha⟩
  · exact ⟨_, cap, rfl, hc, fun a ha => by cases ha; rfl⟩
theorem BRow.reads {r : Role} {v : Value} {xs : List Int} (h : BRow b W col r v xs) : ∃ A c, v = .slice A xs.length c ∧ xs.length ≤ c ∧ ReadsInt W .u8 A xs.length xs ∧ ∀ a, A = some a → a.block < W.heap.size ∧ col a.block = r := by
  obtain ⟨A, c, rfl, hc, hb⟩ := own_form h.own
  exact ⟨A, c, rfl, hc, own_reads' h.own, fun a ha => ⟨own_lt h.own _ (hb a ha), h.tag _ (hb a ha)⟩⟩
theorem BRow.fresh {B : Nat} {v : Value} {xs : List Int} (h : W.ownsRow B 5 1 v xs.length (nums .u8 xs)) (hb : b ≤ B) (col : RCol) (new : RCol) (r : Role) (hn : ∀ k, B ≤ k → new k = r) : BRow b W (colN col B new) r v xs :=
  ⟨⟨h.1, by rcases h.2 with h2 | ⟨g, cap, cur, e, hg, r⟩; exact .inl h2; exact .inr ⟨g, cap, cur, e, Nat.le_trans hb hg, r⟩⟩, fun k hk => (colN_ge (own_base h k hk)).trans (hn k (own_base h k hk))⟩
theorem own_lower {W : World} {b B e size n : Nat} {v : Value} {xs : List Value} (h : W.ownsRow B e size v n xs) (hb : b ≤ B) : W.ownsRow b e size v n xs :=
  ⟨h.1, by rcases h.2 with h2 | ⟨g, cap, cur, e1, hg, r⟩; exact .inl h2; exact .inr ⟨g, cap, cur, e1, Nat.le_trans hb hg, r⟩⟩
theorem own_take {W : World} {b e size n m c : Nat} {A : Option Addr} {xs : List Value} (h : W.ownsRow b e size (.slice A n c) n xs) (hm : m ≤ n) : W.ownsRow b e size (.slice A m c) m (xs.take (m * size)) := by
  obtain ⟨h1, h2⟩ := h
  have hle : m * size ≤ n * size := Nat.mul_le_mul_right _ hm
  refine ⟨by rw [List.length_take, h1]; omega, ?_⟩
  rcases h2 with ⟨e1, rfl⟩ | ⟨g, cap, cur, e1, hg, hh, hc, hx, hs, ht⟩
  · injection e1 with a1 a2 a3
    subst a1 a3
    obtain rfl : m = 0 := by omega
    exact .inl ⟨rfl, rfl⟩
  · injection e1 with a1 a2 a3
    subst a1 a3
    exact .inr ⟨g, c, cur, rfl, hg, hh, by omega, hx, hs, by rw [← ht, List.take_take, Nat.min_eq_left hle]⟩
structure PFile (b : Nat) (W : World) (col : RCol) (f : Fl) (g : Nat) : Prop where
  ex : ∃ v, W.heap[g]? = some (.cells #[v, .int .i64 f.f2] 98 (0, 0)) ∧ BRow b W col (.pb f.f0) v f.f1
  tag : col g = .pf f.f0
  le : b ≤ g
theorem PFile.ch {f : Fl} {g : Nat} (h : PFile b W col f g) (m : Ch b W col W' col' S) (h1 : ¬ S (.pf f.f0)) (h2 : ¬ S (.pb f.f0)) : PFile b W' col' f g := by
  obtain ⟨v, hg, hr⟩ := h.ex
  exact ⟨⟨v, m.blk hg (by rw [h.tag]; exact h1), hr.ch m h2⟩, (m.same g (blk_lt hg)).trans h.tag, h.le⟩
def ptrE (v : Value) : Option (DataW Unit × List MemPlace) := match v with
  | .pointer (some ⟨g, 0, none⟩) => some (.lit (.int .i64 g), [])
  | .pointer none => some (.nil, [])
  | _ => none
theorem ptrE_mk (g : Nat) : ptrE (.pointer (some ⟨g, 0, none⟩)) = some (.lit (.int .i64 g), []) := rfl
theorem ptrE_nil : ptrE (.pointer none) = some (.nil, []) := rfl
theorem ptrE_inv {v : Value} {y : DataW Unit × List MemPlace} (h : ptrE v = some y) : ∃ p : Option Addr, v = .pointer p ∧ ((∃ g : Nat, p = some ⟨g, 0, none⟩ ∧ y.1 = .lit (.int .i64 g)) ∨ (p = none ∧ y.1 = .nil)) := by
  unfold ptrE at h
  split at h
  · cases h; exact ⟨_, rfl, .inl ⟨_, rfl, rfl⟩⟩
  · cases h; exact ⟨_, rfl, .inr ⟨rfl, rfl⟩⟩
  · cases h
theorem lawS : Keyed Try.prog 9 := string_keyed Try.underlying9
structure Dk where
  fs : List Fl
  down : Bool
  units : Int
  after : Int
  calls : Int
structure Dk.Ok (d : Dk) : Prop where
  rises : Rises d.fs
  names : ∀ f ∈ d.fs, Nm f.f0 = true
  size : ∀ f ∈ d.fs, f.f1.length ≤ 2097152 ∧ 0 ≤ f.f2 ∧ f.f2 ≤ f.f1.length
  few : d.fs.length ≤ 40
  u0 : -1 ≤ d.units
  u1 : d.units ≤ 9223372036854775807
  a0 : 0 ≤ d.after
  a1 : d.after ≤ 9223372036854775807
  c0 : 0 ≤ d.calls
  c1 : d.calls ≤ 9223372036854775807
structure PDm (b : Nat) (W : World) (col : RCol) (g : Nat) (d : Dk) (m : Nat) (gb : ByteArray → Nat) (ar : Bool) (u : Int) : Prop where
  blk : PB W g (.map (some m)) d.down ar u d.after d.calls
  tag : col g = .pd
  le : b ≤ g
  arm : ar = decide (0 ≤ d.units)
  unit : 0 ≤ d.units → u = d.units
  map : W.ownsMap Try.prog 9 ptrE m d.fs.length (mapD d.fs gb)
  mtag : col m = .pm
  mle : b ≤ m
  files : ∀ f ∈ d.fs, PFile b W col f (gb f.f0)
def PD (b : Nat) (W : World) (col : RCol) (g : Nat) (d : Dk) : Prop := ∃ m gb ar u, PDm b W col g d m gb ar u
theorem PDm.ch {g m : Nat} {d : Dk} {gb : ByteArray → Nat} {ar : Bool} {u : Int} (h : PDm b W col g d m gb ar u) (c : Ch b W col W' col' S) (hS : ∀ r, isP r → ¬ S r) : PDm b W' col' g d m gb ar u :=
  ⟨c.blk h.blk (by rw [h.tag]; exact hS _ trivial), (c.same g (blk_lt h.blk)).trans h.tag, h.le, h.arm, h.unit,
   by obtain ⟨es, clock, hb, r⟩ := h.map; exact ⟨es, clock, c.blk hb (by rw [h.mtag]; exact hS _ trivial), r⟩,
   (c.same m h.map.lt).trans h.mtag, h.mle, fun f hf => (h.files f hf).ch c (hS _ trivial) (hS _ trivial)⟩
theorem PD.ch {g : Nat} {d : Dk} (h : PD b W col g d) (c : Ch b W col W' col' S) (hS : ∀ r, isP r → ¬ S r) : PD b W' col' g d := by
  obtain ⟨m, gb, ar, u, h⟩ := h
  exact ⟨m, gb, ar, u, h.ch c hS⟩
def flatL (L : List (Fl × Value)) : List Value := L.flatMap fun p => [.string p.1.f0, p.2, .int .i64 p.1.f2]
structure RL (b : Nat) (W : World) (col : RCol) (v : Value) (fs : List Fl) (L : List (Fl × Value)) : Prop where
  fst : L.map (·.1) = fs
  own : W.ownsRow b 74 3 v fs.length (flatL L)
  tag : ∀ k, v.ownBlock = some k → col k = .rl
  rows : ∀ p ∈ L, BRow b W col .rb p.2 p.1.f1
structure RDm (b : Nat) (W : World) (col : RCol) (g : Nat) (d : Dk) (v : Value) (L : List (Fl × Value)) : Prop where
  blk : RB W g v d.down d.units d.after d.calls
  tag : col g = .rd
  le : b ≤ g
  list : RL b W col v d.fs L
def RD (b : Nat) (W : World) (col : RCol) (g : Nat) (d : Dk) : Prop := ∃ v L, RDm b W col g d v L
theorem RL.ch {v : Value} {fs : List Fl} {L : List (Fl × Value)} (h : RL b W col v fs L) (c : Ch b W col W' col' S) (h1 : ¬ S .rl) (h2 : ¬ S .rb) : RL b W' col' v fs L :=
  ⟨h.fst, own_move h.own (fun k hk => c.block k (own_lt h.own k hk) (by rw [h.tag k hk]; exact h1)), fun k hk => (c.same k (own_lt h.own k hk)).trans (h.tag k hk), fun p hp => (h.rows p hp).ch c h2⟩
theorem RDm.ch {g : Nat} {d : Dk} {v : Value} {L : List (Fl × Value)} (h : RDm b W col g d v L) (c : Ch b W col W' col' S) (hS : ∀ r, isR r → ¬ S r) : RDm b W' col' g d v L :=
  ⟨c.blk h.blk (by rw [h.tag]; exact hS _ trivial), (c.same g (blk_lt h.blk)).trans h.tag, h.le, h.list.ch c (hS _ trivial) (hS _ trivial)⟩
theorem RD.ch {g : Nat} {d : Dk} (h : RD b W col g d) (c : Ch b W col W' col' S) (hS : ∀ r, isR r → ¬ S r) : RD b W' col' g d := by
  obtain ⟨v, L, h⟩ := h
  exact ⟨v, L, h.ch c hS⟩
theorem flatL_len (L : List (Fl × Value)) : (flatL L).length = L.length * 3 := by
  induction L with
  | nil => rfl
  | cons p r ih => show (_ ++ flatL r).length = _; rw [List.length_append, ih]; simp; omega
theorem flatL_cons (p : Fl × Value) (r : List (Fl × Value)) : flatL (p :: r) = [.string p.1.f0, p.2, .int .i64 p.1.f2] ++ flatL r := rfl
theorem flatL_append (L M : List (Fl × Value)) : flatL (L ++ M) = flatL L ++ flatL M := by simp [flatL]
theorem flatL_get : ∀ (L : List (Fl × Value)) (i : Nat) (p : Fl × Value), L[i]? = some p → (flatL L)[i * 3]? = some (.string p.1.f0) ∧ (flatL L)[i * 3 + 1]? = some p.2 ∧ (flatL L)[i * 3 + 2]? = some (.int .i64 p.1.f2)
  | [], i, p, h => by simp at h
  | q :: r, 0, p, h => by simp at h; subst h; exact ⟨rfl, rfl, rfl⟩
  | q :: r, i + 1, p, h => by
    have ih := flatL_get r i p (by simpa using h)
    rw [flatL_cons, show (i + 1) * 3 = i * 3 + 3 by omega]
    exact ih
theorem flatL_take (L : List (Fl × Value)) (m : Nat) : (flatL L).take (m * 3) = flatL (L.take m) := by
  induction L generalizing m with
  | nil => simp [flatL]
  | cons p r ih =>
    cases m with
    | zero => simp [flatL]
    | succ m =>
      rw [List.take_succ_cons, flatL_cons, flatL_cons, show (m + 1) * 3 = m * 3 + 3 by omega]
      show [_, _, _] ++ (flatL r).take (m * 3) = _
      rw [ih]
theorem flatL_drop (L : List (Fl × Value)) (m : Nat) : (flatL L).drop (m * 3) = flatL (L.drop m) := by
  induction L generalizing m with
  | nil => simp [flatL]
  | cons p r ih =>
    cases m with
    | zero => simp
    | succ m =>
      rw [List.drop_succ_cons, flatL_cons, show (m + 1) * 3 = m * 3 + 3 by omega]
      exact ih m
theorem RL.reads {v : Value} {fs : List Fl} {L : List (Fl × Value)} (h : RL b W col v fs L) : ∃ A c, v = .slice A fs.length c ∧ fs.length ≤ c ∧ Kd.C k74 W A fs.length fs := by
  obtain ⟨hf, hown, htag, hrows⟩ := h
  subst hf
  have hR : Reps (k74.K W) 3 (L.map (·.1)) (flatL L) := by
    clear hown htag
    induction L with
    | nil => exact Reps.none _ _
    | cons p r ih =>
      obtain ⟨A, c, hv, hc, hrd, _⟩ := (hrows p (by simp)).reads
      have h1 : k74.K W p.1 [.string p.1.f0, p.2, .int .i64 p.1.f2] := by rw [hv]; exact k74_mk W p.1 hc (Kd.C_of_reads (d := (0 : Int)) (readsInt_of.1 hrd))
      have := Kd.reps_append ((Reps.none (k74.K W) 3).snoc h1 rfl) (ih (fun q hq => hrows q (List.mem_cons_of_mem _ hq)))
      simpa [flatL_cons] using this
  obtain ⟨A, c, hv, hc⟩ := own_le_cap hown
  obtain ⟨A', c', hv', hrd⟩ := own_reads_row hown hR (by simp)
  rw [hv] at hv'
  injection hv' with e1 e2 e3
  subst e1
  exact ⟨A, c, hv, hc, hrd⟩
end
theorem infoB : (Try.prog.info? 5).map (fun i => (i.zero, i.size, i.bytes)) = some (some (.int .u8 0), 1, 1) := by kernel_rfl
theorem infoF : (Try.prog.info? 74).map (fun i => (i.zero, i.size, i.bytes)) = some (some (.agg #[.string ⟨#[]⟩, .slice none 0 0, .int .i64 0]), 3, 48) := by kernel_rfl
def NewB (w w' : World) (e : Ending) (xs : List Int) : Prop := ∃ v, e = .returned v ∧ w'.ownsRow w.heap.size 5 1 v xs.length (nums .u8 xs) ∧ Below w.heap.size w w'
set_option maxRecDepth 100000 in
set_option maxHeartbeats 2000000 in
theorem copied_calls (A : Option Addr) (c : Nat) (xs : List Int) (w : World) (hl : xs.length ≤ 140737488355328) (hrd : ReadsInt w .u8 A xs.length xs) :
    Calls Try.prog 36 #[.slice A xs.length c] w fun e w' => NewB w w' e xs := by
  obtain ⟨i0, hi, hzz⟩ := Option.map_eq_some_iff.1 infoB
  simp only [Prod.mk.injEq] at hzz
  obtain ⟨hz0, hz1, hz2⟩ := hzz
  have HR := Aside0.mk hrd
  have HL := Aside0.mk hl
  clear hrd hl
  go_enter Try.func36, Try.ntmps36
  go_wp2_with (first
    | (at_make; refine wpList_make_own _ rfl _ _ 34 rfl w.heap.size 5 i0 (.int .u8 0) 1 Try.underlying34 hi hz0 hz1 .i64 .i64 _ xs.length rfl rfl rfl (by have := HL.out; rw [hz2]; omega) (by have := HL.out; unfold maxLen; omega) (Nat.le_refl _) ?_; intro w1 hrow1 hg1; have HO := Aside0.mk hrow1; have HB := Aside0.mk ((Below.refl w.heap.size w).grown hg1 (Nat.le_refl _) (fun j hj => by cases hj)); clear hrow1 hg1)
    | ((with_reducible refine gate_builtin (b := .append) (xs := #[.tmp 7, .tmp 8]) rfl ?_); at_builtin; refine print_append_row (w0 := w) w.heap.size rfl (.tmp 7) (.tmp 8) 34 5 .u8 1 rfl Try.underlying34 infoB (by decide) (.slice (some ⟨w.heap.size, 0, none⟩) 0 xs.length) [] xs A xs.length c rfl rfl ?aO ?aR ?aB ?aS ?aL ?_; (case aO => exact HO.out); (case aR => exact HR.out.below HB.out); (case aB => exact HB.out); (case aS => exact HB.out.size); (case aL => have := HL.out; simp; omega); intro v1 w2 ho2 hb2 _ _; have HO2 := Aside0.mk ho2; have HB2 := Aside0.mk hb2; clear ho2 hb2))
  go_ret
  exact ⟨v1, rfl, by simpa using HO2.out, HB2.out⟩
set_option maxRecDepth 100000 in
set_option maxHeartbeats 2000000 in
theorem clone_calls (A : Option Addr) (c : Nat) (xs : List Int) (w : World) (hl : xs.length ≤ 140737488355328) (hc : xs.length ≤ c) (hrd : ReadsInt w .u8 A xs.length xs) :
    Calls Try.prog 35 #[.slice A xs.length c] w fun e w' => NewB w w' e xs := by
  have HR := Aside0.mk hrd
  have HL := Aside0.mk hl
  cases A with
  | none =>
    have h0 : xs.length = 0 := by
      rcases Nat.eq_zero_or_pos xs.length with h | h
      · exact h
      · obtain ⟨ad, h1, _⟩ := hrd.2.2 h
        cases h1
    obtain rfl : xs = [] := List.eq_nil_of_length_eq_zero h0
    clear hrd hl
    have hn : ∀ W, (binOp .eql 34 (.slice none 0 c) (.slice none 0 0)).run Try.prog W = .ok (.bool true) W := fun W => Lib.run_eql_slice_nil_nil W 0 c Try.underlying34
    go_enter Try.func35, Try.ntmps35
    go_wp2
    go_ret
    exact ⟨_, rfl, own_nil _ _ _ _, Below.refl _ _⟩
  | some a =>
    clear hrd hl
    have hn : ∀ W, (binOp .eql 34 (.slice (some a) xs.length c) (.slice none 0 0)).run Try.prog W = .ok (.bool false) W := fun W => Lib.run_eql_slice_some_nil W a xs.length c Try.underlying34
    go_enter Try.func35, Try.ntmps35
    go_wp2_with ((with_reducible refine gate_builtin (b := .append) (xs := #[.tmp 5, .tmp 6]) rfl ?_); at_builtin; refine print_append_row (w0 := w) w.heap.size rfl (.tmp 5) (.tmp 6) 34 5 .u8 1 rfl Try.underlying34 infoB (by decide) (.slice (some ⟨w.heap.size, 0, none⟩) 0 0) [] xs (some a) xs.length c rfl rfl ?aO ?aR ?aB ?aS ?aL ?_; (case aO => exact World.ownsRow_made w #[] 0 (Nat.le_refl _) (by simp [maxLen]) rfl); (case aR => exact HR.out.below (below_alloc (Below.refl _ _) _)); (case aB => exact below_alloc (Below.refl _ _) _); (case aS => simp); (case aL => have := HL.out; simp; omega); intro v1 w2 ho2 hb2 _ _; have HO2 := Aside0.mk ho2; have HB2 := Aside0.mk hb2; clear ho2 hb2)
    go_ret
    exact ⟨v1, rfl, by simpa using HO2.out, HB2.out⟩
theorem rdF {fs : List Fl} {i : Nat} {f : Fl} (h : fs[i]? = some f) : rd_T74 fs (i : Int) = f := by
  unfold rd_T74
  rw [Int.toNat_natCast, List.getD_eq_getElem?_getD, h]
  rfl
theorem meas_lt {i q : Nat} (h : i < q) (k : wrap64 ((i : Int) + 1) = (i : Int) + 1) : q - (intOf (.int .i64 (wrap64 ((i : Int) + 1)))).toNat < q - (intOf (.int .i64 (i : Int))).toNat := by
  rw [k]
  show q - ((i : Int) + 1).toNat < q - (i : Int).toNat
  omega
set_option maxRecDepth 100000 in
set_option maxHeartbeats 4000000 in
theorem place_calls (g : Nat) (A : Option Addr) (cap : Nat) (fs : List Fl) (dn : Bool) (u a c : Int) (nm : ByteArray) (w : World) (hG : RB w g (.slice A fs.length cap) dn u a c) (hC : Kd.C k74 w A fs.length fs) (hl : fs.length ≤ 100) :
    Calls Try.prog 38 #[.pointer (some ⟨g, 0, none⟩), .string nm] w fun e w' => e = .returned (.tuple #[.int .i64 (place fs nm), .bool (there fs nm)]) ∧ Drawn0 w w' := by
  have c0 : w.cell? ⟨g, 0, none⟩ = some (.slice A fs.length cap) := (blk_cell hG 0).trans rfl
  have hpl := place_le fs nm
  have hlt0 := place_lt fs nm
  have hge0 := place_ge fs nm
  have hth : there fs nm = match fs[place fs nm]? with | some f => f.f0.toList == nm.toList | none => false := rfl
  generalize place fs nm = q at hpl hlt0 hge0 hth ⊢
  have HC := Aside0.mk hC
  have HP := Aside0.mk hpl
  have HL := Aside0.mk hl
  have hls := Aside0.mk bytesLess_eq
  have hlt := Aside0.mk hlt0
  have hge := Aside0.mk hge0
  have HT := Aside0.mk hth
  clear hG hC hpl hl hlt0 hge0 hth
  go_enter Try.func38, Try.ntmps38
  go_wp2
  go_loopw [6] (fun v6 wq => ∃ i : Nat, i ≤ q ∧ v6 = .int .i64 i ∧ wq = w) (fun v6 _ => q - (intOf v6).toNat)
  case atStart => exact ⟨0, by omega, rfl, rfl⟩
  case round =>
    obtain ⟨i, hi, rfl, rfl⟩ := hrel
    have hpl := HP.out
    have hl := HL.out
    by_cases h1 : i < q
    · obtain ⟨f, hf⟩ : ∃ f, fs[i]? = some f := ⟨_, List.getElem?_eq_getElem (by omega)⟩
      obtain ⟨ad, A1, c1, hA, x0, x1, x2, _, _⟩ := at_T74 HC.out (i : Int) (by omega) (by omega)
      rw [rdF hf, Int.toNat_natCast] at x0 x1 x2
      subst hA
      have hlt : Op.bytesLess f.f0.toList nm.toList = true := by rw [hls.out]; exact decide_eq_true (hlt.out i _ h1 hf)
      have k2 : (i : Int) < (fs.length : Int) := by omega
      have k3 : wrap64 ((i : Int) + 1) = ((i : Int) + 1) := PA.wr (by omega) (by omega)
      have H1 := Aside0.mk (Nat.succ_le_of_lt h1)
      have HE := Aside0.mk (congrArg (Value.int .i64) (show wrap64 ((i : Int) + 1) = ((i + 1 : Nat) : Int) from k3))
      have HM := Aside0.mk (meas_lt h1 k3)
      clear hf h1 hpl hl hi
      go_wp2
      exact ⟨⟨i + 1, H1.out, HE.out, trivial⟩, HM.out⟩
    · obtain rfl : i = q := by omega
      by_cases h2 : i < fs.length
      · obtain ⟨f, hf⟩ : ∃ f, fs[i]? = some f := ⟨_, List.getElem?_eq_getElem (by omega)⟩
        obtain ⟨ad, A1, c1, hA, x0, x1, x2, _, _⟩ := at_T74 HC.out (i : Int) (by omega) (by omega)
        rw [rdF hf, Int.toNat_natCast] at x0 x1 x2
        subst hA
        have hlt : Op.bytesLess f.f0.toList nm.toList = false := by rw [hls.out]; exact decide_eq_false (hge.out _ hf)
        have k2 : (i : Int) < (fs.length : Int) := by omega
        have k4 : (0 : Int) ≤ (i : Int) := by omega
        have ht : there fs nm = (f.f0.toList == nm.toList) := by rw [HT.out, hf]
        have HT := Aside0.mk ht
        clear hf h1 h2 hpl hl hi ht
        go_wp2
        go_quiet (fail)
        go_wp2
        go_ret2
        exact ⟨by rw [HT.out]; rfl, by first | exact Drawn0.refl _ | exact (Drawn0.refl _).step _⟩
      · have k2 : ¬ (i : Int) < (fs.length : Int) := by omega
        have k1 : decide ((i : Int) < (fs.length : Int)) = false := decide_eq_false k2
        have k5 : decide (i < fs.length) = false := decide_eq_false h2
        have ht : there fs nm = false := by rw [HT.out, List.getElem?_eq_none (by omega)]
        have HT := Aside0.mk ht
        clear h1 h2 hpl hl hi ht
        go_wp2
        go_quiet (fail)
        go_wp2
        go_ret2
        exact ⟨by rw [HT.out]; rfl, by first | exact Drawn0.refl _ | exact (Drawn0.refl _).step _⟩
section
variable {P : Program} {ops : Array Oper} {rest : List Oper} {o : Oper} {a : Act} {Q : Exit → Act → World → Prop}
theorem append_rows {w0 W : World} (base : Nat) (hgd : o.guard = none) (s x : Operand) (t e : TypeId) (z : Value) (size bytes : Nat)
    (ho : o.op = .call { callee := .builtin .append, args := #[s, x], argTypes := #[t, t] })
    (ht : P.underlying t = some (.slice e)) (hinfo : (P.info? e).map (fun i => (i.zero, i.size, i.bytes)) = some (some z, size, bytes)) (hz : z.cells.size = size) (hs0 : 0 < size) (hb0 : 0 < bytes)
    (v : Value) (n m c : Nat) (xs ys : List Value) (A : Option Addr) (hs : a.eval s = v) (hx : a.eval x = .slice A m c)
    (HO : W.ownsRow base e size v n xs) (hys : ys.length = m * size) (h0 : A = none → m = 0) (HR : ∀ ad, A = some ad → ∀ j u, ys[j]? = some u → W.cell? (ad.add j) = some u) (h1 : ∀ u ∈ ys, u.oneCell' = true)
    (HB : Below base w0 W) (hbase : base ≤ W.heap.size) (hl : (n + m) * bytes ≤ 140737488355328)
    (h : ∀ v1 w1, w1.ownsRow base e size v1 (n + m) (xs ++ ys) → Below base w0 w1 → W.grownBy w1 v.ownBlock → (v1.ownBlock = v.ownBlock ∨ ∃ b, v1.ownBlock = some b ∧ W.heap.size ≤ b) → wpList P ops Q rest (a.put o.dst v1) w1) :
    wpList P ops Q (o :: rest) a W := by
  obtain ⟨i0, hi, hzz⟩ := Option.map_eq_some_iff.1 hinfo
  simp only [Prod.mk.injEq] at hzz
  obtain ⟨hz0, hz1, hz2⟩ := hzz
  have hlen : n + m ≤ 140737488355328 := Nat.le_trans (Nat.le_mul_of_pos_right _ hb0) hl
  have hrun : ∃ v1 w1, (Builtin.append_ #[t, t] o.type #[v, .slice A m c]).run P W = .ok v1 w1 ∧ w1.ownsRow base e size v1 (n + m) (xs ++ ys) ∧ W.grownBy w1 v.ownBlock ∧ (v1.ownBlock = v.ownBlock ∨ v1.ownBlock = some W.heap.size) := by
    rcases A with _ | ad
    · obtain rfl := h0 rfl
      obtain rfl : ys = [] := List.eq_nil_of_length_eq_zero (by omega)
      refine ⟨v, W, ?_, by simpa using HO, World.grownBy.refl W _, .inl rfl⟩
      rcases HO.2 with ⟨rfl, hn⟩ | ⟨g, cap, cur, rfl, _, _, hnc, _⟩
      · simp [Builtin.append_, run_underlying ht, sizeOf, typeInfo, hi, Builtin.lenOf, Builtin.firstCells, loadCells, loadCellsFrom]
      · simp [Builtin.append_, run_underlying ht, sizeOf, typeInfo, hi, Builtin.lenOf, Builtin.firstCells, hnc, storeCells, loadCells, loadCellsFrom]
    · obtain ⟨v1, w1, hr, h2, h3, _, h5⟩ := run_append_own_at (P := P) W base t o.type e i0 z size bytes ht hi hz0 hz1 hz2 hz hs0 v n xs HO ad m c ys hys (HR ad rfl) h1 (by simp only [maxLen]; omega) hl hbase
      exact ⟨v1, w1, hr, h2, h3, h5⟩
  obtain ⟨v1, w1, hr, hown, hg, hat⟩ := hrun
  refine wpList_plain hgd fun K hK => ?_
  unfold Oper.wp execOp
  simp only [ho, resolve, invoke, builtin, Sem.run_bind, Sem.run_pure, Result.andThen_ok, List.map_toArray, List.map_cons, List.map_nil, hs, hx, hr]
  refine hK _ _ (h v1 w1 hown (HB.grown hg hbase (own_base HO)) hg ?_)
  rcases hat with hat | hat
  · exact .inl hat
  · exact .inr ⟨_, hat, Nat.le_refl _⟩
end
theorem own_news {W : World} {b e size n c : Nat} {A : Option Addr} {xs : List Value} (h : W.ownsRow b e size (.slice A n c) n xs) (k : Nat) : ∀ ad, A.map (fun a => a.add k) = some ad → ∀ j u, (xs.drop k)[j]? = some u → W.cell? (ad.add j) = some u := by
  intro ad ha j u hu
  rcases h.2 with ⟨e1, _⟩ | ⟨g, cap, cur, e1, hg, hh, hc, hx, hs, ht⟩
  · injection e1 with a1 a2 a3
    subst a1
    cases ha
  · injection e1 with a1 a2 a3
    subst a1
    injection ha with ha
    subst ha
    rw [List.getElem?_drop] at hu
    have := h.cells (g := g) rfl (k + j) u hu
    show W.cell? _ = _
    rw [show ((⟨g, 0, none⟩ : Addr).add k).add j = (⟨g, 0, none⟩ : Addr).add (k + j) by unfold Addr.add; by_cases h1 : k = 0 <;> by_cases h2 : j = 0 <;> simp [h1, h2, Nat.add_assoc]]
    exact this
theorem take_news {W : World} {b e size n c k : Nat} {A : Option Addr} {xs : List Value} (h : W.ownsRow b e size (.slice A n c) n xs) : ∀ ad, A = some ad → ∀ j u, (xs.take k)[j]? = some u → W.cell? (ad.add j) = some u := by
  intro ad ha j u hu
  have hj : j < k := by
    have := (List.getElem?_eq_some_iff.1 hu).1
    rw [List.length_take] at this; omega
  rw [List.getElem?_take_of_lt hj] at hu
  have := own_news h 0 ad (by rw [ha]; rfl) j u (by simpa using hu)
  exact this
theorem if_news {W : World} {b e n c size : Nat} {ad : Addr} {xs : List Value} (h : W.ownsRow b e size (.slice (some ad) n c) n xs) (hc : n ≤ c) (k : Nat) : ∀ ad', (if c = k then some ad else some (ad.add (k * size))) = some ad' → ∀ j u, (xs.drop (k * size))[j]? = some u → W.cell? (ad'.add j) = some u := by
  intro ad' ha j u hu
  split at ha
  · rename_i hk
    have : xs.drop (k * size) = [] := List.drop_eq_nil_of_le (by rw [h.1, ← hk]; exact Nat.mul_le_mul_right _ hc)
    rw [this] at hu
    simp at hu
  · exact own_news h (k * size) ad' ha j u hu
theorem own_none {W : World} {b e size n c : Nat} {xs : List Value} (h : W.ownsRow b e size (.slice none n c) n xs) : n = 0 := by
  rcases h.2 with ⟨e1, h1⟩ | ⟨g, cap, cur, e1, _⟩
  · exact h1
  · injection e1 with a1; cases a1
theorem Ch.set {b : Nat} {W W' : World} {col col' : RCol} {S : Role → Prop} (m : Ch b W col W' col' S) {p : Addr} (hg : b ≤ p.block) (hS : S (col' p.block)) (v : Value) : Ch b W col (W'.setCell p v) col' S :=
  ⟨m.below.setCell hg v, m.le, m.same, fun k hk hn => (Below.heap_setCell W' p v k (fun e => hn (by rw [← m.same k hk, e]; exact hS))).trans (m.block k hk hn)⟩
theorem Ch.one_set {b : Nat} {W : World} {col : RCol} {g : Nat} (hb : b ≤ W.heap.size) (hg : b ≤ g) (i : Nat) (v : Value) : Ch b W col (W.setCell ⟨g, i, none⟩ v) col (fun r => r = col g) :=
  Ch.set (S := fun r => r = col g) (Ch.refl hb) (p := ⟨g, i, none⟩) hg rfl v
theorem flatL_one (L : List (Fl × Value)) (p : Fl × Value) : flatL L ++ [.string p.1.f0, p.2, .int .i64 p.1.f2] = flatL (L ++ [p]) := by simp [flatL]
theorem BRow.one {b : Nat} {W : World} {col : RCol} {r : Role} {v : Value} {xs : List Int} (h : BRow b W col r v xs) : v.oneCell' = true := by
  obtain ⟨A, c, rfl, _⟩ := h.reads
  rfl
theorem flatL_one' {b : Nat} {W : World} {col : RCol} {r : Role} : ∀ {L : List (Fl × Value)}, (∀ p ∈ L, BRow b W col r p.2 p.1.f1) → ∀ u ∈ flatL L, u.oneCell' = true
  | [], _, u, h => by simp [flatL] at h
  | p :: L, hp, u, h => by
    rw [flatL_cons, List.mem_append] at h
    rcases h with h | h
    · simp only [List.mem_cons, List.not_mem_nil, or_false] at h
      rcases h with rfl | rfl | rfl
      · rfl
      · exact (hp p (by simp)).one
      · rfl
    · exact flatL_one' (fun q hq => hp q (List.mem_cons_of_mem _ hq)) u h
def RPost (b : Nat) (w : World) (col : RCol) (g : Nat) (d : Dk) (w' : World) : Prop := ∃ col', Ch b w col w' col' isR ∧ RD b w' col' g d
def PPost (b : Nat) (w : World) (col : RCol) (g : Nat) (d : Dk) (w' : World) : Prop := ∃ col', Ch b w col w' col' isP ∧ PD b w' col' g d
theorem add_end {b g : Nat} {d : Dk} {v v3 : Value} {L : List (Fl × Value)} {col : RCol} {f : Fl} {fv : Value} {w W : World} {q n : Nat} (hR : RDm b w col g d v L) (hF : BRow b w col .rb fv f.f1) (hb : b ≤ w.heap.size) (hB : Below w.heap.size w W) (hq : q = place d.fs f.f0)
    (hn : n = d.fs.length + 1) {B : Nat} (hBs : w.heap.size ≤ B) (ho : W.ownsRow B 74 3 v3 n ((flatL L).take (q * 3) ++ [.string f.f0, fv, .int .i64 f.f2] ++ (flatL L).drop (q * 3))) :
    RPost b w col g { d with fs := addF d.fs f } (W.setCell ⟨g, 0, none⟩ v3) := by
  have hc0 : Ch b w col W (colN col w.heap.size fun _ => .rl) (fun _ => False) := Ch.of_new hB hb _
  have hc := hc0.mono (S' := isR) (fun _ h => h.elim)
  have hgl := blk_lt hR.blk
  have htag : colN col w.heap.size (fun _ => .rl) g = .rd := (colN_lt hgl).trans hR.tag
  have hne : ∀ k, B ≤ k → k ≠ g := fun k hk e => by omega
  have hL1 : (L.take q ++ (f, fv) :: L.drop q).map (·.1) = addF d.fs f := by
    rw [List.map_append, List.map_cons, List.map_take, List.map_drop, hR.list.fst, hq]
    rfl
  have hflat : (flatL L).take (q * 3) ++ [.string f.f0, fv, .int .i64 f.f2] ++ (flatL L).drop (q * 3) = flatL (L.take q ++ (f, fv) :: L.drop q) := by
    rw [flatL_take, flatL_drop, flatL_append, flatL_cons]
    simp
  rw [hflat] at ho
  have hs : Ch b W (colN col w.heap.size fun _ => .rl) (W.setCell ⟨g, 0, none⟩ v3) (colN col w.heap.size fun _ => .rl) (fun r => r = .rd) := htag ▸ Ch.one_set (Nat.le_trans hb hB.size) hR.le 0 v3
  have hg1 : W.heap[g]? = some (.cells #[v, .bool d.down, .int .i64 d.units, .int .i64 d.after, .int .i64 d.calls] 100 (0, 0)) := (hB.block _ hgl).trans hR.blk
  refine ⟨colN col w.heap.size fun _ => .rl, hc.trans (hs.mono fun r h => h ▸ trivial), v3, L.take q ++ (f, fv) :: L.drop q, blk_to hg1 (by simp), htag, hR.le, hL1, ?_, ?_, ?_⟩
  · refine own_move (own_lower (by rw [show (addF d.fs f).length = n by rw [addF_len, hn]]; exact ho) (Nat.le_trans hb hBs)) (fun k hk => ?_)
    exact Below.heap_setCell W _ v3 k (hne k (own_base ho k hk))
  · exact fun k hk => colN_ge (Nat.le_trans hBs (own_base ho k hk))
  · intro p hp
    have hp' : BRow b w col .rb p.2 p.1.f1 := by
      rw [List.mem_append, List.mem_cons] at hp
      rcases hp with h | rfl | h
      · exact hR.list.rows _ (List.mem_of_mem_take h)
      · exact hF
      · exact hR.list.rows _ (List.mem_of_mem_drop h)
    exact (hp'.ch hc0 (fun h => h)).ch hs (fun h => by cases h)
set_option maxRecDepth 100000 in
set_option maxHeartbeats 4000000 in
theorem add_calls (b g : Nat) (d : Dk) (v : Value) (L : List (Fl × Value)) (col : RCol) (f : Fl) (fv : Value) (w : World) (hR : RDm b w col g d v L) (hF : BRow b w col .rb fv f.f1) (hl : d.fs.length ≤ 100) :
    Calls Try.prog 39 #[.pointer (some ⟨g, 0, none⟩), .agg #[.string f.f0, fv, .int .i64 f.f2]] w fun e w' => e = .returned (.tuple #[]) ∧ RPost b w col g { d with fs := addF d.fs f } w' := by
  obtain ⟨A, c, rfl, hnc, hKC⟩ := hR.list.reads
  obtain ⟨q, hqe⟩ : ∃ q, q = place d.fs f.f0 := ⟨_, rfl⟩
  have hq := place_le d.fs f.f0
  rw [← hqe] at hq
  have hLl : L.length = d.fs.length := by rw [← hR.list.fst, List.length_map]
  obtain ⟨W1, hW1⟩ : ∃ W1, W1 = w.alloc (.cells #[.string f.f0, fv, .int .i64 f.f2] 74) := ⟨_, rfl⟩
  have hB1 : Below w.heap.size w W1 := by rw [hW1]; exact below_alloc (Below.refl _ _) _
  have hN : W1.heap.size = w.heap.size + 1 := by rw [hW1]; simp
  have hgl := blk_lt hR.blk
  have hg1 : W1.heap[g]? = _ := (hB1.block _ hgl).trans hR.blk
  have hx1 : W1.heap[w.heap.size]? = some (.cells #[.string f.f0, fv, .int .i64 f.f2] 74 (0, 0)) := by rw [hW1]; exact heap_alloc_new w _
  have hgc : ∀ W, Below W1.heap.size W1 W → W.cell? ⟨g, 0, none⟩ = some (.slice A d.fs.length c) := fun W h => (h.cell (show g < W1.heap.size by omega)).trans ((blk_cell hg1 0).trans rfl)
  have hgf : ∀ W, Below W1.heap.size W1 W → W.frozen? ⟨g, 0, none⟩ = false := fun W h => blk_frozen ((h.block g (by omega)).trans hg1) 0
  have hxc : ∀ W, Below W1.heap.size W1 W → W.cell? ⟨w.heap.size, 0, none⟩ = some (.string f.f0) ∧ W.cell? ⟨w.heap.size, 1, none⟩ = some fv ∧ W.cell? ⟨w.heap.size, 2, none⟩ = some (.int .i64 f.f2) :=
    fun W h => ⟨(h.cell (show w.heap.size < W1.heap.size by omega)).trans ((blk_cell hx1 0).trans rfl), (h.cell (show w.heap.size < W1.heap.size by omega)).trans ((blk_cell hx1 1).trans rfl), (h.cell (show w.heap.size < W1.heap.size by omega)).trans ((blk_cell hx1 2).trans rfl)⟩
  have hown1 : W1.ownsRow b 74 3 (.slice A d.fs.length c) d.fs.length (flatL L) := own_move hR.list.own (fun k hk => hB1.block _ (own_lt hR.list.own k hk))
  have hown : ∀ W, Below W1.heap.size W1 W → W.ownsRow b 74 3 (.slice A d.fs.length c) d.fs.length (flatL L) := fun W h => own_move hown1 (fun k hk => h.block _ (own_lt hown1 k hk))
  have hone := flatL_one' hR.list.rows
  have hfone := hF.one
  have hpl : Calls Try.prog 38 #[.pointer (some ⟨g, 0, none⟩), .string f.f0] W1 fun e w' => e = .returned (.tuple #[.int .i64 q, .bool (there d.fs f.f0)]) ∧ Drawn0 W1 w' := by
    rw [hqe]
    exact place_calls g A c d.fs d.down d.units d.after d.calls f.f0 W1 hg1 (Kd.C_below hKC hB1) hl
  have hend : ∀ W v3, Below W1.heap.size W1 W → W.ownsRow W1.heap.size 74 3 v3 (d.fs.length + 1) ((flatL L).take (q * 3) ++ [.string f.f0, fv, .int .i64 f.f2] ++ (flatL L).drop (q * 3)) → _ :=
    fun W v3 h ho => add_end hR hF (by have := hR.le; omega) (hB1.trans (h.mono (by omega))) hqe (by omega) (Nat.le_of_lt (by omega)) ho
  have HG := Aside0.mk hgc
  have HGF := Aside0.mk hgf
  have HX := Aside0.mk hxc
  have HO := Aside0.mk hown
  have HP := Aside0.mk hpl
  have HE := Aside0.mk hend
  have H1 := Aside0.mk hone
  have HF1 := Aside0.mk hfone
  have HL := Aside0.mk hLl
  have HLL := Aside0.mk hl
  have HN' := Aside0.mk hN
  have hA0 : A = none → d.fs.length = 0 := fun h => by subst h; exact own_none hown1
  have HA := Aside0.mk hA0
  have HW1 := Aside0.mk hW1
  have HT : Aside0 (((flatL L).take (q * 3)).length = q * 3) := ⟨by rw [List.length_take, flatL_len]; omega⟩
  have HT2 : Aside0 (((flatL L).drop (q * 3)).length = (d.fs.length - q) * 3) := ⟨by rw [List.length_drop, flatL_len]; omega⟩
  have k1 : (q : Int) ≤ (d.fs.length : Int) := by omega
  have k2 : (0 : Int) ≤ (q : Int) := by omega
  clear hR hF hKC hl hB1 hN hgl hg1 hx1 hgc hgf hxc hown1 hown hone hfone hpl hend hqe hLl hA0 hW1
  go_enter Try.func39, Try.ntmps39
  generalize hn : d.fs.length = n at *
  rcases A with _ | ad
  · obtain rfl : n = 0 := HA.out rfl
    obtain rfl : q = 0 := by omega
    go_wp2_with (first
    | (go_at_call 38; rw [← HW1.out]; refine HP.out.mono ?_; rintro e w2 ⟨rfl, hb⟩; have hbl : Below W1.heap.size W1 w2 := hb.below; clear hb; have c2 := HG.out _ hbl; have HB := Aside0.mk hbl; clear hbl)
    | ((with_reducible refine gate_builtin (b := .append) (xs := #[.tmp 14, .tmp 20]) rfl ?_); at_builtin; refine append_rows (w0 := W1) W1.heap.size rfl (.tmp 14) (.tmp 20) 22 74 (.agg #[.string ⟨#[]⟩, .slice none 0 0, .int .i64 0]) 3 48 rfl Try.underlying22 infoF rfl (by decide) (by decide) (.slice none 0 0) 0 0 _ [] ((flatL L).take (0 * 3)) none rfl rfl ?aO ?aY ?a0 ?aR ?a1 ?aB ?aS ?aL ?_; (case aO => exact own_nil _ _ _ _); (case aY => exact HT.out); (case a0 => exact fun _ => rfl); (case aR => exact fun _ h => by cases h); (case a1 => exact (fun u hu => H1.out u (List.mem_of_mem_take hu))); (case aB => exact HB.out); (case aS => exact HB.out.size); (case aL => have := HLL.out; omega); intro v1 w3 ho hb3 _ _; rw [Nat.zero_add, List.nil_append] at ho; obtain ⟨A1, C1, rfl, _, _⟩ := own_form ho; have c3 := HG.out _ hb3; obtain ⟨x0, x1, x2⟩ := HX.out _ hb3; have HB3 := Aside0.mk hb3; have HO3 := Aside0.mk ho; clear ho hb3 HB)
    | ((with_reducible refine gate_builtin (b := .append) (xs := #[.tmp 22, .tmp 24]) rfl ?_); at_builtin; refine print_append_cells (w0 := W1) (W := w3) W1.heap.size rfl (.tmp 22) (.tmp 24) 22 74 (.agg #[.string ⟨#[]⟩, .slice none 0 0, .int .i64 0]) 3 48 rfl Try.underlying22 infoF rfl (by decide) (by decide) _ 0 _ [.string f.f0, fv, .int .i64 f.f2] rfl rfl rfl ?b1 HO3.out HB3.out HB3.out.size ?bL ?_; (case b1 => intro u hu; simp only [List.mem_cons, List.not_mem_nil, or_false] at hu; rcases hu with rfl | rfl | rfl; rfl; exact HF1.out; rfl); (case bL => have := HLL.out; omega); intro v2 w4 ho4 hb4 _ _; obtain ⟨A2, C2, rfl, _, _⟩ := own_form ho4; have c4 := HG.out _ hb4; have HB4 := Aside0.mk hb4; have HO4 := Aside0.mk ho4; clear ho4 hb4 HB3 HO3)
    | ((with_reducible refine gate_builtin (b := .append) (xs := #[.tmp 26, .tmp 32]) rfl ?_); at_builtin; refine append_rows (w0 := W1) W1.heap.size rfl (.tmp 26) (.tmp 32) 22 74 (.agg #[.string ⟨#[]⟩, .slice none 0 0, .int .i64 0]) 3 48 rfl Try.underlying22 infoF rfl (by decide) (by decide) _ (0 + 1) (0 - 0) _ ((flatL L).take (0 * 3) ++ [.string f.f0, fv, .int .i64 f.f2]) ((flatL L).drop (0 * 3)) _ rfl rfl ?aO ?aY ?a0 ?aR ?a1 ?aB ?aS ?aL ?_; (case aO => exact HO4.out); (case aY => exact HT2.out); (case a0 => exact fun _ => rfl); (case aR => exact fun _ h => by cases h); (case a1 => exact (fun u hu => H1.out u (List.mem_of_mem_drop hu))); (case aB => exact HB4.out); (case aS => exact HB4.out.size); (case aL => have := HLL.out; omega); intro v3 w5 ho5 hb5 _ _; rw [show 0 + 1 + (0 - 0) = 0 + 1 by omega] at ho5; obtain ⟨A3, C3, rfl, _, _⟩ := own_form ho5; have c5 := HG.out _ hb5; have f5 := HGF.out _ hb5; have HB5 := Aside0.mk hb5; have HO5 := Aside0.mk ho5; clear ho5 hb5 HB4 HO4))
    all_goals (go_end0; exact ⟨rfl, HE.out _ _ HB5.out HO5.out⟩)
  · go_wp2_with (first
    | (go_at_call 38; rw [← HW1.out]; refine HP.out.mono ?_; rintro e w2 ⟨rfl, hb⟩; have hbl : Below W1.heap.size W1 w2 := hb.below; clear hb; have c2 := HG.out _ hbl; have HB := Aside0.mk hbl; clear hbl)
    | ((with_reducible refine gate_builtin (b := .append) (xs := #[.tmp 14, .tmp 20]) rfl ?_); at_builtin; refine append_rows (w0 := W1) W1.heap.size rfl (.tmp 14) (.tmp 20) 22 74 (.agg #[.string ⟨#[]⟩, .slice none 0 0, .int .i64 0]) 3 48 rfl Try.underlying22 infoF rfl (by decide) (by decide) (.slice none 0 0) 0 q _ [] ((flatL L).take (q * 3)) (some ad) rfl rfl ?aO ?aY ?a0 ?aR ?a1 ?aB ?aS ?aL ?_; (case aO => exact own_nil _ _ _ _); (case aY => exact HT.out); (case a0 => exact (fun h => by cases h)); (case aR => exact take_news (HO.out _ HB.out)); (case a1 => exact (fun u hu => H1.out u (List.mem_of_mem_take hu))); (case aB => exact HB.out); (case aS => exact HB.out.size); (case aL => have := HLL.out; omega); intro v1 w3 ho hb3 _ _; rw [Nat.zero_add, List.nil_append] at ho; obtain ⟨A1, C1, rfl, _, _⟩ := own_form ho; have c3 := HG.out _ hb3; obtain ⟨x0, x1, x2⟩ := HX.out _ hb3; have HB3 := Aside0.mk hb3; have HO3 := Aside0.mk ho; clear ho hb3 HB)
    | ((with_reducible refine gate_builtin (b := .append) (xs := #[.tmp 22, .tmp 24]) rfl ?_); at_builtin; refine print_append_cells (w0 := W1) (W := w3) W1.heap.size rfl (.tmp 22) (.tmp 24) 22 74 (.agg #[.string ⟨#[]⟩, .slice none 0 0, .int .i64 0]) 3 48 rfl Try.underlying22 infoF rfl (by decide) (by decide) _ q _ [.string f.f0, fv, .int .i64 f.f2] rfl rfl rfl ?b1 HO3.out HB3.out HB3.out.size ?bL ?_; (case b1 => intro u hu; simp only [List.mem_cons, List.not_mem_nil, or_false] at hu; rcases hu with rfl | rfl | rfl; rfl; exact HF1.out; rfl); (case bL => have := HLL.out; omega); intro v2 w4 ho4 hb4 _ _; obtain ⟨A2, C2, rfl, _, _⟩ := own_form ho4; have c4 := HG.out _ hb4; have HB4 := Aside0.mk hb4; have HO4 := Aside0.mk ho4; clear ho4 hb4 HB3 HO3)
    | ((with_reducible refine gate_builtin (b := .append) (xs := #[.tmp 26, .tmp 32]) rfl ?_); at_builtin; refine append_rows (w0 := W1) W1.heap.size rfl (.tmp 26) (.tmp 32) 22 74 (.agg #[.string ⟨#[]⟩, .slice none 0 0, .int .i64 0]) 3 48 rfl Try.underlying22 infoF rfl (by decide) (by decide) _ (q + 1) (n - q) _ ((flatL L).take (q * 3) ++ [.string f.f0, fv, .int .i64 f.f2]) ((flatL L).drop (q * 3)) _ rfl rfl ?aO ?aY ?a0 ?aR ?a1 ?aB ?aS ?aL ?_; (case aO => exact HO4.out); (case aY => exact HT2.out); (case a0 => exact (fun h => by split at h <;> cases h)); (case aR => exact if_news (HO.out _ HB4.out) hnc q); (case a1 => exact (fun u hu => H1.out u (List.mem_of_mem_drop hu))); (case aB => exact HB4.out); (case aS => exact HB4.out.size); (case aL => have := HLL.out; omega); intro v3 w5 ho5 hb5 _ _; rw [show q + 1 + (n - q) = n + 1 by omega] at ho5; obtain ⟨A3, C3, rfl, _, _⟩ := own_form ho5; have c5 := HG.out _ hb5; have f5 := HGF.out _ hb5; have HB5 := Aside0.mk hb5; have HO5 := Aside0.mk ho5; clear ho5 hb5 HB4 HO4))
    all_goals (go_end0; exact ⟨rfl, HE.out _ _ HB5.out HO5.out⟩)
def Dk.fst (d : Dk) (nm : ByteArray) : Int × Dk := ((firstS (Nm nm) d.down d.after d.calls).1, { d with after := (firstS (Nm nm) d.down d.after d.calls).2.1, calls := (firstS (Nm nm) d.down d.after d.calls).2.2 })
def Dk.fell (d : Dk) : Dk := { d with down := true, units := -1, after := 0, calls := 0 }
def Dk.pay (d : Dk) (cost : Int) : Bool × Int × Dk := if d.units < 0 then (true, 0, d) else if cost ≤ d.units then (true, 0, { d with units := d.units - cost }) else (false, d.units, d.fell)
def Dk.chg (d : Dk) (nm : ByteArray) : Int × Dk :=
  if (d.fst nm).1 ≠ 0 then d.fst nm else if there d.fs nm = false then (193, (d.fst nm).2) else if ((d.fst nm).2.pay 1).1 = false then (190, ((d.fst nm).2.pay 1).2.2) else (0, ((d.fst nm).2.pay 1).2.2)
theorem firstS_lit (ok dn : Bool) (a c : Int) : (firstS ok dn a c).1 = 0 ∨ (firstS ok dn a c).1 = 190 ∨ (firstS ok dn a c).1 = 191 ∨ (firstS ok dn a c).1 = 192 := by
  unfold firstS
  split
  · simp
  split
  · simp
  split
  · simp
  split <;> simp
theorem firstS_num (ok dn : Bool) (a c : Int) (h0 : 0 ≤ a) (h1 : 0 ≤ c) : 0 ≤ (firstS ok dn a c).2.1 ∧ (firstS ok dn a c).2.1 ≤ a ∧ 0 ≤ (firstS ok dn a c).2.2 ∧ (firstS ok dn a c).2.2 ≤ c := by
  unfold firstS
  split
  · exact ⟨h0, Int.le_refl _, h1, Int.le_refl _⟩
  split
  · exact ⟨h0, Int.le_refl _, h1, Int.le_refl _⟩
  split
  · exact ⟨h0, Int.le_refl _, h1, Int.le_refl _⟩
  split
  · refine ⟨?_, ?_, ?_, ?_⟩ <;> simp <;> omega
  · refine ⟨?_, ?_, ?_, ?_⟩ <;> simp <;> omega
theorem Dk.Ok.rig {d d' : Dk} (h : d.Ok) (hf : d'.fs = d.fs) (u0 : -1 ≤ d'.units) (u1 : d'.units ≤ 9223372036854775807) (a0 : 0 ≤ d'.after) (a1 : d'.after ≤ 9223372036854775807) (c0 : 0 ≤ d'.calls) (c1 : d'.calls ≤ 9223372036854775807) : d'.Ok :=
  ⟨hf ▸ h.rises, hf ▸ h.names, hf ▸ h.size, hf ▸ h.few, u0, u1, a0, a1, c0, c1⟩
theorem Dk.Ok.fst {d : Dk} (h : d.Ok) (nm : ByteArray) : (d.fst nm).2.Ok := by
  obtain ⟨h1, h2, h3, h4⟩ := firstS_num (Nm nm) d.down d.after d.calls h.a0 h.c0
  have := h.a1
  have := h.c1
  exact h.rig rfl h.u0 h.u1 h1 (Int.le_trans h2 h.a1) h3 (Int.le_trans h4 h.c1)
theorem Dk.Ok.fell {d : Dk} (h : d.Ok) : d.fell.Ok := h.rig rfl (by simp [Dk.fell]) (by simp [Dk.fell]) (by simp [Dk.fell]) (by simp [Dk.fell]) (by simp [Dk.fell]) (by simp [Dk.fell])
theorem pay_fs (d : Dk) (cost : Int) : (d.pay cost).2.2.fs = d.fs := by
  unfold Dk.pay
  split
  · rfl
  split <;> rfl
theorem Dk.Ok.pay {d : Dk} (h : d.Ok) {cost : Int} (hc : 0 ≤ cost) : (d.pay cost).2.2.Ok := by
  unfold Dk.pay
  split
  · exact h
  split
  · have := h.u1
    exact h.rig rfl (by show -1 ≤ d.units - cost; omega) (by show d.units - cost ≤ _; omega) h.a0 h.a1 h.c0 h.c1
  · exact h.fell
theorem chg_fs (d : Dk) (nm : ByteArray) : (d.chg nm).2.fs = d.fs := by
  unfold Dk.chg
  split
  · rfl
  split
  · rfl
  split
  · exact pay_fs _ _
  · exact pay_fs _ _
theorem Dk.Ok.chg {d : Dk} (h : d.Ok) (nm : ByteArray) : (d.chg nm).2.Ok := by
  unfold Dk.chg
  split
  · exact h.fst nm
  split
  · exact h.fst nm
  split
  · exact (h.fst nm).pay (by omega)
  · exact (h.fst nm).pay (by omega)
theorem chg_there {d : Dk} {nm : ByteArray} (h : (d.chg nm).1 = 0) : there d.fs nm = true := by
  unfold Dk.chg at h
  split at h
  · rename_i h1; exact absurd h h1
  split at h
  · cases h
  · rename_i h2; simpa using h2
theorem chg_lit (d : Dk) (nm : ByteArray) : (d.chg nm).1 = 0 ∨ (d.chg nm).1 = 190 ∨ (d.chg nm).1 = 191 ∨ (d.chg nm).1 = 192 ∨ (d.chg nm).1 = 193 := by
  unfold Dk.chg
  split
  · rcases firstS_lit (Nm nm) d.down d.after d.calls with h | h | h | h <;> simp [Dk.fst, h]
  split
  · simp
  split <;> simp
theorem RDm.turn {b g : Nat} {w w' : World} {col : RCol} {d d' : Dk} {v : Value} {L : List (Fl × Value)} (h : RDm b w col g d v L) (hg : w.grownBy w' (some g)) (hB : RB w' g v d'.down d'.units d'.after d'.calls) (hf : d'.fs = d.fs) : RDm b w' col g d' v L := by
  have hc : Ch b w col w' col (fun r => r = .rd) := Ch.of_grown' hg (Nat.le_trans h.le (Nat.le_of_lt (blk_lt h.blk))) h.le h.tag
  exact ⟨hB, h.tag, h.le, hf ▸ h.list.ch hc (fun e => by cases e) (fun e => by cases e)⟩
theorem RDm.ch_of {b g : Nat} {w w' : World} {col : RCol} {d : Dk} {v : Value} {L : List (Fl × Value)} (h : RDm b w col g d v L) (hg : w.grownBy w' (some g)) : Ch b w col w' col isR :=
  Ch.of_grown' hg (Nat.le_trans h.le (Nat.le_of_lt (blk_lt h.blk))) h.le (by rw [h.tag]; trivial)
theorem RDm.placed {b g : Nat} {w : World} {col : RCol} {d : Dk} {v : Value} {L : List (Fl × Value)} (h : RDm b w col g d v L) (hl : d.fs.length ≤ 100) (nm : ByteArray) :
    Calls Try.prog 38 #[.pointer (some ⟨g, 0, none⟩), .string nm] w fun e w' => e = .returned (.tuple #[.int .i64 (place d.fs nm), .bool (there d.fs nm)]) ∧ Drawn0 w w' := by
  obtain ⟨A, c, rfl, _, hK⟩ := h.list.reads
  exact place_calls g A c d.fs d.down d.units d.after d.calls nm w h.blk hK hl
set_option maxRecDepth 100000 in
set_option maxHeartbeats 4000000 in
theorem rpays (g : Nat) (v : Value) (d : Dk) (x : Int) (h0 : 0 ≤ x) (hd : d.Ok) (w : World) (hG : RB w g v d.down d.units d.after d.calls) :
    Calls Try.prog 66 #[.pointer (some ⟨g, 0, none⟩), .int .i64 x] w fun e w' => e = .returned (.tuple #[.bool (d.pay x).1, .int .i64 (d.pay x).2.1]) ∧ w.grownBy w' (some g) ∧ RB w' g v (d.pay x).2.2.down (d.pay x).2.2.units (d.pay x).2.2.after (d.pay x).2.2.calls := by
  unfold Dk.pay
  split
  · exact rpays_free g v d.down d.units d.after d.calls x (by assumption) w hG
  split
  · exact rpays_ok g v d.down d.units d.after d.calls x (by assumption) (by assumption) h0 hd.u1 w hG
  · exact rpays_fall g v d.down d.units d.after d.calls x (by assumption) (by assumption) w hG
set_option maxRecDepth 100000 in
set_option maxHeartbeats 4000000 in
theorem changes_calls (b g : Nat) (d : Dk) (v : Value) (L : List (Fl × Value)) (col : RCol) (nm : ByteArray) (w : World) (hR : RDm b w col g d v L) (hd : d.Ok) (hs : nm.size ≤ 140737488355328) :
    Calls Try.prog 69 #[.pointer (some ⟨g, 0, none⟩), .string nm] w fun e w' => e = .returned (.tuple #[.int .i64 (if (d.chg nm).1 = 0 then place d.fs nm else 0), .int .i64 (d.chg nm).1]) ∧ w.grownBy w' (some g) ∧ RB w' g v (d.chg nm).2.down (d.chg nm).2.units (d.chg nm).2.after (d.chg nm).2.calls := by
  have hl : d.fs.length ≤ 100 := Nat.le_trans hd.few (by omega)
  have hfirst := rfirst g v d.down d.units d.after d.calls nm hs hd.a1 hd.c1 w hR.blk
  have hlit := firstS_lit (Nm nm) d.down d.after d.calls
  have hpay : ∀ w1, RB w1 g v (d.fst nm).2.down (d.fst nm).2.units (d.fst nm).2.after (d.fst nm).2.calls → _ := fun w1 h => rpays g v (d.fst nm).2 1 (by omega) (hd.fst nm) w1 h
  have hplace : ∀ w1, w.grownBy w1 (some g) → RB w1 g v (d.fst nm).2.down (d.fst nm).2.units (d.fst nm).2.after (d.fst nm).2.calls → Calls Try.prog 38 #[.pointer (some ⟨g, 0, none⟩), .string nm] w1 fun e w' => e = .returned (.tuple #[.int .i64 (place d.fs nm), .bool (there d.fs nm)]) ∧ Drawn0 w1 w' := fun w1 h1 h2 => (hR.turn (d' := (d.fst nm).2) h1 h2 rfl).placed hl nm
  have hchg : ∀ e, (firstS (Nm nm) d.down d.after d.calls).1 = e → e ≠ 0 → d.chg nm = (e, (d.fst nm).2) := fun e h1 h2 => by
    unfold Dk.chg
    rw [if_pos (show (d.fst nm).1 ≠ 0 by show (firstS (Nm nm) d.down d.after d.calls).1 ≠ 0; rw [h1]; exact h2)]
    exact Prod.ext h1 rfl
  have hchg3 : (firstS (Nm nm) d.down d.after d.calls).1 = 0 → there d.fs nm = false → d.chg nm = (193, (d.fst nm).2) := fun h1 h2 => by
    unfold Dk.chg
    rw [if_neg (show ¬ (d.fst nm).1 ≠ 0 by show ¬ (firstS (Nm nm) d.down d.after d.calls).1 ≠ 0; rw [h1]; simp), if_pos h2]
  have hchg4 : (firstS (Nm nm) d.down d.after d.calls).1 = 0 → there d.fs nm = true → d.chg nm = (if ((d.fst nm).2.pay 1).1 = false then (190, ((d.fst nm).2.pay 1).2.2) else (0, ((d.fst nm).2.pay 1).2.2)) := fun h1 h2 => by
    unfold Dk.chg
    rw [if_neg (show ¬ (d.fst nm).1 ≠ 0 by show ¬ (firstS (Nm nm) d.down d.after d.calls).1 ≠ 0; rw [h1]; simp), if_neg (by rw [h2]; simp)]
  have HF := Aside0.mk hfirst
  have HP := Aside0.mk hpay
  have HL := Aside0.mk hplace
  have H1 := Aside0.mk hchg
  have H3 := Aside0.mk hchg3
  have H4 := Aside0.mk hchg4
  clear hfirst hpay hplace hchg hchg3 hchg4 hR hd hs hl
  rcases hlit with h0 | h0 | h0 | h0
  · cases ht : there d.fs nm
    · rw [H3.out h0 ht]
      go_enter Try.func69, Try.ntmps69
      go_wp2_with (first | (go_at_call 65; refine HF.out.mono ?_; rintro e w2 ⟨rfl, hg, hB⟩; rw [h0]; have HG := Aside0.mk hg; have HB := Aside0.mk hB; clear hg hB) | (go_at_call 38; refine (HL.out _ HG.out HB.out).mono ?_; rintro e w3 ⟨rfl, hb⟩; have HG3 := Aside0.mk (gb_drawn HG.out hb); have HB3 := Aside0.mk (blk_drawn HB.out hb); clear hb; rw [ht]))
      go_ret2
      exact ⟨rfl, HG3.out, HB3.out⟩
    · rw [H4.out h0 ht]
      cases hp : ((d.fst nm).2.pay 1).1
      · rw [if_pos rfl, if_neg (show ¬ (190 : Int) = 0 by simp)]
        go_enter Try.func69, Try.ntmps69
        go_wp2_with (first | (go_at_call 65; refine HF.out.mono ?_; rintro e w2 ⟨rfl, hg, hB⟩; rw [h0]; have HG := Aside0.mk hg; have HB := Aside0.mk hB; clear hg hB) | (go_at_call 38; refine (HL.out _ HG.out HB.out).mono ?_; rintro e w3 ⟨rfl, hb⟩; have HG3 := Aside0.mk (gb_drawn HG.out hb); have HB3 := Aside0.mk (blk_drawn HB.out hb); clear hb; rw [ht]) | (go_at_call 66; refine (HP.out _ HB3.out).mono ?_; rintro e w4 ⟨rfl, hg, hB⟩; rw [hp]; have HG4 := Aside0.mk (HG3.out.trans hg); have HB4 := Aside0.mk hB; clear hg hB))
        go_ret2
        exact ⟨rfl, HG4.out, HB4.out⟩
      · rw [if_neg (show ¬ true = false by simp), if_pos rfl]
        go_enter Try.func69, Try.ntmps69
        go_wp2_with (first | (go_at_call 65; refine HF.out.mono ?_; rintro e w2 ⟨rfl, hg, hB⟩; rw [h0]; have HG := Aside0.mk hg; have HB := Aside0.mk hB; clear hg hB) | (go_at_call 38; refine (HL.out _ HG.out HB.out).mono ?_; rintro e w3 ⟨rfl, hb⟩; have HG3 := Aside0.mk (gb_drawn HG.out hb); have HB3 := Aside0.mk (blk_drawn HB.out hb); clear hb; rw [ht]) | (go_at_call 66; refine (HP.out _ HB3.out).mono ?_; rintro e w4 ⟨rfl, hg, hB⟩; rw [hp]; have HG4 := Aside0.mk (HG3.out.trans hg); have HB4 := Aside0.mk hB; clear hg hB))
        go_ret2
        exact ⟨rfl, HG4.out, HB4.out⟩
  all_goals
    rw [H1.out _ h0 (by omega)]
    go_enter Try.func69, Try.ntmps69
    go_wp2_with (go_at_call 65; refine HF.out.mono ?_; rintro e w2 ⟨rfl, hg, hB⟩; rw [h0]; have HG := Aside0.mk hg; have HB := Aside0.mk hB; clear hg hB)
    go_ret2
    exact ⟨rfl, HG.out, HB.out⟩
theorem add_at (g k : Nat) : (⟨g, 0, none⟩ : Addr).add k = ⟨g, k, none⟩ := by unfold Addr.add; by_cases h : k = 0 <;> simp [h]
theorem own_set {W : World} {b e size n c gl : Nat} {xs : List Value} (h : W.ownsRow b e size (.slice (some ⟨gl, 0, none⟩) n c) n xs) (j : Nat) (u : Value) (hj : j < xs.length) :
    (W.setCell ⟨gl, j, none⟩ u).ownsRow b e size (.slice (some ⟨gl, 0, none⟩) n c) n (xs.set j u) := by
  obtain ⟨h1, h2⟩ := h
  refine ⟨by rw [List.length_set]; exact h1, .inr ?_⟩
  rcases h2 with ⟨e1, _⟩ | ⟨g, cap, cur, e1, hg, hh, hc, hx, hs, ht⟩
  · cases e1
  · injection e1 with a1 a2 a3
    injection a1 with a1
    injection a1 with a1
    subst a1 a3
    refine ⟨gl, c, cur.setIfInBounds j u, rfl, hg, blk_set hh j u, hc, hx, by rw [Array.size_setIfInBounds]; exact hs, ?_⟩
    rw [Array.toList_setIfInBounds, List.take_set, ht]
theorem flatL_set (L : List (Fl × Value)) (q : Nat) (p : Fl × Value) (h : L[q]? = some p) (s : Int) : (flatL L).set (q * 3 + 2) (.int .i64 s) = flatL (L.set q ({ p.1 with f2 := s }, p.2)) := by
  induction L generalizing q with
  | nil => simp at h
  | cons x r ih =>
    cases q with
    | zero => simp at h; subst h; rfl
    | succ q =>
      rw [List.set_cons_succ, flatL_cons, flatL_cons, ← ih q (by simpa using h), show (q + 1) * 3 + 2 = (q * 3 + 2) + 3 by omega]
      rfl
theorem flatL_put (L : List (Fl × Value)) (q : Nat) (p : Fl × Value) (h : L[q]? = some p) (xs : List Int) (nv : Value) : (flatL L).set (q * 3 + 1) nv = flatL (L.set q ({ p.1 with f1 := xs }, nv)) := by
  induction L generalizing q with
  | nil => simp at h
  | cons x r ih =>
    cases q with
    | zero => simp at h; subst h; rfl
    | succ q =>
      rw [List.set_cons_succ, flatL_cons, flatL_cons, ← ih q (by simpa using h), show (q + 1) * 3 + 1 = (q * 3 + 1) + 3 by omega]
      rfl
section
variable {b g q : Nat} {w : World} {col : RCol} {d : Dk} {v : Value} {L : List (Fl × Value)} {p : Fl × Value}
theorem RDm.len (h : RDm b w col g d v L) : L.length = d.fs.length := by rw [← h.list.fst, List.length_map]
theorem RDm.get (h : RDm b w col g d v L) (hq : q < d.fs.length) : ∃ p, L[q]? = some p ∧ d.fs[q]? = some p.1 := by
  have hq' : q < L.length := by rw [h.len]; exact hq
  refine ⟨L[q], List.getElem?_eq_getElem hq', ?_⟩
  rw [← h.list.fst, List.getElem?_map, List.getElem?_eq_getElem hq']
  rfl
structure LAt (b : Nat) (w : World) (col : RCol) (g : Nat) (v : Value) (n : Nat) (ad : Addr) (c : Nat) : Prop where
  v : v = .slice (some ad) n c
  le : n ≤ c
  eq : ad = ⟨ad.block, 0, none⟩
  tag : col ad.block = .rl
  base : b ≤ ad.block
  lt : ad.block < w.heap.size
theorem RDm.at (h : RDm b w col g d v L) (hq : q < d.fs.length) : ∃ ad c, LAt b w col g v d.fs.length ad c := by
  rcases h.list.own.2 with ⟨_, h0⟩ | ⟨gl, cap, cur, e1, hg, hh, hc, _⟩
  · omega
  · exact ⟨⟨gl, 0, none⟩, cap, e1, hc, rfl, h.list.tag gl (by rw [e1]; rfl), hg, blk_lt hh⟩
theorem RDm.cells (h : RDm b w col g d v L) {ad : Addr} {c : Nat} (ha : LAt b w col g v d.fs.length ad c) (hp : L[q]? = some p) :
    w.cell? (ad.add (q * 3)) = some (.string p.1.f0) ∧ w.cell? ⟨(ad.add (q * 3)).block, (ad.add (q * 3)).off + 1, none⟩ = some p.2 ∧ w.cell? ⟨(ad.add (q * 3)).block, (ad.add (q * 3)).off + 2, none⟩ = some (.int .i64 p.1.f2) ∧
    w.frozen? ⟨(ad.add (q * 3)).block, (ad.add (q * 3)).off + 1, none⟩ = false ∧ w.frozen? ⟨(ad.add (q * 3)).block, (ad.add (q * 3)).off + 2, none⟩ = false := by
  have hown := h.list.own
  obtain ⟨h0, h1, h2⟩ := flatL_get L q p hp
  rw [ha.v, ha.eq] at hown
  have hc := hown.cells (g := ad.block) rfl
  have hfz : ∀ k, w.frozen? ⟨ad.block, k, none⟩ = false := fun k => by
    rcases hown.2 with ⟨e1, _⟩ | ⟨gl, cap, cur, e1, hg, hh, _⟩
    · cases e1
    · injection e1 with a1
      injection a1 with a1
      injection a1 with a1
      rw [a1]
      exact blk_frozen hh k
  rw [ha.eq, add_at]
  refine ⟨?_, ?_, ?_, hfz _, hfz _⟩
  · have := hc _ _ h0; rwa [add_at] at this
  · have := hc _ _ h1; rwa [add_at] at this
  · have := hc _ _ h2; rwa [add_at] at this
theorem RDm.sync (h : RDm b w col g d v L) {ad : Addr} {c : Nat} (ha : LAt b w col g v d.fs.length ad c) (hp : L[q]? = some p) (s : Int) :
    RDm b (w.setCell ⟨(ad.add (q * 3)).block, (ad.add (q * 3)).off + 2, none⟩ (.int .i64 s)) col g { d with fs := d.fs.set q { p.1 with f2 := s } } v (L.set q ({ p.1 with f2 := s }, p.2)) ∧
    Ch b w col (w.setCell ⟨(ad.add (q * 3)).block, (ad.add (q * 3)).off + 2, none⟩ (.int .i64 s)) col (fun r => r = .rl) := by
  have hql : q < L.length := (List.getElem?_eq_some_iff.1 hp).1
  rw [ha.eq, add_at]
  have hs : Ch b w col (w.setCell ⟨ad.block, q * 3 + 2, none⟩ (.int .i64 s)) col (fun r => r = .rl) := ha.tag ▸ Ch.one_set (Nat.le_trans ha.base (Nat.le_of_lt ha.lt)) ha.base _ _
  have hown := h.list.own
  rw [ha.v, ha.eq] at hown
  refine ⟨⟨hs.blk h.blk (by rw [h.tag]; exact fun e => by cases e), h.tag, h.le, ?_, ?_, h.list.tag, ?_⟩, hs⟩
  · rw [List.map_set, h.list.fst]
  · rw [ha.v, ha.eq, List.length_set, ← flatL_set L q p hp s]
    exact own_set hown (q * 3 + 2) _ (by rw [flatL_len]; omega)
  · intro x hx
    have hx' : BRow b w col .rb x.2 x.1.f1 := by
      rcases List.mem_or_eq_of_mem_set hx with h1 | rfl
      · exact h.list.rows x h1
      · exact h.list.rows p (List.mem_of_getElem? hp)
    exact hx'.ch hs (fun e => by cases e)
theorem RDm.data (h : RDm b w col g d v L) {ad : Addr} {c : Nat} (ha : LAt b w col g v d.fs.length ad c) (hp : L[q]? = some p) {nv : Value} {xs : List Int} (hn : BRow b w col .rb nv xs) :
    RDm b (w.setCell ⟨(ad.add (q * 3)).block, (ad.add (q * 3)).off + 1, none⟩ nv) col g { d with fs := d.fs.set q { p.1 with f1 := xs } } v (L.set q ({ p.1 with f1 := xs }, nv)) ∧
    Ch b w col (w.setCell ⟨(ad.add (q * 3)).block, (ad.add (q * 3)).off + 1, none⟩ nv) col (fun r => r = .rl) := by
  have hql : q < L.length := (List.getElem?_eq_some_iff.1 hp).1
  rw [ha.eq, add_at]
  have hs : Ch b w col (w.setCell ⟨ad.block, q * 3 + 1, none⟩ nv) col (fun r => r = .rl) := ha.tag ▸ Ch.one_set (Nat.le_trans ha.base (Nat.le_of_lt ha.lt)) ha.base _ _
  have hown := h.list.own
  rw [ha.v, ha.eq] at hown
  refine ⟨⟨hs.blk h.blk (by rw [h.tag]; exact fun e => by cases e), h.tag, h.le, ?_, ?_, h.list.tag, ?_⟩, hs⟩
  · rw [List.map_set, h.list.fst]
  · rw [ha.v, ha.eq, List.length_set, ← flatL_put L q p hp xs nv]
    exact own_set hown (q * 3 + 1) _ (by rw [flatL_len]; omega)
  · intro x hx
    have hx' : BRow b w col .rb x.2 x.1.f1 := by
      rcases List.mem_or_eq_of_mem_set hx with h1 | rfl
      · exact h.list.rows x h1
      · exact hn
    exact hx'.ch hs (fun e => by cases e)
end
end Go.Proofs.Ytmpgldggjjmkmaa.PA
end
