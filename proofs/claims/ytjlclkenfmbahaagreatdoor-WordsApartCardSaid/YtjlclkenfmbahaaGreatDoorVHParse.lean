/- The contract of days.Parse, walked by hand: for every text, the call comes to what 'parseS' says. Condition: the world holds the table of the months' lengths ('Tabs'). -/
import Derived.Test.YtjlclkenfmbahaaGreatDoorVDaysNum
import Derived.Test.YtjlclkenfmbahaaGreatDoorVPAx0
import Derived.Test.YtjlclkenfmbahaaGreatDoorVL
import Derived.BigRegion
import Derived.RegionTactic
import Derived.ChangeAlike
import Derived.WalkSpells
import Derived.Lib.Hide
namespace Go.Proofs.YtjlclkenfmbahaaGreatDoor.PA
open Go.RowKit Go.Proofs.YtjlclkenfmbahaaGreatDoorW.PrintWords Go.Proofs.YtjlclkenfmbahaaGreatDoorW.PrintLast Go.Proofs.YtjlclkenfmbahaaGreatDoorW.PrintMore Go.Proofs.YtjlclkenfmbahaaGreatDoor.Days
attribute [local go_sem] max2_int min2_int max_two min_two
set_option linter.unusedVariables false
set_option linter.unusedSimpArgs false
def dash (i : Nat) : Bool := i == 4 || i == 7
def okAt (s : ByteArray) (i : Nat) : Bool := if dash i then bt s i == 45 else decide (48 ≤ bt s i) && decide (bt s i ≤ 57)
def kAt (i : Nat) : Nat := if i ≤ 4 then 0 else if i ≤ 7 then 1 else 2
def fAt (s : ByteArray) : Nat → Nat → Int
 | 0, _ => 0
 | i + 1, j => if dash i = false ∧ j = kAt i then wrap64 (wrap64 (10 * fAt s i j) + (bt s i - 48) % 256) else fAt s i j
def parseGo (s : ByteArray) : Nat → Nat → Int × Int × Int
 | 0, _ => if s.size = 10 then (if (numS (fAt s 10 0) (fAt s 10 1) (fAt s 10 2)).2 = 0 then ((numS (fAt s 10 0) (fAt s 10 1) (fAt s 10 2)).1, 10, 0) else (0, 0, (numS (fAt s 10 0) (fAt s 10 1) (fAt s 10 2)).2)) else (0, if s.size < 10 then (s.size : Int) else 10, 22)
 | d + 1, i => if okAt s i then parseGo s d (i + 1) else (0, i, 22)
def parseS (s : ByteArray) : Int × Int × Int := parseGo s (min s.size 10) 0
def days_Parse.f (s : ByteArray) : Option (Int × Int × Int) := some (parseS s)
def Formed (s : ByteArray) (i : Nat) (v6 v11 : Value) (B : Nat) (w wr : World) : Prop :=
 v11 = .int .i64 i ∧ v6 = .int .i64 (kAt i : Nat) ∧ wr.heap[B]? = some (.cells #[.int .i64 (fAt s i 0), .int .i64 (fAt s i 1), .int .i64 (fAt s i 2)] 245 (0, 0)) ∧ Below B w wr
theorem kAt_3 (i : Nat) : kAt i = 0 ∨ kAt i = 1 ∨ kAt i = 2 := by unfold kAt; split; exact Or.inl rfl; split; exact Or.inr (Or.inl rfl); exact Or.inr (Or.inr rfl)
theorem Formed.cell {s : ByteArray} {i : Nat} {v6 v11 : Value} {B : Nat} {w wr : World} (h : Formed s i v6 v11 B w wr) : wr.cell? ⟨B, kAt i, none⟩ = some (.int .i64 (fAt s i (kAt i))) := by
 refine (blk_cell h.2.2.1 (kAt i)).trans ?_
 rcases kAt_3 i with e | e | e <;> rw [e] <;> rfl
theorem Formed.free {s : ByteArray} {i : Nat} {v6 v11 : Value} {B : Nat} {w wr : World} (h : Formed s i v6 v11 B w wr) : wr.frozen? ⟨B, kAt i, none⟩ = false := blk_frozen h.2.2.1 (kAt i)
theorem form_at {i : Nat} (h : i < 10) (h' : i < (⟨#[48, 48, 48, 48, 45, 48, 48, 45, 48, 48]⟩ : ByteArray).size) : (((⟨#[48, 48, 48, 48, 45, 48, 48, 45, 48, 48]⟩ : ByteArray)[i]'h').toNat : Int) = if dash i then 45 else 48 := by
 obtain rfl | rfl | rfl | rfl | rfl | rfl | rfl | rfl | rfl | rfl : i = 0 ∨ i = 1 ∨ i = 2 ∨ i = 3 ∨ i = 4 ∨ i = 5 ∨ i = 6 ∨ i = 7 ∨ i = 8 ∨ i = 9 := by omega
 all_goals rfl
theorem bt_nat {s : ByteArray} {i : Nat} (h : i < s.size) : ((s[i]'h).toNat : Int) = bt s i := bt_at s i h
theorem okAt_dash {s : ByteArray} {i : Nat} (hd : dash i = true) : okAt s i = (bt s i == 45) := by unfold okAt; rw [if_pos hd]
theorem okAt_digit {s : ByteArray} {i : Nat} (hd : dash i = false) : okAt s i = (decide (48 ≤ bt s i) && decide (bt s i ≤ 57)) := by unfold okAt; rw [if_neg (by simp [hd])]
theorem kAt_succ {i : Nat} (h : i < 10) : kAt (i + 1) = if dash i then kAt i + 1 else kAt i := by
 obtain rfl | rfl | rfl | rfl | rfl | rfl | rfl | rfl | rfl | rfl : i = 0 ∨ i = 1 ∨ i = 2 ∨ i = 3 ∨ i = 4 ∨ i = 5 ∨ i = 6 ∨ i = 7 ∨ i = 8 ∨ i = 9 := by omega
 all_goals rfl
theorem fAt_dash {s : ByteArray} {i : Nat} (hd : dash i = true) (j : Nat) : fAt s (i + 1) j = fAt s i j := by
 show (if dash i = false ∧ j = kAt i then _ else fAt s i j) = _
 rw [if_neg (by simp [hd])]
theorem parseGo_upto (s : ByteArray) (n : Nat) (d : Nat) : ∀ i, n = i + d → (∀ j, j < n → okAt s j = true) → parseGo s d i = parseGo s 0 n := by
 induction d with
 | zero => intro i h _; rw [show i = n by omega]
 | succ d ih =>
  intro i h hall
  show (if okAt s i then parseGo s d (i + 1) else _) = _
  rw [if_pos (hall i (by omega))]
  exact ih (i + 1) (by omega) hall
theorem parseGo_bad (s : ByteArray) (b : Nat) (d : Nat) : ∀ i, i ≤ b → b < i + d → (∀ j, j < b → okAt s j = true) → okAt s b = false → parseGo s d i = (0, (b : Int), 22) := by
 induction d with
 | zero => intro i h1 h2; exact absurd h1 (by omega)
 | succ d ih =>
  intro i h1 h2 hall hb
  show (if okAt s i then parseGo s d (i + 1) else _) = _
  by_cases e : i = b
  ·subst e
   rw [if_neg (by simp [hb])]
  ·rw [if_pos (hall i (by omega))]
   exact ih (i + 1) (by omega) (by omega) hall hb
theorem parse_bad {s : ByteArray} {b : Nat} (h1 : b < s.size) (h2 : b < 10) (hall : ∀ j, j < b → okAt s j = true) (hb : okAt s b = false) : parseS s = (0, (b : Int), 22) :=
 parseGo_bad s b (min s.size 10) 0 (by omega) (by omega) hall hb
theorem parse_end {s : ByteArray} {n : Nat} (hn : n = min s.size 10) (hall : ∀ j, j < n → okAt s j = true) : parseS s = parseGo s 0 n := by
 unfold parseS
 rw [← hn]
 exact parseGo_upto s n n 0 (by omega) hall
theorem next_ok {s : ByteArray} {i : Nat} (hall : ∀ j, j < i → okAt s j = true) (hi : okAt s i = true) : ∀ j, j < i + 1 → okAt s j = true := by
 intro j hj
 by_cases e : j = i
 ·exact e ▸ hi
 ·exact hall j (by omega)
theorem Formed.dash {s : ByteArray} {i : Nat} {v6 v11 v6' v11' : Value} {B : Nat} {w wr : World} (h : Formed s i v6 v11 B w wr) (hi : i < 10) (hd : PA.dash i = true) (e6 : v6' = .int .i64 ((kAt i : Nat) + 1)) (e11 : v11' = .int .i64 ((i : Nat) + 1)) :
  Formed s (i + 1) v6' v11' B w wr := by
 refine ⟨by rw [e11]; rfl, by rw [e6, kAt_succ hi, if_pos hd]; rfl, ?_, h.2.2.2⟩
 rw [fAt_dash hd, fAt_dash hd, fAt_dash hd]
 exact h.2.2.1
theorem Formed.digit {s : ByteArray} {i : Nat} {v6 v11 v6' v11' : Value} {w wr : World} (h : Formed s i v6 v11 w.heap.size w wr) (hi : i < 10) (hd : PA.dash i = false) (h48 : 48 ≤ bt s i) (h57 : bt s i ≤ 57)
  (e6 : v6' = .int .i64 (kAt i : Nat)) (e11 : v11' = .int .i64 ((i : Nat) + 1)) {x : Int} (hx : x = bt s i - 48) :
  Formed s (i + 1) v6' v11' w.heap.size w ((wr.setCell ⟨w.heap.size, kAt i, none⟩ (.int .i64 (wrap64 (wrap64 (10 * fAt s i (kAt i)) + x)))).drew) := by
 refine ⟨by rw [e11]; rfl, by rw [e6, kAt_succ hi, if_neg (by simp [hd])], ?_, (h.2.2.2.setCell (p := ⟨w.heap.size, kAt i, none⟩) (Nat.le_refl _) _).drew⟩
 obtain rfl : x = (bt s i - 48) % 256 := by omega
 have hs : ∀ j, fAt s (i + 1) j = if PA.dash i = false ∧ j = kAt i then wrap64 (wrap64 (10 * fAt s i j) + (bt s i - 48) % 256) else fAt s i j := fun j => rfl
 refine blk_drew (blk_put h.2.2.1 (kAt i) _ ?_)
 rcases kAt_3 i with e | e | e <;> rw [hs 0, hs 1, hs 2, e] <;> simp [hd]
def trip (r : Int × Int × Int) : Value := .tuple #[.int .i64 r.1, .int .i64 r.2.1, .int .i64 r.2.2]
theorem trip_bad {s : ByteArray} {b : Nat} (h1 : b < s.size) (h2 : b < 10) (hall : ∀ j, j < b → okAt s j = true) (hb : okAt s b = false) : Value.tuple #[.int .i64 0, .int .i64 (b : Int), .int .i64 22] = trip (parseS s) := by
 rw [parse_bad h1 h2 hall hb]; rfl
abbrev FORM : ByteArray := ⟨#[48, 48, 48, 48, 45, 48, 48, 45, 48, 48]⟩
theorem d_yes {i : Nat} (h : i < 10) {h' : i < FORM.size} (e : ((FORM[i]'h').toNat : Int) = 45) : dash i = true := by
 rw [form_at h h'] at e
 cases hd : dash i
 ·rw [hd] at e; simp at e
 ·rfl
theorem d_no {i : Nat} (h : i < 10) {h' : i < FORM.size} (e : ¬ ((FORM[i]'h').toNat : Int) = 45) : dash i = false := by
 rw [form_at h h'] at e
 cases hd : dash i
 ·rfl
 ·rw [hd] at e; simp at e
theorem d_none {i : Nat} (h : i < 10) {h' : i < FORM.size} (e : ¬ ((FORM[i]'h').toNat : Int) = 45) (e2 : ¬ ((FORM[i]'h').toNat : Int) = 48) : False := by
 rw [form_at h h'] at e e2
 cases hd : dash i <;> rw [hd] at e e2 <;> simp at e e2
theorem ok_45 {s : ByteArray} {i : Nat} (hd : dash i = true) {h : i < s.size} (e : (((s[i]'h).toNat : Int) == 45) = true) : okAt s i = true := by
 rw [okAt_dash hd, ← bt_nat h]; exact e
theorem bad_45 {s : ByteArray} {i : Nat} (hd : dash i = true) {h : i < s.size} (e : (((s[i]'h).toNat : Int) == 45) = false) : okAt s i = false := by
 rw [okAt_dash hd, ← bt_nat h]; exact e
theorem ok_dig {s : ByteArray} {i : Nat} (hd : dash i = false) {h : i < s.size} (e : 48 ≤ ((s[i]'h).toNat : Int)) (e2 : ((s[i]'h).toNat : Int) ≤ 57) : okAt s i = true := by
 rw [okAt_digit hd, ← bt_nat h]; simp [e, e2]
theorem bad_hi {s : ByteArray} {i : Nat} (hd : dash i = false) {h : i < s.size} (e : 57 < ((s[i]'h).toNat : Int)) : okAt s i = false := by
 rw [okAt_digit hd, ← bt_nat h]; simp; omega
theorem bad_lo {s : ByteArray} {i : Nat} (hd : dash i = false) {h : i < s.size} (e : ((s[i]'h).toNat : Int) < 48) : okAt s i = false := by
 rw [okAt_digit hd, ← bt_nat h]; simp; omega
theorem trip_long {s : ByteArray} (h : 10 < s.size) (hall : ∀ j, j < 10 → okAt s j = true) : Value.tuple #[.int .i64 0, .int .i64 10, .int .i64 22] = trip (parseS s) := by
 rw [parse_end (n := 10) (by omega) hall]
 show _ = trip (if s.size = 10 then _ else _)
 rw [if_neg (by omega), if_neg (by omega)]; rfl
theorem trip_short {s : ByteArray} (h : s.size < 10) (hall : ∀ j, j < s.size → okAt s j = true) : Value.tuple #[.int .i64 0, .int .i64 (s.size : Int), .int .i64 22] = trip (parseS s) := by
 rw [parse_end (n := s.size) (by omega) hall]
 show _ = trip (if s.size = 10 then _ else _)
 rw [if_neg (by omega), if_pos h]; rfl
theorem trip_ten {s : ByteArray} (h : s.size = 10) (hall : ∀ j, j < 10 → okAt s j = true) : parseS s = if (numS (fAt s 10 0) (fAt s 10 1) (fAt s 10 2)).2 = 0 then ((numS (fAt s 10 0) (fAt s 10 1) (fAt s 10 2)).1, 10, 0) else (0, 0, (numS (fAt s 10 0) (fAt s 10 1) (fAt s 10 2)).2) := by
 rw [parse_end (n := 10) (by omega) hall]
 show (if s.size = 10 then _ else _) = _
 rw [if_pos h]
set_option maxHeartbeats 1000000 in
set_option maxRecDepth 100000 in
theorem parse_long (s : ByteArray) (w : World) (c10 : 10 < s.size) :
  Calls Tryz.prog 203 #[.string s] w fun e w' => e = .returned (trip (parseS s)) ∧ Below w.heap.size w w' := by
 have c10b : (10 : Int) < (s.size : Int) := by omega
 go_enter Tryz.func203, Tryz.ntmps203
 go_wp2
 go_loopw [6, 11] (fun v6 v11 wr => ∃ i : Nat, i ≤ 10 ∧ Hid (∀ j, j < i → okAt s j = true) ∧ Hid (Formed s i v6 v11 w.heap.size w wr) ∧ v11 = .int .i64 i ∧ v6 = .int .i64 (kAt i : Nat)) (fun _ v11 _ => 10 - (intOf v11).toNat)
 case atStart =>
  refine ⟨0, by omega, fun j hj => by omega, ⟨rfl, rfl, ?_, ?_⟩, rfl, rfl⟩
  ·exact heap_alloc_new w _
  ·exact (Below.refl _ _).alloc (Nat.le_refl _) _
 case round =>
  obtain ⟨i, hi, HA, HF, rfl, rfl⟩ := hrel
  by_cases h10 : i < 10
  ·have hlt' : (i : Int) < 10 := by omega
   have hls : (i : Int) < (s.size : Int) := by omega
   have hls2 : i < s.size := by omega
   have hx1 := bt_at s i
   have hx2 := bt_at FORM i
   have hcell := HF.out.cell
   have hfree := HF.out.free
   have hk0 : (0 : Int) ≤ (kAt i : Nat) := by omega
   have hk3 : ((kAt i : Nat) : Int) < 3 := by rcases kAt_3 i with e | e | e <;> omega
   go_wp2_with fail
   ·have hd := d_yes h10 (by assumption)
    have hok := ok_45 (s := s) (i := i) hd (by assumption)
    exact ⟨⟨i + 1, by omega, next_ok HA.out hok, HF.out.dash h10 hd rfl rfl, rfl, by rw [kAt_succ h10, if_pos hd]; rfl⟩, by simp [intOf]; omega⟩
   ·have hd := d_yes h10 (by assumption)
    have hok := bad_45 (s := s) (i := i) hd (by assumption)
    go_ret3
    exact ⟨congrArg Ending.returned (trip_bad hls2 h10 HA.out hok), HF.out.2.2.2⟩
   ·have hd := d_no h10 (by assumption)
    have h48 : 48 ≤ ((s[i]'hls2).toNat : Int) := by assumption
    have h57 : ((s[i]'hls2).toNat : Int) ≤ 57 := by assumption
    have hok := ok_dig (s := s) (i := i) hd h48 h57
    have hbt := bt_nat hls2
    go_region
    go_wp2
    exact ⟨⟨i + 1, by omega, next_ok HA.out hok, HF.out.digit h10 hd (by omega) (by omega) rfl rfl (by omega), rfl, by rw [kAt_succ h10, if_neg (by simp [hd])]⟩, by simp [intOf]; omega⟩
   ·have hd := d_no h10 (by assumption)
    have hok := bad_hi (s := s) (i := i) hd (by assumption)
    go_ret3
    exact ⟨congrArg Ending.returned (trip_bad hls2 h10 HA.out hok), HF.out.2.2.2⟩
   ·have hd := d_no h10 (by assumption)
    have hok := bad_lo (s := s) (i := i) hd (by assumption)
    go_ret3
    exact ⟨congrArg Ending.returned (trip_bad hls2 h10 HA.out hok), HF.out.2.2.2⟩
   ·exact (d_none h10 (by assumption) (by assumption)).elim
  ·obtain rfl : i = 10 := by omega
   go_wp2_with fail
   go_ret3
   exact ⟨congrArg Ending.returned (trip_long c10 HA.out), HF.out.2.2.2⟩
set_option maxHeartbeats 1000000 in
set_option maxRecDepth 100000 in
theorem parse_short (s : ByteArray) (w : World) (hT : Tabs w) (c10 : ¬ 10 < s.size) :
  Calls Tryz.prog 203 #[.string s] w fun e w' => e = .returned (trip (parseS s)) ∧ Below w.heap.size w w' := by
 have c10b : ¬ (10 : Int) < (s.size : Int) := by omega
 have HT := Aside0.mk hT
 clear hT
 go_enter Tryz.func203, Tryz.ntmps203
 go_wp2
 go_loopw [6, 11] (fun v6 v11 wr => ∃ i : Nat, i ≤ s.size ∧ Hid (∀ j, j < i → okAt s j = true) ∧ Hid (Formed s i v6 v11 w.heap.size w wr) ∧ v11 = .int .i64 i ∧ v6 = .int .i64 (kAt i : Nat)) (fun _ v11 _ => s.size - (intOf v11).toNat)
 case atStart =>
  refine ⟨0, by omega, fun j hj => by omega, ⟨rfl, rfl, ?_, ?_⟩, rfl, rfl⟩
  ·exact heap_alloc_new w _
  ·exact (Below.refl _ _).alloc (Nat.le_refl _) _
 case round =>
  obtain ⟨i, hi, HA, HF, rfl, rfl⟩ := hrel
  by_cases hls2 : i < s.size
  ·have h10 : i < 10 := by omega
   have hlt' : (i : Int) < 10 := by omega
   have hls : (i : Int) < (s.size : Int) := by omega
   have hx1 := bt_at s i
   have hx2 := bt_at FORM i
   have hcell := HF.out.cell
   have hfree := HF.out.free
   have hk0 : (0 : Int) ≤ (kAt i : Nat) := by omega
   have hk3 : ((kAt i : Nat) : Int) < 3 := by rcases kAt_3 i with e | e | e <;> omega
   go_wp2_with fail
   ·have hd := d_yes h10 (by assumption)
    have hok := ok_45 (s := s) (i := i) hd (by assumption)
    exact ⟨⟨i + 1, by omega, next_ok HA.out hok, HF.out.dash h10 hd rfl rfl, rfl, by rw [kAt_succ h10, if_pos hd]; rfl⟩, by simp [intOf]; omega⟩
   ·have hd := d_yes h10 (by assumption)
    have hok := bad_45 (s := s) (i := i) hd (by assumption)
    go_ret3
    exact ⟨congrArg Ending.returned (trip_bad hls2 h10 HA.out hok), HF.out.2.2.2⟩
   ·have hd := d_no h10 (by assumption)
    have h48 : 48 ≤ ((s[i]'hls2).toNat : Int) := by assumption
    have h57 : ((s[i]'hls2).toNat : Int) ≤ 57 := by assumption
    have hok := ok_dig (s := s) (i := i) hd h48 h57
    have hbt := bt_nat hls2
    go_region
    go_wp2
    exact ⟨⟨i + 1, by omega, next_ok HA.out hok, HF.out.digit h10 hd (by omega) (by omega) rfl rfl (by omega), rfl, by rw [kAt_succ h10, if_neg (by simp [hd])]⟩, by simp [intOf]; omega⟩
   ·have hd := d_no h10 (by assumption)
    have hok := bad_hi (s := s) (i := i) hd (by assumption)
    go_ret3
    exact ⟨congrArg Ending.returned (trip_bad hls2 h10 HA.out hok), HF.out.2.2.2⟩
   ·have hd := d_no h10 (by assumption)
    have hok := bad_lo (s := s) (i := i) hd (by assumption)
    go_ret3
    exact ⟨congrArg Ending.returned (trip_bad hls2 h10 HA.out hok), HF.out.2.2.2⟩
   ·exact (d_none h10 (by assumption) (by assumption)).elim
  ·have hge : ¬ (i : Int) < (s.size : Int) := by omega
   by_cases hten : s.size = 10
   ·have htenb : ((s.size : Int) != 10) = false := by rw [bne_eq_false_iff_eq]; omega
    have hc0 : wr.cell? ⟨w.heap.size, 0, none⟩ = some (.int .i64 (fAt s i 0)) := (blk_cell HF.out.2.2.1 0).trans rfl
    have hc1 : wr.cell? ⟨w.heap.size, 1, none⟩ = some (.int .i64 (fAt s i 1)) := (blk_cell HF.out.2.2.1 1).trans rfl
    have hc2 : wr.cell? ⟨w.heap.size, 2, none⟩ = some (.int .i64 (fAt s i 2)) := (blk_cell HF.out.2.2.1 2).trans rfl
    obtain ⟨K, hK⟩ := number_p (fAt s i 0) (fAt s i 1) (fAt s i 2)
    have hKK : Aside0 (days_Number.f K (fAt s i 0) (fAt s i 1) (fAt s i 2) = some ((numS (fAt s i 0) (fAt s i 1) (fAt s i 2)).1, (numS (fAt s i 0) (fAt s i 1) (fAt s i 2)).2)) := ⟨hK K (Nat.le_refl _)⟩
    have HI : Aside0 (i = 10) := ⟨by omega⟩
    have HTEN : Aside0 (s.size = 10) := ⟨hten⟩
    have hTr := HT.out.below HF.out.2.2.2
    have HTR := Aside0.mk hTr
    obtain ⟨n1, hn1⟩ : ∃ n1, n1 = (numS (fAt s i 0) (fAt s i 1) (fAt s i 2)).1 := ⟨_, rfl⟩
    obtain ⟨n2, hn2⟩ : ∃ n2, n2 = (numS (fAt s i 0) (fAt s i 1) (fAt s i 2)).2 := ⟨_, rfl⟩
    rw [← hn1, ← hn2] at hKK
    have HN1 := Aside0.mk hn1
    have HN2 := Aside0.mk hn2
    clear hn1 hn2 hK hten hi hls2 hTr
    by_cases hz : n2 = 0
    ·have hzb : (n2 != 0) = false := by rw [bne_eq_false_iff_eq]; exact hz
     have HZ := Aside0.mk hz
     clear hz
     go_wp2_with fail
     refine (days_Number.calls K _ _ _ n1 n2 _ HTR.out hKK.out).mono ?_
     rintro e w' ⟨rfl, ⟨m1, rfl⟩⟩
     go_wp2_with fail
     go_ret3
     refine ⟨congrArg Ending.returned ?_, pw_below_drewN HF.out.2.2.2 _⟩
     obtain rfl := HI.out
     rw [trip_ten HTEN.out HA.out, ← HN2.out, ← HN1.out, if_pos HZ.out]; rfl
    ·have hzb : (n2 != 0) = true := by rw [bne_iff_ne]; exact hz
     have HZ := Aside0.mk hz
     clear hz
     go_wp2_with fail
     refine (days_Number.calls K _ _ _ n1 n2 _ HTR.out hKK.out).mono ?_
     rintro e w' ⟨rfl, ⟨m1, rfl⟩⟩
     go_wp2_with fail
     go_ret3
     refine ⟨congrArg Ending.returned ?_, pw_below_drewN HF.out.2.2.2 _⟩
     obtain rfl := HI.out
     rw [trip_ten HTEN.out HA.out, ← HN2.out, ← HN1.out, if_neg HZ.out]; rfl
   ·have htenb : ((s.size : Int) != 10) = true := by rw [bne_iff_ne]; omega
    obtain rfl : i = s.size := by omega
    have HLT : Aside0 (s.size < 10) := ⟨by omega⟩
    clear hten
    go_wp2_with fail
    go_ret3
    exact ⟨congrArg Ending.returned (trip_short HLT.out HA.out), HF.out.2.2.2⟩
theorem days_Parse.calls (s : ByteArray) (r1 r2 r3 : Int) (w : World) (hT : Tabs w) (h : days_Parse.f s = some (r1, r2, r3)) :
  Calls Tryz.prog 203 #[.string s] w fun e w' => e = .returned (.tuple #[.int .i64 r1, .int .i64 r2, .int .i64 r3]) ∧ Below w.heap.size w w' := by
 have e : parseS s = (r1, r2, r3) := Option.some.inj h
 have e2 : trip (parseS s) = .tuple #[.int .i64 r1, .int .i64 r2, .int .i64 r3] := by rw [e]; rfl
 rw [← e2]
 by_cases c : 10 < s.size
 ·exact parse_long s w c
 ·exact parse_short s w hT c
end Go.Proofs.YtjlclkenfmbahaaGreatDoor.PA
