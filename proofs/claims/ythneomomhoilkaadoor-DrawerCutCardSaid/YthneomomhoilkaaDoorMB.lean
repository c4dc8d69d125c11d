/- Several texts of this claim in one, each in a section of its own; what nothing reaches is left out. Conditions: each law's own. -/
import Derived.Test.YthneomomhoilkaaDoorMA
import Derived.BigRegion
import Derived.Test.YthneomomhoilkaaDoorML
import Derived.Deep.RegionHeld3
import Derived.BigQuiet
import Derived.StillTailTactics
set_option linter.unusedVariables false
set_option linter.unusedSimpArgs false
set_option linter.unusedSectionVars false
section
namespace Go.Proofs.YthneomomhoilkaaDoor.PA
open Go.RowKit Go.Maps Go.Proofs.YthneomomhoilkaaDoorW.PrintWords Go.Proofs.YthneomomhoilkaaDoorW.PrintLast Go.Proofs.YthneomomhoilkaaDoorW.PrintMore
def Dk.doF (d : Dk) (nm : ByteArray) (h : Fl → Fl) : Dk := if (d.chg nm).1 = 0 then { (d.chg nm).2 with fs := setF d.fs nm (h (getF d.fs nm)) } else (d.chg nm).2
def syncF (f : Fl) : Fl := { f with f2 := f.f1.length }
def Dk.rem (d : Dk) (nm : ByteArray) : Dk := if (d.chg nm).1 = 0 then { (d.chg nm).2 with fs := remF d.fs nm } else (d.chg nm).2
def trimF (n : Int) (f : Fl) : Fl := { f with f1 := f.f1.take (max n 0).toNat, f2 := min f.f2 (f.f1.take (max n 0).toNat).length }
theorem Ch.alloc {b : Nat} {W : World} {col : RCol} {S : Role → Prop} (hb : b ≤ W.heap.size) (o : Obj) : Ch b W col (W.alloc o) col S := Ch.of_below (below_alloc (Below.refl _ _) o) hb
theorem LAt.go {b g n c : Nat} {w w' : World} {col : RCol} {v : Value} {ad : Addr} (h : LAt b w col g v n ad c) (hb : w.heap.size ≤ w'.heap.size) {col' : RCol} (hc : col' ad.block = col ad.block) : LAt b w' col' g v n ad c := ⟨h.v, h.le, h.eq, hc.trans h.tag, h.base, Nat.lt_of_lt_of_le h.lt hb⟩
section
variable {b g c q gx : Nat} {W1 w3 : World} {col : RCol} {d : Dk} {v : Value} {L : List (Fl × Value)} {ad : Addr} {p : Fl × Value}
end
section
variable {P : Program} {ops : Array Oper} {o : Oper} {a : Act} {K : Act → World → Prop} {Q : Exit → Act → World → Prop} {E : Prop}
theorem reads_news {W : World} {A : Option Addr} {m : Nat} {ys : List Int} (h : ReadsInt W .u8 A m ys) : (A = none → m = 0) ∧ ∀ ad, A = some ad → ∀ j u, (nums .u8 ys)[j]? = some u → W.cell? (ad.add j) = some u := by
  refine ⟨fun e => ?_, fun ad e j u hu => ?_⟩
  · rcases Nat.eq_zero_or_pos m with h0 | h0
    · exact h0
    · obtain ⟨ad, h1, _⟩ := h.2.2 h0
      rw [e] at h1; cases h1
  · have hj : j < ys.length := by
      rcases Nat.lt_or_ge j ys.length with h1 | h1
      · exact h1
      · simp [nums, List.getElem?_eq_none h1] at hu
    obtain ⟨ad', h', hc⟩ := h.2.2 (by have := h.1; omega)
    rw [e] at h'
    injection h' with h'
    subst h'
    have := hc j (by have := h.1; omega)
    simp [nums, List.getElem?_eq_getElem hj] at hu
    subst hu
    rw [this]
    simp [List.getD_eq_getElem?_getD, List.getElem?_eq_getElem hj]
theorem step_append_row {W : World} (hgd : o.guard = none) (s x : Operand) (t e : TypeId)
    (ho : o.op = .call { callee := .builtin .append, args := #[s, x], argTypes := #[t, t] })
    (ht : P.underlying t = some (.slice e)) (hinfo : (P.info? e).map (fun i => (i.zero, i.size, i.bytes)) = some (some (.int .u8 0), 1, 1)) (base : Nat)
    (v : Value) (xs ys : List Int) (A : Option Addr) (m c : Nat) (hs : a.eval s = v) (hx : a.eval x = .slice A m c)
    (HO : W.ownsRow base e 1 v xs.length (nums .u8 xs)) (HR : ReadsInt W .u8 A m ys) (hbase : base ≤ W.heap.size) (hl : xs.length + m ≤ 140737488355328)
    (h : ∀ v1 w1, w1.ownsRow base e 1 v1 (xs ++ ys).length (nums .u8 (xs ++ ys)) → W.grownBy w1 v.ownBlock → (v1.ownBlock = v.ownBlock ∨ v1.ownBlock = some W.heap.size) → K (a.put o.dst v1) w1) :
    if Region.wanted o (yielded ops a.tmps) = true then Oper.wp P o a W K Q else E := by
  have hw : Region.wanted o (yielded ops a.tmps) = true := by simp [Region.wanted, hgd]
  rw [if_pos hw]
  obtain ⟨i0, hi, hzz⟩ := Option.map_eq_some_iff.1 hinfo
  simp only [Prod.mk.injEq] at hzz
  obtain ⟨hz0, hz1, hz2⟩ := hzz
  have hm : ys.length = m := HR.1
  obtain ⟨h0, hnews⟩ := reads_news HR
  have hrun : ∃ v1 w1, (Builtin.append_ #[t, t] o.type #[v, .slice A m c]).run P W = .ok v1 w1 ∧ w1.ownsRow base e 1 v1 (xs ++ ys).length (nums .u8 (xs ++ ys)) ∧ W.grownBy w1 v.ownBlock ∧ (v1.ownBlock = v.ownBlock ∨ v1.ownBlock = some W.heap.size) := by
    rcases A with _ | ad
    · obtain rfl := h0 rfl
      obtain rfl : ys = [] := List.eq_nil_of_length_eq_zero hm
      refine ⟨v, W, ?_, by simpa using HO, World.grownBy.refl W _, .inl rfl⟩
      rcases HO.2 with ⟨rfl, hn⟩ | ⟨g, cap, cur, rfl, _, _, hnc, _⟩
      · simp [Builtin.append_, run_underlying ht, sizeOf, typeInfo, hi, Builtin.lenOf, Builtin.firstCells, loadCells, loadCellsFrom]
      · simp [Builtin.append_, run_underlying ht, sizeOf, typeInfo, hi, Builtin.lenOf, Builtin.firstCells, hnc, storeCells, loadCells, loadCellsFrom]
    · obtain ⟨v1, w1, hr, h2, h3, _, h5⟩ := run_append_own_at (P := P) W base t o.type e i0 (.int .u8 0) 1 1 ht hi hz0 hz1 hz2 rfl (by omega) v xs.length (nums .u8 xs) HO ad m c (nums .u8 ys) (by simp [nums, hm]) (hnews ad rfl)
        (by intro u hu; simp only [nums, List.mem_map] at hu; obtain ⟨q, _, rfl⟩ := hu; rfl) (by simp only [maxLen]; omega) (by omega) hbase
      exact ⟨v1, w1, hr, by simpa [nums, hm] using h2, h3, h5⟩
  obtain ⟨v1, w1, hr, hown, hg, hat⟩ := hrun
  unfold Oper.wp execOp
  simp only [ho, resolve, invoke, builtin, Sem.run_bind, Sem.run_pure, Result.andThen_ok, List.map_toArray, List.map_cons, List.map_nil, hs, hx, hr]
  exact h v1 w1 hown hg hat
end
structure XRow (W : World) (col : RCol) (S : Role → Prop) (A : Option Addr) (xs : List Int) : Prop where
  rd : ReadsInt W .u8 A xs.length xs
  lt : 0 < xs.length → ∀ a, A = some a → a.block < W.heap.size ∧ ¬ S (col a.block)
theorem reads_move {W W' : World} {A : Option Addr} {xs : List Int} (h : ReadsInt W .u8 A xs.length xs) (hb : 0 < xs.length → ∀ a, A = some a → W'.heap[a.block]? = W.heap[a.block]?) : ReadsInt W' .u8 A xs.length xs := by
  obtain ⟨h1, h2, h3⟩ := h
  refine ⟨h1, h2, fun h0 => ?_⟩
  obtain ⟨ad, e, hc⟩ := h3 h0
  refine ⟨ad, e, fun j hj => ?_⟩
  have e1 : (ad.add j).block = ad.block := by unfold Addr.add; split <;> rfl
  rw [← hc j hj]
  unfold World.cell?
  rw [e1, hb h0 ad e]
theorem XRow.ch {b : Nat} {W W' : World} {col col' : RCol} {S S' : Role → Prop} {A : Option Addr} {xs : List Int} (h : XRow W col S A xs) (m : Ch b W col W' col' S') (hS : ∀ r, S' r → S r) : XRow W' col' S A xs :=
  ⟨reads_move h.rd fun h0 a ha => m.block _ (h.lt h0 a ha).1 (fun hs => (h.lt h0 a ha).2 (hS _ hs)), fun h0 a ha => ⟨Nat.lt_of_lt_of_le (h.lt h0 a ha).1 m.size, by rw [m.same _ (h.lt h0 a ha).1]; exact (h.lt h0 a ha).2⟩⟩
def Dk.sz (d : Dk) (nm : ByteArray) : Nat := if there d.fs nm = true then (getF d.fs nm).f1.length else 0
def Dk.full (d : Dk) (nm : ByteArray) (n : Nat) : Prop := 2097152 < d.sz nm + n ∨ (there d.fs nm = false ∧ 40 ≤ d.fs.length)
instance (d : Dk) (nm : ByteArray) (n : Nat) : Decidable (d.full nm n) := by unfold Dk.full; exact inferInstance
def Dk.have (d : Dk) (nm : ByteArray) : List Fl := if there d.fs nm = true then d.fs else addF d.fs { f0 := nm, f1 := [], f2 := 0 }
def layF (xs : List Int) (f : Fl) : Fl := { f with f1 := f.f1 ++ xs }
def Dk.app (d : Dk) (nm : ByteArray) (xs : List Int) : Int × Dk :=
  if (d.fst nm).1 ≠ 0 then d.fst nm else if d.full nm xs.length then (194, (d.fst nm).2)
  else if ((d.fst nm).2.pay (xs.length + 1)).1 = true then (0, { ((d.fst nm).2.pay (xs.length + 1)).2.2 with fs := setF (d.have nm) nm (layF xs (getF (d.have nm) nm)) })
  else (190, { ((d.fst nm).2.pay (xs.length + 1)).2.2 with fs := setF (d.have nm) nm (layF (xs.take d.units.toNat) (getF (d.have nm) nm)) })
theorem app_err {d : Dk} {nm : ByteArray} {xs : List Int} {e : Int} (h1 : (firstS (Nm nm) d.down d.after d.calls).1 = e) (h2 : e ≠ 0) : d.app nm xs = (e, (d.fst nm).2) := by
  unfold Dk.app
  rw [if_pos (show (d.fst nm).1 ≠ 0 by show (firstS (Nm nm) d.down d.after d.calls).1 ≠ 0; rw [h1]; exact h2)]
  exact Prod.ext h1 rfl
theorem app_full {d : Dk} {nm : ByteArray} {xs : List Int} (h1 : (firstS (Nm nm) d.down d.after d.calls).1 = 0) (h2 : d.full nm xs.length) : d.app nm xs = (194, (d.fst nm).2) := by
  unfold Dk.app
  rw [if_neg (show ¬ (d.fst nm).1 ≠ 0 by show ¬ (firstS (Nm nm) d.down d.after d.calls).1 ≠ 0; rw [h1]; simp), if_pos h2]
theorem app_done {d : Dk} {nm : ByteArray} {xs : List Int} (h1 : (firstS (Nm nm) d.down d.after d.calls).1 = 0) (h2 : ¬ d.full nm xs.length) (h3 : ((d.fst nm).2.pay (xs.length + 1)).1 = true) :
    d.app nm xs = (0, { ((d.fst nm).2.pay (xs.length + 1)).2.2 with fs := setF (d.have nm) nm (layF xs (getF (d.have nm) nm)) }) := by
  unfold Dk.app
  rw [if_neg (show ¬ (d.fst nm).1 ≠ 0 by show ¬ (firstS (Nm nm) d.down d.after d.calls).1 ≠ 0; rw [h1]; simp), if_neg h2, if_pos h3]
theorem app_fell {d : Dk} {nm : ByteArray} {xs : List Int} (h1 : (firstS (Nm nm) d.down d.after d.calls).1 = 0) (h2 : ¬ d.full nm xs.length) (h3 : ((d.fst nm).2.pay (xs.length + 1)).1 = false) :
    d.app nm xs = (190, { ((d.fst nm).2.pay (xs.length + 1)).2.2 with fs := setF (d.have nm) nm (layF (xs.take d.units.toNat) (getF (d.have nm) nm)) }) := by
  unfold Dk.app
  rw [if_neg (show ¬ (d.fst nm).1 ≠ 0 by show ¬ (firstS (Nm nm) d.down d.after d.calls).1 ≠ 0; rw [h1]; simp), if_neg h2, if_neg (by rw [h3]; simp)]
theorem pay_fell {d : Dk} {cost : Int} (h : (d.pay cost).1 = false) : ∃ k : Nat, d.units = k ∧ (d.pay cost).2.1 = k ∧ (k : Int) < cost := by
  unfold Dk.pay at h ⊢
  split at h
  · cases h
  rename_i h1
  rw [if_neg h1]
  split at h
  · cases h
  rename_i h2
  rw [if_neg h2]
  exact ⟨d.units.toNat, by omega, by show d.units = _; omega, by omega⟩
theorem have_there (d : Dk) (nm : ByteArray) : there (d.have nm) nm = true := by
  unfold Dk.have
  split
  · assumption
  · exact (there_add d.fs { f0 := nm, f1 := [], f2 := 0 }).1
theorem have_len (d : Dk) (nm : ByteArray) : (getF (d.have nm) nm).f1.length = d.sz nm := by
  unfold Dk.have Dk.sz
  split
  · rfl
  · rw [(there_add d.fs { f0 := nm, f1 := [], f2 := 0 }).2]; rfl
structure FL (b : Nat) (W : World) (v : Value) (L : List (Fl × Value)) : Prop where
  own : W.ownsRow b 42 3 v L.length (flatL L)
  rows : ∀ p ∈ L, W.ownsRow b 5 1 p.2 p.1.f1.length (nums .u8 p.1.f1)
theorem FL.nil (b : Nat) (W : World) : FL b W (.slice none 0 0) [] := ⟨own_nil _ _ _ _, fun p hp => by cases hp⟩
theorem FL.below {b : Nat} {W W' : World} {v : Value} {L : List (Fl × Value)} (h : FL b W v L) (hb : Below W.heap.size W W') : FL b W' v L :=
  ⟨own_move h.own fun k hk => hb.block _ (own_lt h.own k hk), fun p hp => own_move (h.rows p hp) fun k hk => hb.block _ (own_lt (h.rows p hp) k hk)⟩
theorem FL.snoc {b : Nat} {W w1 : World} {v v1 : Value} {L : List (Fl × Value)} (h : FL b W v L) {p : Fl × Value} (hp : W.ownsRow b 5 1 p.2 p.1.f1.length (nums .u8 p.1.f1)) (hg : W.grownBy w1 v.ownBlock)
    (ho : w1.ownsRow b 42 3 v1 (L.length + 1) (flatL L ++ [.string p.1.f0, p.2, .int .i64 p.1.f2])) : FL b w1 v1 (L ++ [p]) := by
  rw [flatL_one] at ho
  refine ⟨by rw [List.length_append]; exact ho, fun q hq => ?_⟩
  rw [List.mem_append, List.mem_singleton] at hq
  rcases hq with hq | rfl
  · exact own_other (h.rows q hq) hg (own_type_ne (h.rows q hq) h.own (by decide))
  · exact own_other hp hg (own_type_ne hp h.own (by decide))
theorem FL.reads {b : Nat} {W : World} {v : Value} {L : List (Fl × Value)} (h : FL b W v L) : ∃ A c, v = .slice A L.length c ∧ L.length ≤ c ∧ Kd.C k42 W A L.length (L.map (·.1)) := by
  have hR : Reps (k42.K W) 3 (L.map (·.1)) (flatL L) := by
    have hrows := h.rows
    clear h
    induction L with
    | nil => exact Reps.none _ _
    | cons p r ih =>
      obtain ⟨A, c, hv, hc, _⟩ := own_form (hrows p (by simp))
      have hrd := hrows p (by simp)
      rw [hv] at hrd
      have h1 : k42.K W p.1 [.string p.1.f0, p.2, .int .i64 p.1.f2] := by rw [hv]; exact k42_mk W p.1 hc (Kd.C_of_reads (d := (0 : Int)) (readsInt_of.1 (own_reads' hrd)))
      have := Kd.reps_append ((Reps.none (k42.K W) 3).snoc h1 rfl) (ih (fun q hq => hrows q (List.mem_cons_of_mem _ hq)))
      simpa [flatL_cons] using this
  obtain ⟨A, c, hv, hc⟩ := own_le_cap h.own
  obtain ⟨A', c', hv', hrd⟩ := own_reads_row h.own hR (by simp)
  rw [hv] at hv'
  injection hv' with e1 e2 e3
  subst e1
  exact ⟨A, c, hv, hc, hrd⟩
def FlPost (w w' : World) (e : Ending) (fs : List Fl) : Prop := ∃ v L, e = .returned v ∧ L.map (·.1) = fs ∧ FL w.heap.size w' v L ∧ Below w.heap.size w w'
theorem meas_lt2 {i q : Nat} (h : i < q) : q - (intOf (.int .i64 ((i : Int) + 1))).toNat < q - (intOf (.int .i64 (i : Int))).toNat := by
  show q - ((i : Int) + 1).toNat < q - (i : Int).toNat
  omega
theorem fs_snoc {fs : List Fl} {i : Nat} {f : Fl} (h : fs[i]? = some f) : fs.take (i + 1) = fs.take i ++ [f] := by rw [List.take_add_one, h]; rfl
def goodF (acc : List Fl) (f : Fl) : Prop := Nm f.f0 = true ∧ there acc f.f0 = false ∧ f.f1.length ≤ 2097152 ∧ 0 ≤ f.f2 ∧ f.f2 ≤ f.f1.length
instance (acc : List Fl) (f : Fl) : Decidable (goodF acc f) := by unfold goodF; exact inferInstance
def newL : List Fl → List Fl → Option (List Fl)
  | acc, [] => some acc
  | acc, f :: r => if goodF acc f then newL (addF acc f) r else none
def newS (fs : List Fl) : Option (List Fl) := if 40 < fs.length then none else newL [] fs
def Dk.start (fs : List Fl) : Dk := { fs := fs, down := false, units := -1, after := 0, calls := 0 }
theorem ok_start {fs : List Fl} (h1 : Rises fs) (h2 : ∀ f ∈ fs, Nm f.f0 = true) (h3 : ∀ f ∈ fs, f.f1.length ≤ 2097152 ∧ 0 ≤ f.f2 ∧ f.f2 ≤ f.f1.length) (h4 : fs.length ≤ 40) : (Dk.start fs).Ok :=
  ⟨h1, h2, h3, h4, by simp [Dk.start], by simp [Dk.start], by simp [Dk.start], by simp [Dk.start], by simp [Dk.start], by simp [Dk.start]⟩
theorem in_reads {w : World} {A : Option Addr} {fs : List Fl} (h : Kd.C k42 w A fs.length fs) {i : Nat} {f : Fl} (hf : fs[i]? = some f) (W : World) (hB : Below w.heap.size w W) :
    ∃ ad Ab cb, A = some ad ∧ W.cell? (ad.add (i * 3)) = some (.string f.f0) ∧ W.cell? ⟨(ad.add (i * 3)).block, (ad.add (i * 3)).off + 1, none⟩ = some (.slice Ab f.f1.length cb) ∧ W.cell? ⟨(ad.add (i * 3)).block, (ad.add (i * 3)).off + 2, none⟩ = some (.int .i64 f.f2) ∧ f.f1.length ≤ cb ∧ ReadsInt W .u8 Ab f.f1.length f.f1 := by
  have hi : i < fs.length := (List.getElem?_eq_some_iff.1 hf).1
  obtain ⟨ad, A1, c1, hA, x0, x1, x2, x3, x4⟩ := at_T42 (Kd.C_below h hB) (i : Int) (by omega) (by omega)
  rw [rdF hf] at x0 x1 x2 x3 x4
  rw [Int.toNat_natCast] at x0 x1 x2
  exact ⟨ad, A1, c1, hA, x0, x1, x2, x3, readsInt_of.2 (Kd.reads_of_C x4)⟩
def keepAt (ks : List Int) (i : Nat) : Int := if ks.length = 0 then 0 else ks.getD (i % ks.length) 0
def keepN (ks : List Int) (i : Nat) (f : Fl) : Nat := (min (max (keepAt ks i) 0) (f.f1.length - f.f2)).toNat
def restF (ks : List Int) (i : Nat) (f : Fl) : Fl := { f with f1 := f.f1.take (f.f2.toNat + keepN ks i f), f2 := ((f.f2.toNat + keepN ks i f : Nat) : Int) }
def restTo (ks : List Int) (fs : List Fl) : Nat → List Fl
  | 0 => fs
  | i + 1 => (restTo ks fs i).set i (restF ks i (fs.getD i z42))
def Dk.rest (d : Dk) (ks : List Int) : Dk := { fs := restTo ks d.fs d.fs.length, down := false, units := -1, after := 0, calls := 0 }
theorem restTo_len (ks : List Int) (fs : List Fl) : ∀ n, (restTo ks fs n).length = fs.length
  | 0 => rfl
  | n + 1 => by rw [restTo, List.length_set, restTo_len ks fs n]
theorem restTo_ge (ks : List Int) (fs : List Fl) : ∀ n j, n ≤ j → (restTo ks fs n)[j]? = fs[j]?
  | 0, j, _ => rfl
  | n + 1, j, h => by rw [restTo, List.getElem?_set_ne (by omega), restTo_ge ks fs n j (by omega)]
theorem restF_name (ks : List Int) (i : Nat) (f : Fl) : (restF ks i f).f0 = f.f0 := rfl
theorem restTo_names (ks : List Int) (fs : List Fl) : ∀ n, n ≤ fs.length → (restTo ks fs n).map (·.f0) = fs.map (·.f0)
  | 0, _ => rfl
  | n + 1, h => by
    have ih := restTo_names ks fs n (by omega)
    rw [restTo, List.map_set, ih, restF_name]
    refine List.ext_getElem? fun j => ?_
    rw [List.getElem?_set]
    split
    · rename_i hj
      subst hj
      rw [if_pos (by simp; omega), List.getElem?_map, List.getElem?_eq_getElem (by omega), List.getD_eq_getElem?_getD, List.getElem?_eq_getElem (by omega)]
      rfl
    · rfl
theorem keepN_le (ks : List Int) (i : Nat) (f : Fl) (h0 : 0 ≤ f.f2) (h1 : f.f2 ≤ f.f1.length) : f.f2.toNat + keepN ks i f ≤ f.f1.length := by unfold keepN; omega
theorem restF_size (ks : List Int) (i : Nat) {f : Fl} (h : f.f1.length ≤ 2097152 ∧ 0 ≤ f.f2 ∧ f.f2 ≤ f.f1.length) : (restF ks i f).f1.length ≤ 2097152 ∧ 0 ≤ (restF ks i f).f2 ∧ (restF ks i f).f2 ≤ (restF ks i f).f1.length := by
  have := keepN_le ks i f h.2.1 h.2.2
  have hl : (restF ks i f).f1.length = f.f2.toNat + keepN ks i f := by show (f.f1.take _).length = _; rw [List.length_take]; omega
  have h2 : (restF ks i f).f2 = ((f.f2.toNat + keepN ks i f : Nat) : Int) := rfl
  rw [hl, h2]
  omega
theorem restTo_size (ks : List Int) (fs : List Fl) (h : ∀ f ∈ fs, f.f1.length ≤ 2097152 ∧ 0 ≤ f.f2 ∧ f.f2 ≤ f.f1.length) : ∀ n, n ≤ fs.length → ∀ f ∈ restTo ks fs n, f.f1.length ≤ 2097152 ∧ 0 ≤ f.f2 ∧ f.f2 ≤ f.f1.length
  | 0, _, f, hf => h f hf
  | n + 1, hn, f, hf => by
    rw [restTo] at hf
    rcases List.mem_or_eq_of_mem_set hf with h1 | rfl
    · exact restTo_size ks fs h n (by omega) f h1
    · refine restF_size ks n (h _ ?_)
      rw [List.getD_eq_getElem?_getD, List.getElem?_eq_getElem (by omega)]
      exact List.getElem_mem _
theorem Dk.Ok.rest {d : Dk} (h : d.Ok) (ks : List Int) : (d.rest ks).Ok := by
  have hn := restTo_names ks d.fs d.fs.length (Nat.le_refl _)
  refine ⟨rises_names h.rises hn, fun f hf => ?_, restTo_size ks d.fs h.size _ (Nat.le_refl _), by show (restTo ks d.fs d.fs.length).length ≤ 40; rw [restTo_len]; exact h.few, by simp [Dk.rest], by simp [Dk.rest], by simp [Dk.rest], by simp [Dk.rest], by simp [Dk.rest], by simp [Dk.rest]⟩
  have : f.f0 ∈ d.fs.map (·.f0) := by rw [← hn]; exact List.mem_map_of_mem hf
  obtain ⟨x, hx, he⟩ := List.mem_map.1 this
  rw [← he]
  exact h.names x hx
structure XInts (W : World) (col : RCol) (S : Role → Prop) (A : Option Addr) (ks : List Int) : Prop where
  rd : ReadsInt W .i64 A ks.length ks
  lt : 0 < ks.length → ∀ a, A = some a → a.block < W.heap.size ∧ ¬ S (col a.block)
theorem XInts.ch {b : Nat} {W W' : World} {col col' : RCol} {S S' : Role → Prop} {A : Option Addr} {ks : List Int} (h : XInts W col S A ks) (m : Ch b W col W' col' S') (hS : ∀ r, S' r → S r) : XInts W' col' S A ks := by
  refine ⟨⟨h.rd.1, h.rd.2.1, fun h0 => ?_⟩, fun h0 a ha => ⟨Nat.lt_of_lt_of_le (h.lt h0 a ha).1 m.size, by rw [m.same _ (h.lt h0 a ha).1]; exact (h.lt h0 a ha).2⟩⟩
  obtain ⟨ad, e, hc⟩ := h.rd.2.2 h0
  refine ⟨ad, e, fun j hj => ?_⟩
  have e1 : (ad.add j).block = ad.block := by unfold Addr.add; split <;> rfl
  rw [← hc j hj]
  unfold World.cell?
  rw [e1, m.block _ (h.lt h0 ad e).1 (fun hs => (h.lt h0 ad e).2 (hS _ hs))]
theorem XInts.at {W : World} {col : RCol} {S : Role → Prop} {A : Option Addr} {ks : List Int} (h : XInts W col S A ks) (h0 : ks.length ≠ 0) (i : Nat) : ∃ ad, A = some ad ∧ W.cell? (ad.add (i % ks.length)) = some (.int .i64 (keepAt ks i)) := by
  obtain ⟨ad, e, hc⟩ := h.rd.2.2 (by omega)
  refine ⟨ad, e, ?_⟩
  rw [hc _ (Nat.mod_lt _ (by omega))]
  unfold keepAt
  rw [if_neg h0]
end Go.Proofs.YthneomomhoilkaaDoor.PA
end
section
namespace Go.Proofs.YthneomomhoilkaaDoor.PA
open Go.RowKit Go.Maps Go.Proofs.YthneomomhoilkaaDoorW.PrintWords Go.Proofs.YthneomomhoilkaaDoorW.PrintLast Go.Proofs.YthneomomhoilkaaDoorW.PrintMore
attribute [local go_sem] max2_int min2_int max_two min_two
end Go.Proofs.YthneomomhoilkaaDoor.PA
end
