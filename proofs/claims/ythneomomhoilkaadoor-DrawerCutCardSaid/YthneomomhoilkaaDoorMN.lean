/- Several texts of this claim in one, each in a section of its own; what nothing reaches is left out. Conditions: each law's own. -/
import Derived.Lib.ItoaNum
import Derived.Lib.ParseIntB
import Derived.Lib.Strings
import Derived.Test.YthneomomhoilkaaDoorMW
import Derived.Test.YthneomomhoilkaaDoorMP
import Derived.Test.YthneomomhoilkaaDoorMA
import Derived.Test.YthneomomhoilkaaDoorMDkShelf
import Derived.Test.YthneomomhoilkaaDoorML
import Derived.Test.YthneomomhoilkaaDoorMDkNames
set_option linter.unusedVariables false
set_option linter.unusedSimpArgs false
set_option linter.unusedSectionVars false
section
namespace Go.Proofs.YthneomomhoilkaaDoor.Dw
open Go.Lib
def logL : List UInt8 := [108, 111, 103, 45]
def padL (g : Nat) : List UInt8 := List.replicate (8 - (decDigits g).length) 48 ++ decDigits g
def nameL (g : Nat) : List UInt8 := logL ++ padL g
def nameS (g : Nat) : ByteArray := ⟨(nameL g).toArray⟩
def genL (l : List UInt8) : Nat :=
  if l.length = 12 ∧ l.take 4 = logL then
    match parseUintB 32 (l.drop 4) with
    | .ok u => if nameL u = l then u else 0
    | _ => 0
  else 0
def genS (nm : ByteArray) : Nat := genL nm.data.toList
theorem nDigits_le : ∀ (k u : Nat), u < 10 ^ (k + 1) → nDigits u ≤ k + 1
  | 0, u, h => by rw [nDigits_small (by omega)]; omega
  | k + 1, u, h => by
    by_cases h1 : u < 10
    · rw [nDigits_small h1]; omega
    · rw [nDigits_big h1]
      have := nDigits_le k (u / 10) (by rw [Nat.pow_succ] at h; omega)
      omega
theorem dig_len {g : Nat} (h : g < 100000000) : (decDigits g).length ≤ 8 := by
  rw [decDigits_length]
  exact nDigits_le 7 g (by simpa using h)
theorem padL_len {g : Nat} (h : g < 100000000) : (padL g).length = 8 := by
  have := dig_len h
  unfold padL
  rw [List.length_append, List.length_replicate]; omega
theorem nameL_len {g : Nat} (h : g < 100000000) : (nameL g).length = 12 := by
  unfold nameL
  rw [List.length_append, padL_len h]; rfl
def valD (acc : Nat) (l : List UInt8) : Nat := l.foldl (fun a c => a * 10 + (c.toNat - 48)) acc
def Digs (l : List UInt8) : Prop := ∀ c ∈ l, 48 ≤ c.toNat ∧ c.toNat ≤ 57
theorem valD_ge : ∀ (l : List UInt8) (acc : Nat), acc ≤ valD acc l
  | [], acc => Nat.le_refl _
  | c :: r, acc => by
    have := valD_ge r (acc * 10 + (c.toNat - 48))
    show acc ≤ valD (acc * 10 + (c.toNat - 48)) r
    omega
theorem parse_val {M : Nat} (hM : M ≤ 4294967295) : ∀ (l : List UInt8) (acc : Nat), Digs l → valD acc l ≤ M → parseUintM M acc l = .ok (valD acc l)
  | [], acc, _, _ => rfl
  | c :: r, acc, hd, h => by
    have h1 := valD_ge r (acc * 10 + (c.toNat - 48))
    have h2 : valD acc (c :: r) = valD (acc * 10 + (c.toNat - 48)) r := rfl
    rw [parseUintM, if_pos (hd c (by simp)), if_neg (by omega), if_neg (by omega), h2]
    exact parse_val hM r _ (fun x hx => hd x (List.mem_cons_of_mem _ hx)) (by omega)
theorem valD_append (a b : List UInt8) (acc : Nat) : valD acc (a ++ b) = valD (valD acc a) b := by unfold valD; rw [List.foldl_append]
theorem valD_zeros : ∀ n, valD 0 (List.replicate n 48) = 0
  | 0 => rfl
  | n + 1 => by rw [List.replicate_succ]; exact valD_zeros n
theorem dig_toNat {i : Nat} (h : i < 10) : (UInt8.ofNat (48 + i)).toNat = 48 + i := by
  rw [UInt8.toNat_ofNat']; omega
theorem decDigits_val : ∀ (n u : Nat), u < n → Digs (decDigits u) ∧ valD 0 (decDigits u) = u
  | n + 1, u, h => by
    rw [decDigits]
    split
    · rename_i h1
      refine ⟨fun c hc => ?_, ?_⟩
      · simp only [List.mem_singleton] at hc
        subst hc
        rw [dig_toNat h1]; omega
      · show 0 * 10 + ((UInt8.ofNat (48 + u)).toNat - 48) = u
        rw [dig_toNat h1]; omega
    · rename_i h1
      obtain ⟨h2, h3⟩ := decDigits_val n (u / 10) (by omega)
      have h4 : u % 10 < 10 := Nat.mod_lt _ (by omega)
      refine ⟨fun c hc => ?_, ?_⟩
      · rcases List.mem_append.1 hc with hc | hc
        · exact h2 c hc
        · simp only [List.mem_singleton] at hc
          subst hc
          rw [dig_toNat h4]; omega
      · rw [valD_append, h3]
        show u / 10 * 10 + ((UInt8.ofNat (48 + u % 10)).toNat - 48) = u
        rw [dig_toNat h4]; omega
theorem padL_val (g : Nat) : Digs (padL g) ∧ valD 0 (padL g) = g := by
  obtain ⟨h1, h2⟩ := decDigits_val (g + 1) g (by omega)
  unfold padL
  refine ⟨fun c hc => ?_, by rw [valD_append, valD_zeros, h2]⟩
  rcases List.mem_append.1 hc with hc | hc
  · rw [List.eq_of_mem_replicate hc]; decide
  · exact h1 c hc
theorem parse_pad {g : Nat} (h : g < 100000000) : parseUintB 32 (padL g) = .ok g := by
  have hl := padL_len h
  have hne : padL g ≠ [] := fun e => by rw [e] at hl; simp at hl
  obtain ⟨h1, h2⟩ := padL_val g
  rw [parseUintB, if_neg hne, parse_val (by decide) _ _ h1 (by rw [h2]; show g ≤ 4294967295; omega), h2]
theorem gen_name {g : Nat} (h : g < 100000000) : genS (nameS g) = g := by
  show genL (nameL g) = g
  unfold genL
  have h1 : (nameL g).take 4 = logL := rfl
  have h2 : (nameL g).drop 4 = padL g := rfl
  rw [if_pos ⟨nameL_len h, h1⟩, h2, parse_pad h]
  simp
theorem parse_8 : ∀ (l : List UInt8) (k acc : Nat), l.length + k = 8 → acc < 10 ^ k → parseUintM 4294967295 acc l = Go.Lib.NumEnd.syntax ∨ ∃ u, parseUintM 4294967295 acc l = .ok u ∧ u < 100000000
  | [], k, acc, hl, ha => by
    simp only [List.length_nil, Nat.zero_add] at hl
    subst hl
    exact .inr ⟨acc, rfl, by simpa using ha⟩
  | c :: r, k, acc, hl, ha => by
    simp only [List.length_cons] at hl
    by_cases hc : 48 ≤ c.toNat ∧ c.toNat ≤ 57
    · have hk : 10 ^ k ≤ 10 ^ 7 := Nat.pow_le_pow_right (by omega) (by omega)
      have h7 : (10 : Nat) ^ 7 = 10000000 := rfl
      rw [parseUintM, if_pos hc, if_neg (by omega), if_neg (by omega)]
      refine parse_8 r (k + 1) _ (by omega) ?_
      rw [Nat.pow_succ]; omega
    · rw [parseUintM, if_neg hc]
      exact .inl rfl
theorem parse_eight {l : List UInt8} (hl : l.length = 8) : parseUintB 32 l = Go.Lib.NumEnd.syntax ∨ ∃ u, parseUintB 32 l = .ok u ∧ u < 100000000 := by
  have hne : l ≠ [] := fun e => by rw [e] at hl; simp at hl
  rw [parseUintB, if_neg hne]
  exact parse_8 l 0 0 (by omega) (by omega)
theorem genL_ok {l : List UInt8} (h : l.length = 12 ∧ l.take 4 = logL) {u : Nat} (e : parseUintB 32 (l.drop 4) = .ok u) : genL l = if nameL u = l then u else 0 := by
  unfold genL
  rw [if_pos h, e]
theorem genL_syntax {l : List UInt8} (e : parseUintB 32 (l.drop 4) = Go.Lib.NumEnd.syntax) : genL l = 0 := by
  unfold genL
  rw [e]
  split <;> rfl
theorem genL_out {l : List UInt8} (h : ¬ (l.length = 12 ∧ l.take 4 = logL)) : genL l = 0 := by
  unfold genL
  rw [if_neg h]
theorem genL_lt (l : List UInt8) : genL l < 100000000 ∧ (0 < genL l → nameL (genL l) = l) := by
  by_cases h : l.length = 12 ∧ l.take 4 = logL
  · rcases parse_eight (l := l.drop 4) (by rw [List.length_drop]; omega) with e | ⟨u, e, hu⟩
    · rw [genL_syntax e]; exact ⟨by omega, fun h => by omega⟩
    · rw [genL_ok h e]
      split
      · rename_i h1
        exact ⟨hu, fun _ => h1⟩
      · exact ⟨by omega, fun h => by omega⟩
  · rw [genL_out h]; exact ⟨by omega, fun h => by omega⟩
theorem genS_lt (nm : ByteArray) : genS nm < 100000000 := (genL_lt _).1
theorem genS_name {nm : ByteArray} (h : 0 < genS nm) : nm = nameS (genS nm) := by
  have := (genL_lt nm.data.toList).2 h
  unfold nameS genS
  rw [this]
theorem nameS_size {g : Nat} (h : g < 100000000) : (nameS g).size = 12 := by
  show (nameL g).toArray.size = 12
  rw [List.size_toArray, nameL_len h]
end Go.Proofs.YthneomomhoilkaaDoor.Dw
end
section
namespace Go.Proofs.YthneomomhoilkaaDoor.Dw
open Go.Proofs.YthneomomhoilkaaDoor.PA
structure Fnd where
  gen : Nat
  sum : Nat
  summary : List Int
  recs : List Rec
  size : Nat
  all : Nat
  sure : Int
def Fnd.zero : Fnd := ⟨0, 0, [], [], 0, 0, 0⟩
def candF (f : Fl) : Option Fnd :=
  if genS f.f0 = 0 then none else
  match wholeS f.f1 0 with
  | some (s, r, sz) => some ⟨genS f.f0, s, r.body, [], sz, f.f1.length, f.f2⟩
  | none => none
def stepB (j : Fnd) (f : Fl) : Fnd := match candF f with
  | some k => if k.gen ≤ j.gen then j else k
  | none => j
def bestS (fs : List Fl) : Fnd := fs.foldl stepB Fnd.zero
def Best (V : Fl → Prop) (j : Fnd) : Prop := (j = Fnd.zero ∨ ∃ f, V f ∧ candF f = some j) ∧ ∀ f k, V f → candF f = some k → k.gen ≤ j.gen
theorem candF_gen {f : Fl} {k : Fnd} (h : candF f = some k) : k.gen = genS f.f0 ∧ 0 < k.gen := by
  unfold candF at h
  split at h
  · cases h
  · split at h
    · injection h with h; subst h
      exact ⟨rfl, by show 0 < genS f.f0; omega⟩
    · cases h
theorem Best.start : Best (fun _ => False) Fnd.zero := ⟨.inl rfl, fun f k h => h.elim⟩
theorem Best.congr {V V' : Fl → Prop} {j : Fnd} (h : Best V j) (e : ∀ f, V' f ↔ V f) : Best V' j := by
  obtain ⟨h1, h2⟩ := h
  refine ⟨?_, fun f k hf => h2 f k ((e f).1 hf)⟩
  rcases h1 with h1 | ⟨f, hf, h1⟩
  · exact .inl h1
  · exact .inr ⟨f, (e f).2 hf, h1⟩
theorem Best.step {V : Fl → Prop} {j : Fnd} (h : Best V j) (f : Fl) : Best (fun x => V x ∨ x = f) (stepB j f) := by
  obtain ⟨h1, h2⟩ := h
  unfold stepB
  rcases e : candF f with _ | k
  · refine ⟨?_, fun x q hx hq => ?_⟩
    · rcases h1 with h1 | ⟨x, hx, h1⟩
      · exact .inl h1
      · exact .inr ⟨x, .inl hx, h1⟩
    · rcases hx with hx | rfl
      · exact h2 x q hx hq
      · rw [e] at hq; cases hq
  · show Best _ (if k.gen ≤ j.gen then j else k)
    split
    · rename_i hle
      refine ⟨?_, fun x q hx hq => ?_⟩
      · rcases h1 with h1 | ⟨x, hx, h1⟩
        · exact .inl h1
        · exact .inr ⟨x, .inl hx, h1⟩
      · rcases hx with hx | rfl
        · exact h2 x q hx hq
        · rw [e] at hq; injection hq with hq; subst hq; exact hle
    · rename_i hle
      refine ⟨.inr ⟨f, .inr rfl, e⟩, fun x q hx hq => ?_⟩
      rcases hx with hx | rfl
      · have := h2 x q hx hq; omega
      · rw [e] at hq; injection hq with hq; subst hq; exact Nat.le_refl _
theorem Best.unique {fs : List Fl} (hs : Rises fs) {j k : Fnd} (h1 : Best (· ∈ fs) j) (h2 : Best (· ∈ fs) k) : j = k := by
  obtain ⟨a1, a2⟩ := h1
  obtain ⟨b1, b2⟩ := h2
  rcases a1 with rfl | ⟨f, hf, ef⟩
  · rcases b1 with rfl | ⟨g, hg, eg⟩
    · rfl
    · have := a2 g k hg eg
      have := (candF_gen eg).2
      have e : Fnd.zero.gen = 0 := rfl
      omega
  · rcases b1 with rfl | ⟨g, hg, eg⟩
    · have := b2 f j hf ef
      have := (candF_gen ef).2
      have e : Fnd.zero.gen = 0 := rfl
      omega
    · have l1 := a2 g k hg eg
      have l2 := b2 f j hf ef
      obtain ⟨p1, p2⟩ := candF_gen ef
      obtain ⟨q1, q2⟩ := candF_gen eg
      have hn : f.f0 = g.f0 := by rw [genS_name (nm := f.f0) (by omega), genS_name (nm := g.f0) (by omega)]; congr 1; omega
      have hfg : f = g := by
        obtain ⟨i, hi⟩ := List.mem_iff_getElem?.1 hf
        obtain ⟨i', hi'⟩ := List.mem_iff_getElem?.1 hg
        have il := (List.getElem?_eq_some_iff.1 hi).1
        have il' := (List.getElem?_eq_some_iff.1 hi').1
        have ei := (List.getElem?_eq_some_iff.1 hi).2
        have ei' := (List.getElem?_eq_some_iff.1 hi').2
        rcases Nat.lt_trichotomy i i' with h | h | h
        · have := List.pairwise_iff_getElem.1 hs _ _ il il' h
          rw [ei, ei', hn] at this
          exact absurd this (List.lt_irrefl _)
        · subst h; rw [hi] at hi'; injection hi'
        · have := List.pairwise_iff_getElem.1 hs _ _ il' il h
          rw [ei, ei', hn] at this
          exact absurd this (List.lt_irrefl _)
      subst hfg
      rw [ef] at eg
      injection eg
theorem best_foldl : ∀ (fs : List Fl) (V : Fl → Prop) (j : Fnd), Best V j → Best (fun x => V x ∨ x ∈ fs) (fs.foldl stepB j)
  | [], V, j, h => h.congr (fun f => by simp)
  | f :: r, V, j, h => (best_foldl r _ _ (h.step f)).congr (fun x => by simp [or_assoc])
theorem bestS_best (fs : List Fl) : Best (· ∈ fs) (bestS fs) := (best_foldl fs _ _ Best.start).congr (fun f => by simp)
theorem best_is {fs : List Fl} (hs : Rises fs) {j : Fnd} (h : Best (· ∈ fs) j) : j = bestS fs := h.unique hs (bestS_best fs)
def Fnd.got (j : Fnd) (rs : List Rec) : Fnd := { j with recs := rs, size := j.size + (recsB j.sum 1 rs).length }
def seekS (fs : List Fl) : Fnd :=
  let j := bestS fs
  if j.gen = 0 then j else
  let data := (getF fs (nameS j.gen)).f1
  let rs := scanS j.sum (data.length + 1) (data.drop j.size) 1
  { j with recs := rs, size := j.size + (recsB j.sum 1 rs).length }
theorem best_file {fs : List Fl} (hs : Rises fs) (h : (bestS fs).gen ≠ 0) : there fs (nameS (bestS fs).gen) = true ∧ candF (getF fs (nameS (bestS fs).gen)) = some (bestS fs) := by
  rcases (bestS_best fs).1 with e | ⟨f, hf, ef⟩
  · rw [e] at h; exact absurd rfl h
  · obtain ⟨p1, p2⟩ := candF_gen ef
    have hn : f.f0 = nameS (bestS fs).gen := by rw [p1]; exact genS_name (by omega)
    have ht : there fs (nameS (bestS fs).gen) = true := by
      cases ht : there fs (nameS (bestS fs).gen)
      · exact absurd hn (not_there hs ht hf)
      · rfl
    refine ⟨ht, ?_⟩
    have : getF fs (nameS (bestS fs).gen) = f := by
      have h1 := there_mem ht
      have h2 := (there_get ht).2.2
      obtain ⟨i, hi⟩ := List.mem_iff_getElem?.1 hf
      obtain ⟨i', hi'⟩ := List.mem_iff_getElem?.1 h1
      have il := (List.getElem?_eq_some_iff.1 hi).1
      have il' := (List.getElem?_eq_some_iff.1 hi').1
      have ei := (List.getElem?_eq_some_iff.1 hi).2
      have ei' := (List.getElem?_eq_some_iff.1 hi').2
      rcases Nat.lt_trichotomy i i' with h | h | h
      · have := List.pairwise_iff_getElem.1 hs _ _ il il' h
        rw [ei, ei', hn, h2] at this
        exact absurd this (List.lt_irrefl _)
      · subst h; rw [hi] at hi'; injection hi' with e; exact e.symm
      · have := List.pairwise_iff_getElem.1 hs _ _ il' il h
        rw [ei, ei', hn, h2] at this
        exact absurd this (List.lt_irrefl _)
    rw [this, ef]
theorem candF_inv {f : Fl} {j : Fnd} (h : candF f = some j) : ∃ s r sz, wholeS f.f1 0 = some (s, r, sz) ∧ j = ⟨genS f.f0, s, r.body, [], sz, f.f1.length, f.f2⟩ := by
  unfold candF at h
  split at h
  · cases h
  · split at h
    · rename_i s r sz e
      injection h with h
      exact ⟨s, r, sz, e, h.symm⟩
    · cases h
end Go.Proofs.YthneomomhoilkaaDoor.Dw
end
section
namespace Go.Proofs.YthneomomhoilkaaDoor.PA
open Go.RowKit Go.Maps Go.Sort Go.Proofs.YthneomomhoilkaaDoorW.PrintWords Go.Proofs.YthneomomhoilkaaDoorW.PrintLast Go.Proofs.YthneomomhoilkaaDoorW.PrintMore Go.Proofs.YthneomomhoilkaaDoor.Dw
theorem tabIs_below {P : Program} {w w' : World} {name : String} {k : IntKind} {zs : List Int} (h : Lib.TabIs P w name k zs) (hb : Below w.heap.size w w') : Lib.TabIs P w' name k zs := by
  unfold Lib.TabIs World.var? at *
  cases hg : P.globalNamed name with
  | none => simp [hg] at h
  | some g =>
    simp only [hg, Option.bind_some] at h ⊢
    have hlt : g < w.heap.size := by
      rcases Nat.lt_or_ge g w.heap.size with h' | h'
      · exact h'
      · rw [Array.getElem?_eq_none h'] at h
        simp at h
    rw [hb.block g hlt]
    exact h
structure VW (W : World) (ev : Value) : Prop where
  pow : Lib.TabIs Tryd.prog W "internal/strconv.uint64pow10" .u64 Lib.pow10Tab
  cell : W.cell? ⟨Tryd.laysPu14_ren.g 0, 0, none⟩ = some ev
  kind : ev = .nilIface ∨ ∃ te pe, ev = .iface te pe
theorem VW.below {W W' : World} {ev : Value} (h : VW W ev) (hb : Below W.heap.size W W') : VW W' ev :=
  ⟨tabIs_below h.pow hb, (hb.cell (World.block_lt_of_cell? _ _ h.cell)).trans h.cell, h.kind⟩
def VP (b : Nat) (W : World) : Prop := ∃ W0 ev, W0.heap.size ≤ b ∧ Below W0.heap.size W0 W ∧ VW W0 ev
theorem VP.below {b : Nat} {W W' : World} (h : VP b W) (hb : Below b W W') : VP b W' := by
  obtain ⟨W0, ev, h1, h2, h3⟩ := h
  exact ⟨W0, ev, h1, h2.trans (hb.mono h1), h3⟩
theorem VP.vw {b : Nat} {W : World} (h : VP b W) : ∃ ev, VW W ev := by
  obtain ⟨W0, ev, h1, h2, h3⟩ := h
  exact ⟨ev, h3.below h2⟩
theorem VP.mono {b c : Nat} {W : World} (h : VP b W) (hc : b ≤ c) : VP c W := by
  obtain ⟨W0, ev, h1, h2, h3⟩ := h
  exact ⟨W0, ev, Nat.le_trans h1 hc, h2, h3⟩
theorem VP.new {W W' : World} {b : Nat} (h : VP b W) (hb : Below W.heap.size W W') (hs : b ≤ W.heap.size) : VP b W' := h.below (hb.mono hs)
theorem below_lays (B : Nat) (w : World) (q : Nat) (os : Array Obj) (hB : B ≤ w.heap.size) : Below B w (grow (w.drewN q) os) :=
  ⟨rfl, rfl, rfl, by first | (simp [grow]; done) | (simp [grow]; omega), fun i hi => by
    show ((w.drewN q).heap ++ os)[i]? = _
    rw [Array.getElem?_append_left (by show i < w.heap.size; omega)]
    rfl⟩
theorem ite_same' {α : Sort _} {p q : Prop} [Decidable p] [Decidable q] {a b c d : α} (h : p ↔ q) (h1 : a = b) (h2 : c = d) : (if p then a else c) = if q then b else d := by
  subst h1 h2
  by_cases hp : p
  · rw [if_pos hp, if_pos (h.1 hp)]
  · rw [if_neg hp, if_neg (fun hq => hp (h.2 hq))]
theorem below_parse {w w' : World} {t : TypeId} {s : ByteArray} (h : w' = w ∨ w' = Lib.bytesWorld w t s) : Below w.heap.size w w' := by
  rcases h with rfl | rfl
  · exact Below.refl _ _
  · exact Lib.bytesWorld_below _ _ _
theorem log_list : (⟨#[108, 111, 103, 45]⟩ : ByteArray).toList = [108, 111, 103, 45] := by rw [Lib.toList_data]
theorem itoa_nat (g : Nat) : Lib.itoa (g : Int) = Lib.decDigits g := by
  unfold Lib.itoa
  rw [if_neg (by omega), Int.toNat_natCast]
theorem itoa_calls (g : Nat) (hg : g < 100000000) (w : World) {b : Nat} (hV : VP b w) :
    Calls Tryd.prog 37 #[.int .i64 g] w fun e w' => ∃ s : ByteArray, e = .returned (.string s) ∧ s.data.toList = Lib.decDigits g ∧ s.size ≤ 8 ∧ Below w.heap.size w w' := by
  obtain ⟨ev, hv⟩ := hV.vw
  refine (Any.strconv_Itoa Tryd.laysM171 g (by omega) (by omega) w hv.pow).mono ?_
  rintro e w' ⟨rfl, k, os, rfl⟩
  rw [itoa_nat]
  exact ⟨_, rfl, rfl, by have := dig_len hg; show (Lib.decDigits g).toArray.size ≤ 8; rw [List.size_toArray]; exact this, below_lays _ w k os (Nat.le_refl _)⟩
theorem name_is {g : Nat} {s : ByteArray} (hs : s.data.toList = Lib.decDigits g) (h8 : s.size ≤ 8) : (⟨#[108, 111, 103, 45]⟩ : ByteArray) ++ (⟨#[48, 48, 48, 48, 48, 48, 48, 48]⟩ : ByteArray).extract 0 (8 - s.size) ++ s = nameS g := by
  have hl : (Lib.decDigits g).length = s.size := by rw [← hs]; rfl
  have he : (⟨#[48, 48, 48, 48, 48, 48, 48, 48]⟩ : ByteArray).extract 0 (8 - s.size) = ⟨(List.replicate (8 - s.size) 48).toArray⟩ := by
    have : s.size = 0 ∨ s.size = 1 ∨ s.size = 2 ∨ s.size = 3 ∨ s.size = 4 ∨ s.size = 5 ∨ s.size = 6 ∨ s.size = 7 ∨ s.size = 8 := by omega
    rcases this with h | h | h | h | h | h | h | h | h <;> rw [h] <;> rfl
  apply ByteArray.ext
  apply Array.ext'
  rw [he]
  simp only [ByteArray.data_append, Array.toList_append, hs, nameS, nameL, padL, logL, hl, List.append_assoc]
set_option maxRecDepth 100000 in
set_option maxHeartbeats 4000000 in
theorem name_calls (g : Nat) (hg : g < 100000000) (w : World) {b : Nat} (hV : VP b w) :
    Calls Tryd.prog 24 #[.int .i64 g] w fun e w' => e = .returned (.string (nameS g)) ∧ Below w.heap.size w w' := by
  have HG := Aside0.mk hg
  have HV := Aside0.mk hV
  clear hg hV
  go_enter Tryd.func24, Tryd.ntmps24
  go_wp2_with (go_at_call 37; refine (itoa_calls g HG.out _ HV.out).mono ?_; rintro e w2 ⟨s, rfl, hs, h8, hb⟩; have HS := Aside0.mk hs; have HB := Aside0.mk hb; have HS8 := Aside0.mk h8; have z8 : (s.size : Int) ≤ 8 := (by omega); have y8 : (0 : Int) ≤ 8 - (s.size : Int) := (by omega); clear hs hb h8)
  go_ret
  exact ⟨by rw [← name_is HS.out HS8.out, show 8 - s.size = (max 0 (8 - (s.size : Int))).toNat by have := HS8.out; omega]; rfl, HB.out⟩
theorem ext_list (s : ByteArray) (a b : Nat) : (s.extract a b).data.toList = (s.data.toList.drop a).take (b - a) := by
  rw [ByteArray.data_extract, Array.toList_extract, List.extract_eq_take_drop]
theorem len_list (s : ByteArray) : s.data.toList.length = s.size := rfl
section
variable (nm : ByteArray) (w : World)
set_option maxRecDepth 100000 in
set_option maxHeartbeats 4000000 in
theorem gen_size (h12 : nm.size ≠ 12) :
    Calls Tryd.prog 42 #[.string nm] w fun e w' => e = .returned (.int .i64 0) ∧ Below w.heap.size w w' := by
  have z1 : ((nm.size : Int) != 12) = true := by
    simp only [bne_iff_ne, ne_eq]; omega
  have z2 : decide ((nm.size : Int) = 12) = false := decide_eq_false (by omega)
  clear h12
  go_enter Tryd.func42, Tryd.ntmps42
  go_wp2
  go_ret
  exact ⟨rfl, Below.refl _ _⟩
set_option maxRecDepth 100000 in
set_option maxHeartbeats 4000000 in
theorem gen_other (h12 : nm.size = 12) (hl : ¬ nm.extract 0 4 = ⟨#[108, 111, 103, 45]⟩) :
    Calls Tryd.prog 42 #[.string nm] w fun e w' => e = .returned (.int .i64 0) ∧ Below w.heap.size w w' := by
  have z1 : ((nm.size : Int) != 12) = false := by
    simp only [bne_eq_false_iff_eq]; omega
  have z2 : decide ((nm.size : Int) = 12) = true := decide_eq_true (by omega)
  have z3 : (4 : Int) ≤ (nm.size : Int) := by omega
  have z4 : ((nm.extract 0 4).toList == [108, 111, 103, 45]) = false := by
    cases hq : (nm.extract 0 4).toList == [108, 111, 103, 45]
    · rfl
    · exact absurd (ba_ext (b := ⟨#[108, 111, 103, 45]⟩) ((eq_of_beq hq).trans log_list.symm)) hl
  clear h12 hl
  go_enter Tryd.func42, Tryd.ntmps42
  go_wp2
  go_ret
  exact ⟨rfl, Below.refl _ _⟩
set_option maxRecDepth 100000 in
set_option maxHeartbeats 4000000 in
theorem gen_syntax (h12 : nm.size = 12) (hl : nm.extract 0 4 = ⟨#[108, 111, 103, 45]⟩) (hp : Lib.parseUintB 32 (nm.extract 4 nm.size).data.toList = Go.Lib.NumEnd.syntax) {b : Nat} (hV : VP b w) :
    Calls Tryd.prog 42 #[.string nm] w fun e w' => e = .returned (.int .i64 0) ∧ Below w.heap.size w w' := by
  have z1 : ((nm.size : Int) != 12) = false := by
    simp only [bne_eq_false_iff_eq]; omega
  have z2 : decide ((nm.size : Int) = 12) = true := decide_eq_true (by omega)
  have z3 : (4 : Int) ≤ (nm.size : Int) := by omega
  have z4 : ((nm.extract 0 4).toList == [108, 111, 103, 45]) = true := by rw [hl, log_list]; rfl
  obtain ⟨ev, hv⟩ := hV.vw
  have HV := Aside0.mk hv
  have HP := Aside0.mk hp
  have HZ := Aside0.mk (show (nm.extract 4 nm.size).size ≤ 281474976710656 by rw [← len_list, ext_list, List.length_take]; omega)
  clear h12 hl hp hv hV
  go_enter Tryd.func42, Tryd.ntmps42
  go_wp2_with (go_at_call 54; refine (Any.strconv_ParseUint_10_at32_syntax Tryd.laysPu14 (nm.extract 4 nm.size) HZ.out HP.out ev _ HV.out.cell HV.out.kind).mono ?_; rintro e w2 ⟨N_, rfl, _, _, hb⟩; have HB := Aside0.mk hb; clear hb)
  go_ret
  exact ⟨rfl, HB.out⟩
set_option maxRecDepth 100000 in
set_option maxHeartbeats 4000000 in
theorem gen_ok (h12 : nm.size = 12) (hl : nm.extract 0 4 = ⟨#[108, 111, 103, 45]⟩) (u : Nat) (hp : Lib.parseUintB 32 (nm.extract 4 nm.size).data.toList = .ok u) (hu : u < 100000000) {b : Nat} (hV : VP b w) (hbw : b ≤ w.heap.size) :
    Calls Tryd.prog 42 #[.string nm] w fun e w' => e = .returned (.int .i64 (if nameS u = nm then u else 0 : Nat)) ∧ Below w.heap.size w w' := by
  have z1 : ((nm.size : Int) != 12) = false := by
    simp only [bne_eq_false_iff_eq]; omega
  have z2 : decide ((nm.size : Int) = 12) = true := decide_eq_true (by omega)
  have z3 : (4 : Int) ≤ (nm.size : Int) := by omega
  have z4 : ((nm.extract 0 4).toList == [108, 111, 103, 45]) = true := by rw [hl, log_list]; rfl
  have z5 : (0 : Int) ≤ (u : Int) := by omega
  have z6 : (u : Int) < 100000000 := by omega
  have HV := Aside0.mk hV
  have HP := Aside0.mk hp
  have HU := Aside0.mk hu
  have HBW := Aside0.mk hbw
  have HZ := Aside0.mk (show (nm.extract 4 nm.size).size ≤ 9223372036854775806 by rw [← len_list, ext_list, List.length_take]; omega)
  clear h12 hl hp hV hu hbw
  have HT1 := Aside0.mk trivial
  by_cases hn : nameS u = nm
  · rw [if_pos hn]
    have z7 : ((nameS u).toList == nm.toList) = true := by rw [hn]; exact beq_self_eq_true _
    have HN := Aside0.mk hn
    clear hn
    go_enter Tryd.func42, Tryd.ntmps42
    go_wp2_with (first
      | (go_at_call 54; have q_ := HT1.out; clear q_ HT1; refine (Any.strconv_ParseUint_10_at32_ok Tryd.laysPu14 (nm.extract 4 nm.size) HZ.out u HP.out _).mono ?_; rintro e w2 ⟨rfl, hw⟩; have HB := Aside0.mk (below_parse hw); clear hw; have HT2 := Aside0.mk trivial)
      | (go_at_call 24; have q_ := HT2.out; clear q_ HT2; refine (name_calls u HU.out _ (HV.out.new HB.out HBW.out)).mono ?_; rintro e w3 ⟨rfl, hb3⟩; have HB3 := Aside0.mk (HB.out.trans (hb3.mono HB.out.size)); clear hb3))
    go_ret
    exact ⟨rfl, HB3.out⟩
  · rw [if_neg hn]
    have z7 : ((nameS u).toList == nm.toList) = false := by
      cases hq : (nameS u).toList == nm.toList
      · rfl
      · exact absurd (ba_ext (eq_of_beq hq)) hn
    have HN := Aside0.mk hn
    clear hn
    go_enter Tryd.func42, Tryd.ntmps42
    go_wp2_with (first
      | (go_at_call 54; have q_ := HT1.out; clear q_ HT1; refine (Any.strconv_ParseUint_10_at32_ok Tryd.laysPu14 (nm.extract 4 nm.size) HZ.out u HP.out _).mono ?_; rintro e w2 ⟨rfl, hw⟩; have HB := Aside0.mk (below_parse hw); clear hw; have HT2 := Aside0.mk trivial)
      | (go_at_call 24; have q_ := HT2.out; clear q_ HT2; refine (name_calls u HU.out _ (HV.out.new HB.out HBW.out)).mono ?_; rintro e w3 ⟨rfl, hb3⟩; have HB3 := Aside0.mk (HB.out.trans (hb3.mono HB.out.size)); clear hb3))
    go_ret
    exact ⟨rfl, HB3.out⟩
theorem generation_calls {b : Nat} (hV : VP b w) (hbw : b ≤ w.heap.size) :
    Calls Tryd.prog 42 #[.string nm] w fun e w' => e = .returned (.int .i64 (genS nm : Nat)) ∧ Below w.heap.size w w' := by
  have e4 : (nm.extract 0 4).data.toList = nm.data.toList.take 4 := by rw [ext_list]; rfl
  have ed : nm.size = 12 → (nm.extract 4 nm.size).data.toList = nm.data.toList.drop 4 := fun h => by
    rw [ext_list, List.take_of_length_le]
    rw [List.length_drop, len_list]; omega
  by_cases h12 : nm.size = 12
  · by_cases hl : nm.extract 0 4 = ⟨#[108, 111, 103, 45]⟩
    · have hc : nm.data.toList.length = 12 ∧ nm.data.toList.take 4 = logL := ⟨h12, by rw [← e4, hl]; rfl⟩
      rcases parse_eight (l := nm.data.toList.drop 4) (by rw [List.length_drop, len_list]; omega) with e | ⟨u, e, hu⟩
      · have : genS nm = 0 := genL_syntax e
        rw [this]
        exact gen_syntax nm w h12 hl (by rw [ed h12]; exact e) hV
      · have : genS nm = if nameS u = nm then u else 0 := by
          unfold genS
          rw [genL_ok hc e]
          refine ite_same' ⟨fun h => ?_, fun h => ?_⟩ rfl rfl
          · unfold nameS; rw [h]
          · rw [← h]; rfl
        rw [this]
        exact gen_ok nm w h12 hl u (by rw [ed h12]; exact e) hu hV hbw
    · have : genS nm = 0 := genL_out (fun h => hl (by
        apply ByteArray.ext; apply Array.ext'; rw [e4, h.2]; rfl))
      rw [this]
      exact gen_other nm w h12 hl
  · have : genS nm = 0 := genL_out (fun h => h12 h.1)
    rw [this]
    exact gen_size nm w h12
end
def cF (j : Fnd) (v vr : Value) : Array Value := #[.int .i64 j.gen, .int .u32 j.sum, v, vr, .int .i64 j.size, .int .i64 j.all, .int .i64 j.sure]
def zF : Array Value := cF Fnd.zero (.slice none 0 0) (.slice none 0 0)
structure SkI (fs : List Fl) (gb : ByteArray → Nat) (m gr gj gi : Nat) (w wr : World) (left : Lit → Bool) (cnt : Nat) (ss : List (List UInt8)) (j : Fnd) (v : Value) : Prop where
  rg : wr.ranges Tryd.prog 9 ptrE m gi fs.length (mapD fs gb) left cnt
  col : Collected (mapD (H := Unit) fs gb) left ss
  best : Best (fun f => f ∈ fs ∧ f.f0.data.toList ∈ ss) j
  rcs : j.recs = []
  blr : wr.heap[gr]? = some (.cells zF 81 (0, 0))
  blj : wr.heap[gj]? = some (.cells (cF j v (.slice none 0 0)) 81 (0, 0))
  row : wr.ownsRow (gi + 1) 5 1 v j.summary.length (nums .u8 j.summary)
  bel : Below gr w wr
structure SkO (m gr gj gi : Nat) : Prop where
  m : m < gr
  j : gj = gr + 1
  i : gi = gr + 2
theorem key_file {fs : List Fl} (hs : Rises fs) {gb : ByteArray → Nat} {x : List UInt8} {p : Option Addr} {y : DataW Unit × List MemPlace} (hv : ptrE (.pointer p) = some y) (hat : ∀ zd : DataW Unit, (mapD fs gb).atKey (.string x) zd = y.1) :
    ∃ f, f ∈ fs ∧ f.f0 = ⟨x.toArray⟩ ∧ p = some ⟨gb f.f0, 0, none⟩ ∧ ∀ f' ∈ fs, f'.f0.data.toList = x → f' = f := by
  obtain ⟨nm, hnm⟩ : ∃ nm : ByteArray, nm = ⟨x.toArray⟩ := ⟨_, rfl⟩
  have hx : nm.data.toList = x := by rw [hnm]
  have ht : there fs nm = true := by
    cases ht : there fs nm
    · have h1 := hat .nil
      have h2 := hat (.lit (.int .i64 0))
      rw [← hx, mapD_at hs gb nm, ht] at h1 h2
      simp only [Bool.false_eq_true, if_false] at h1 h2
      rw [← h1] at h2
      cases h2
    · rfl
  have hy := hat .nil
  rw [← hx, mapD_at hs gb nm, if_pos ht] at hy
  obtain ⟨hl, hg, he⟩ := there_get ht
  refine ⟨getF fs nm, there_mem ht, by rw [he, hnm], ?_, fun f' hf' hn => ?_⟩
  · obtain ⟨p', e, h | ⟨_, h⟩⟩ := ptrE_inv hv
    · obtain ⟨g', rfl, h⟩ := h
      rw [← hy] at h
      injection h with h
      injection h with h1 h2
      have h2 : (gb nm : Int) = (g' : Int) := h2
      injection e with e
      rw [e, he, Int.ofNat_inj.1 h2]
    · rw [← hy] at h; cases h
  · obtain ⟨h1, h2⟩ := there_of_mem hs hf'
    have : f'.f0 = nm := ba_ext (by rw [Lib.toList_data, Lib.toList_data, hn, hx])
    rw [← this]; exact h2.symm
theorem SkI.start {fs : List Fl} {gb : ByteArray → Nat} {m gr : Nat} {w W2 w0 : World} (ho : SkO m gr (gr + 1) (gr + 2)) (hs : W2.heap.size = gr + 2) (hr : W2.heap[gr]? = some (.cells zF 81 (0, 0))) (hj : W2.heap[gr + 1]? = some (.cells zF 81 (0, 0))) (hb : Below gr w W2)
    (hrg : w0.ranges Tryd.prog 9 ptrE m W2.heap.size fs.length (mapD fs gb) (Maps.has (mapD (H := Unit) fs gb)) (Maps.size (mapD (H := Unit) fs gb))) (hg : W2.grownBy w0 none) : SkI fs gb m gr (gr + 1) (gr + 2) w w0 (Maps.has (mapD (H := Unit) fs gb)) (Maps.size (mapD (H := Unit) fs gb)) [] Fnd.zero (.slice none 0 0) := by
  rw [hs] at hrg
  refine ⟨hrg, Collected.start _, Best.start.congr (fun f => by simp), rfl, (hg.block gr (by omega) (by simp)).trans hr, (hg.block (gr + 1) (by omega) (by simp)).trans hj, own_nil _ _ _ _, hb.grown hg (by omega) (fun k hk => by cases hk)⟩
section
variable {fs : List Fl} {gb : ByteArray → Nat} {m gr gj gi : Nat} {w wr w2 Wf : World} {left : Lit → Bool} {cnt cnt2 : Nat} {ss : List (List UInt8)} {j : Fnd} {v : Value} {x : List UInt8}
theorem best_snoc {f : Fl} (h : Best (fun f => f ∈ fs ∧ f.f0.data.toList ∈ ss) j) (hf : f ∈ fs) (hn : f.f0 = ⟨x.toArray⟩) (hu : ∀ f' ∈ fs, f'.f0.data.toList = x → f' = f) : Best (fun f => f ∈ fs ∧ f.f0.data.toList ∈ ss ++ [x]) (stepB j f) := by
  refine (h.step f).congr fun f' => ?_
  rw [List.mem_append, List.mem_singleton]
  constructor
  · rintro ⟨h1, h2 | h2⟩
    · exact .inl ⟨h1, h2⟩
    · exact .inr (hu f' h1 h2)
  · rintro (⟨h1, h2⟩ | rfl)
    · exact ⟨h1, .inl h2⟩
    · exact ⟨hf, .inr (by rw [hn])⟩
theorem SkI.keep (h : SkI fs gb m gr gj gi w wr left cnt ss j v) (ho : SkO m gr gj gi) (hrg : w2.ranges Tryd.prog 9 ptrE m gi fs.length (mapD fs gb) (fun z => left z && !z.sameKey (.string x)) cnt2) (hg : wr.grownBy w2 (some gi)) (hb : Below w2.heap.size w2 Wf)
    (hlk : left (.string x) = true) {y : DataW Unit} (hat : ∀ zd : DataW Unit, (mapD fs gb).atKey (.string x) zd = y) {f : Fl} (hf : f ∈ fs) (hn : f.f0 = ⟨x.toArray⟩) (hu : ∀ f' ∈ fs, f'.f0.data.toList = x → f' = f) (hst : stepB j f = j) :
    SkI fs gb m gr gj gi w Wf (fun z => left z && !z.sameKey (.string x)) cnt2 (ss ++ [x]) j v := by
  have h1 := ho.j
  have h2 := ho.i
  have hgo : ∀ k, k < wr.heap.size → k ≠ gi → Wf.heap[k]? = wr.heap[k]? := fun k hk hne =>
    (hb.block k (Nat.lt_of_lt_of_le hk hg.size)).trans (hg.block k hk (fun e => by cases e; exact hne rfl))
  refine ⟨hrg.kept (grown_of_below hb none) (by simp) (by simp), h.col.step hlk hat, by have := best_snoc h.best hf hn hu; rwa [hst] at this, h.rcs, ?_, ?_, ?_, ?_⟩
  · exact (hgo _ (blk_lt h.blr) (by omega)).trans h.blr
  · exact (hgo _ (blk_lt h.blj) (by omega)).trans h.blj
  · exact own_move h.row fun k hk => hgo k (own_lt h.row k hk) (by have := own_base h.row k hk; omega)
  · have hs : gr ≤ w2.heap.size := Nat.le_trans (Nat.le_of_lt (blk_lt h.blr)) hg.size
    exact (h.bel.grown hg (Nat.le_of_lt (blk_lt h.blr)) (fun k hk => by cases hk; omega)).trans (hb.mono hs)
theorem SkI.take (h : SkI fs gb m gr gj gi w wr left cnt ss j v) (ho : SkO m gr gj gi) (hrg : w2.ranges Tryd.prog 9 ptrE m gi fs.length (mapD fs gb) (fun z => left z && !z.sameKey (.string x)) cnt2) (hg : wr.grownBy w2 (some gi)) (hgj : w2.grownBy Wf (some gj))
    (hlk : left (.string x) = true) {y : DataW Unit} (hat : ∀ zd : DataW Unit, (mapD fs gb).atKey (.string x) zd = y) {f : Fl} (hf : f ∈ fs) (hn : f.f0 = ⟨x.toArray⟩) (hu : ∀ f' ∈ fs, f'.f0.data.toList = x → f' = f) {k : Fnd} (hst : stepB j f = k) (hk : k.recs = []) {v' : Value}
    (hbl : Wf.heap[gj]? = some (.cells (cF k v' (.slice none 0 0)) 81 (0, 0))) (hrow : Wf.ownsRow (gi + 1) 5 1 v' k.summary.length (nums .u8 k.summary)) :
    SkI fs gb m gr gj gi w Wf (fun z => left z && !z.sameKey (.string x)) cnt2 (ss ++ [x]) k v' := by
  have h1 := ho.j
  have h2 := ho.i
  have h0 := ho.m
  have hsz := blk_lt h.blr
  refine ⟨hrg.kept hgj (by simp; omega) (by simp; omega), h.col.step hlk hat, by have := best_snoc h.best hf hn hu; rwa [hst] at this, hk, ?_, hbl, hrow, ?_⟩
  · exact ((hgj.block gr (Nat.lt_of_lt_of_le hsz hg.size) (by simp; omega)).trans (hg.block gr hsz (by simp; omega))).trans h.blr
  · exact (h.bel.grown hg (Nat.le_of_lt hsz) (fun k hk => by cases hk; omega)).grown hgj (Nat.le_trans (Nat.le_of_lt hsz) hg.size) (fun k hk => by cases hk; omega)
theorem SkI.last (h : SkI fs gb m gr gj gi w wr left cnt ss j v) (hs : Rises fs) (hown : wr.ownsMap Tryd.prog 9 ptrE m fs.length (mapD fs gb)) (hl : ∀ kl, left kl = false) : j = bestS fs := by
  have hperm := h.col.perm hown lawS Tryd.underlying9 hl
  refine best_is hs (h.best.congr fun f => ⟨fun hf => ⟨hf, ?_⟩, fun hf => hf.1⟩)
  rw [hperm.mem_iff, strKeys_mapD]
  exact List.mem_map.2 ⟨f, hf, rfl⟩
end
theorem step_none {j : Fnd} {f : Fl} (h : wholeS f.f1 0 = none) : stepB j f = j := by
  unfold stepB candF
  by_cases h0 : genS f.f0 = 0
  · rw [if_pos h0]
  · rw [if_neg h0, h]
theorem step_less {j : Fnd} {f : Fl} (h : genS f.f0 ≤ j.gen) : stepB j f = j := by
  unfold stepB
  rcases e : candF f with _ | k
  · rfl
  · show (if k.gen ≤ j.gen then j else k) = j
    rw [if_pos (by rw [(candF_gen e).1]; exact h)]
theorem step_more {j : Fnd} {f : Fl} {s : Nat} {r : Rec} {sz : Nat} (h : wholeS f.f1 0 = some (s, r, sz)) (hg : ¬ genS f.f0 ≤ j.gen) : stepB j f = ⟨genS f.f0, s, r.body, [], sz, f.f1.length, f.f2⟩ := by
  unfold stepB candF
  rw [if_neg (by omega), h]
  show (if genS f.f0 ≤ j.gen then j else _) = _
  rw [if_neg hg]
def flatR (L : List (Rec × Value)) : List Value := L.flatMap fun p => [.int .u8 p.1.kind, p.2]
structure RcL (b : Nat) (W : World) (v : Value) (L : List (Rec × Value)) : Prop where
  own : W.ownsRow b 37 2 v L.length (flatR L)
  rows : ∀ p ∈ L, W.ownsRow b 5 1 p.2 p.1.body.length (nums .u8 p.1.body)
theorem RcL.nil (b : Nat) (W : World) : RcL b W (.slice none 0 0) [] := ⟨own_nil _ _ _ _, fun p hp => by cases hp⟩
theorem RcL.below {b : Nat} {W W' : World} {v : Value} {L : List (Rec × Value)} (h : RcL b W v L) (hb : Below W.heap.size W W') : RcL b W' v L :=
  ⟨own_move h.own fun k hk => hb.block _ (own_lt h.own k hk), fun p hp => own_move (h.rows p hp) fun k hk => hb.block _ (own_lt (h.rows p hp) k hk)⟩
theorem RcL.lower {b b' : Nat} {W : World} {v : Value} {L : List (Rec × Value)} (h : RcL b W v L) (hb : b' ≤ b) : RcL b' W v L := ⟨own_lower h.own hb, fun p hp => own_lower (h.rows p hp) hb⟩
theorem flatR_one (L : List (Rec × Value)) (p : Rec × Value) : flatR L ++ [.int .u8 p.1.kind, p.2] = flatR (L ++ [p]) := by simp [flatR]
theorem RcL.snoc {b : Nat} {W w1 : World} {v v1 : Value} {L : List (Rec × Value)} (h : RcL b W v L) {p : Rec × Value} (hp : W.ownsRow b 5 1 p.2 p.1.body.length (nums .u8 p.1.body)) (hg : W.grownBy w1 v.ownBlock)
    (ho : w1.ownsRow b 37 2 v1 (L.length + 1) (flatR L ++ [.int .u8 p.1.kind, p.2])) : RcL b w1 v1 (L ++ [p]) := by
  rw [flatR_one] at ho
  refine ⟨by rw [List.length_append]; exact ho, fun q hq => ?_⟩
  rw [List.mem_append, List.mem_singleton] at hq
  rcases hq with hq | rfl
  · exact own_other (h.rows q hq) hg (own_type_ne (h.rows q hq) h.own (by decide))
  · exact own_other hp hg (own_type_ne hp h.own (by decide))
theorem RcL.other {b r : Nat} {W W' : World} {v : Value} {L : List (Rec × Value)} (h : RcL b W v L) (hg : W.grownBy W' (some r)) (hr : r < b) : RcL b W' v L :=
  ⟨own_move h.own fun k hk => hg.block k (own_lt h.own k hk) (by have := own_base h.own k hk; simp; omega), fun p hp => own_move (h.rows p hp) fun k hk => hg.block k (own_lt (h.rows p hp) k hk) (by have := own_base (h.rows p hp) k hk; simp; omega)⟩
def SeekPost (w w' : World) (e : Ending) (j : Fnd) : Prop := ∃ v vr L, e = .returned (.agg (cF j v vr)) ∧ w'.ownsRow w.heap.size 5 1 v j.summary.length (nums .u8 j.summary) ∧ RcL w.heap.size w' vr L ∧ L.map (·.1) = j.recs ∧ Below w.heap.size w w'
theorem box_put {W W' : World} {g : Nat} {j k : Fnd} {v vr v' vr' : Value} (h : W.heap[g]? = some (.cells (cF j v vr) 81 (0, 0)))
    (hW : W' = ((((((W.setCell ⟨g, 0, none⟩ (.int .i64 k.gen)).setCell ⟨g, 1, none⟩ (.int .u32 k.sum)).setCell ⟨g, 2, none⟩ v').setCell ⟨g, 3, none⟩ vr').setCell ⟨g, 4, none⟩ (.int .i64 k.size)).setCell ⟨g, 5, none⟩ (.int .i64 k.all)).setCell ⟨g, 6, none⟩ (.int .i64 k.sure)) :
    W'.heap[g]? = some (.cells (cF k v' vr') 81 (0, 0)) ∧ W.grownBy W' (some g) := by
  subst hW
  have e : (((((((cF j v vr).setIfInBounds 0 (.int .i64 k.gen)).setIfInBounds 1 (.int .u32 k.sum)).setIfInBounds 2 v').setIfInBounds 3 vr').setIfInBounds 4 (.int .i64 k.size)).setIfInBounds 5 (.int .i64 k.all)).setIfInBounds 6 (.int .i64 k.sure) = cF k v' vr' := by simp [cF]
  have q := blk_set (blk_set (blk_set (blk_set (blk_set (blk_set (blk_set h 0 (.int .i64 k.gen)) 1 (.int .u32 k.sum)) 2 v') 3 vr') 4 (.int .i64 k.size)) 5 (.int .i64 k.all)) 6 (.int .i64 k.sure)
  rw [e] at q
  exact ⟨q, gb_set (gb_set (gb_set (gb_set (gb_set (gb_set (gb_set (grown_of_below (Below.refl _ _) _) 0 _) 1 _) 2 _) 3 _) 4 _) 5 _) 6 _⟩
structure BoxF (W : World) (g : Nat) (j : Fnd) (v vr : Value) : Prop where
  k0 : W.cell? ⟨g, 0, none⟩ = some (.int .i64 j.gen)
  k1 : W.cell? ⟨g, 1, none⟩ = some (.int .u32 j.sum)
  k2 : W.cell? ⟨g, 2, none⟩ = some v
  k3 : W.cell? ⟨g, 3, none⟩ = some vr
  k4 : W.cell? ⟨g, 4, none⟩ = some (.int .i64 j.size)
  k5 : W.cell? ⟨g, 5, none⟩ = some (.int .i64 j.all)
  k6 : W.cell? ⟨g, 6, none⟩ = some (.int .i64 j.sure)
  y0 : W.frozen? ⟨g, 0, none⟩ = false
  y1 : W.frozen? ⟨g, 1, none⟩ = false
  y2 : W.frozen? ⟨g, 2, none⟩ = false
  y3 : W.frozen? ⟨g, 3, none⟩ = false
  y4 : W.frozen? ⟨g, 4, none⟩ = false
  y5 : W.frozen? ⟨g, 5, none⟩ = false
  y6 : W.frozen? ⟨g, 6, none⟩ = false
theorem boxF {W : World} {g : Nat} {j : Fnd} {v vr : Value} (h : W.heap[g]? = some (.cells (cF j v vr) 81 (0, 0))) : BoxF W g j v vr :=
  ⟨(blk_cell h 0).trans rfl, (blk_cell h 1).trans rfl, (blk_cell h 2).trans rfl, (blk_cell h 3).trans rfl, (blk_cell h 4).trans rfl, (blk_cell h 5).trans rfl, (blk_cell h 6).trans rfl, blk_frozen h 0, blk_frozen h 1, blk_frozen h 2, blk_frozen h 3, blk_frozen h 4, blk_frozen h 5, blk_frozen h 6⟩
set_option maxRecDepth 100000 in
theorem res_seek {W : World} {g : Nat} {j : Fnd} {v vr : Value} {tmps : Array Value} (ht : tmps.getD 2 undef = .pointer (some ⟨g, 0, none⟩)) (hc : W.heap[g]? = some (.cells (cF j v vr) 81 (0, 0))) :
    (results Tryd.f32 tmps).run Tryd.prog W = .ok (.agg (cF j v vr)) W := by
  have hr : Tryd.f32.results = #[.cell 2 81] := by kernel_rfl
  have ht' : tmps[2]?.getD undef = .pointer (some ⟨g, 0, none⟩) := by rw [← ht]; simp
  obtain ⟨k0, k1, k2, k3, k4, k5, k6, _⟩ := boxF hc
  simp [results, hr, go_sem, ht', k0, k1, k2, k3, k4, k5, k6, cF]
structure SkJ (j : Fnd) (data : List Int) (gr : Nat) (w wq : World) (rs : List Rec) (L : List (Rec × Value)) (v vr : Value) (kq : Nat) (tot : List Rec) : Prop where
  blr : wq.heap[gr]? = some (.cells zF 81 (0, 0))
  blj : wq.heap[gr + 1]? = some (.cells (cF (j.got rs) v vr) 81 (0, 0))
  room : gr + 3 ≤ wq.heap.size
  row : wq.ownsRow (gr + 3) 5 1 v j.summary.length (nums .u8 j.summary)
  rcl : RcL (gr + 3) wq vr L
  fst : L.map (·.1) = rs
  bel : Below gr w wq
  tot : tot = rs ++ scanS j.sum kq (data.drop (j.got rs).size) (rs.length + 1)
  fit : (j.got rs).size ≤ data.length
  fuel : data.length < (j.got rs).size + kq
theorem got_snoc (j : Fnd) (rs : List Rec) (r : Rec) : (j.got (rs ++ [r])).size = (j.got rs).size + (18 + r.body.length) := by
  show j.size + (recsB j.sum 1 (rs ++ [r])).length = j.size + (recsB j.sum 1 rs).length + _
  rw [recsB_append, List.length_append]
  have : (recsB j.sum (1 + rs.length) [r]).length = 18 + r.body.length := by rw [recsB_len]; simp
  omega
section
variable {j : Fnd} {data : List Int} {gr : Nat} {w wq W8 : World} {rs : List Rec} {L : List (Rec × Value)} {v vr : Value} {kq : Nat} {tot : List Rec}
theorem SkJ.more (h : SkJ j data gr w wq rs L v vr (kq + 1) tot) (hb : Byt data) {s : Nat} {r : Rec} {sz : Nat} (hw : wholeS (data.drop (j.got rs).size) (rs.length + 1) = some (s, r, sz)) (hs : s = j.sum) :
    tot = (rs ++ [r]) ++ scanS j.sum kq (data.drop (j.got (rs ++ [r])).size) ((rs ++ [r]).length + 1) ∧ (j.got (rs ++ [r])).size ≤ data.length ∧ data.length < (j.got (rs ++ [r])).size + kq ∧ (j.got (rs ++ [r])).size = (j.got rs).size + sz ∧ sz = 18 + r.body.length := by
  obtain ⟨⟨rest, h1⟩, h2, h3, h4, h5, h6, h7⟩ := whole_inv (hb.drop _) hw
  have hl := congrArg List.length h1
  rw [List.length_append, pieceS_len, List.length_drop] at hl
  have hg := got_snoc j rs r
  have hf := h.fuel
  have hfit := h.fit
  refine ⟨?_, by omega, by omega, by omega, h5⟩
  have ht := h.tot
  rw [scanS, hw] at ht
  simp only [if_pos hs] at ht
  rw [ht, List.drop_drop, hg, h5, List.append_assoc, List.length_append]
  rfl
theorem SkJ.nomore (h : SkJ j data gr w wq rs L v vr kq tot) (hw : ∀ s r sz, wholeS (data.drop (j.got rs).size) (rs.length + 1) = some (s, r, sz) → s ≠ j.sum) : tot = rs := by
  rw [h.tot]
  cases kq with
  | zero => rw [scanS, List.append_nil]
  | succ k =>
    rw [scanS]
    rcases e : wholeS (data.drop (j.got rs).size) (rs.length + 1) with _ | ⟨s, r, sz⟩
    · simp
    · simp [if_neg (hw s r sz e)]
theorem SkJ.below (h : SkJ j data gr w wq rs L v vr kq tot) (hb : Below wq.heap.size wq W8) : SkJ j data gr w W8 rs L v vr kq tot :=
  ⟨(hb.block _ (blk_lt h.blr)).trans h.blr, (hb.block _ (blk_lt h.blj)).trans h.blj, Nat.le_trans h.room hb.size, own_move h.row fun k hk => hb.block k (own_lt h.row k hk), h.rcl.below hb, h.fst, h.bel.trans (hb.mono (Nat.le_of_lt (blk_lt h.blr))), h.tot, h.fit, h.fuel⟩
theorem SkJ.post (h : SkJ j data gr w wq rs L v vr kq tot) (hgr : gr = w.heap.size) (ht : tot = rs) {Wf : World} (hW : Wf = ((((((wq.setCell ⟨gr, 0, none⟩ (.int .i64 (j.got rs).gen)).setCell ⟨gr, 1, none⟩ (.int .u32 (j.got rs).sum)).setCell ⟨gr, 2, none⟩ v).setCell ⟨gr, 3, none⟩ vr).setCell ⟨gr, 4, none⟩ (.int .i64 (j.got rs).size)).setCell ⟨gr, 5, none⟩ (.int .i64 (j.got rs).all)).setCell ⟨gr, 6, none⟩ (.int .i64 (j.got rs).sure)) :
    Wf.heap[gr]? = some (.cells (cF (j.got rs) v vr) 81 (0, 0)) ∧ SeekPost w Wf (.returned (.agg (cF (j.got rs) v vr))) (j.got tot) := by
  obtain ⟨h1, h2⟩ := box_put (k := j.got rs) (v' := v) (vr' := vr) h.blr hW
  subst ht
  refine ⟨h1, v, vr, L, rfl, ?_, (h.rcl.other h2 (by omega)).lower (by omega), h.fst, ?_⟩
  · exact own_lower (gb_own h.row h2 (fun e => by have := own_base h.row _ e; omega)) (by omega)
  · rw [← hgr]
    exact h.bel.grown h2 (Nat.le_of_lt (blk_lt h.blr)) (fun k hk => by cases hk; omega)
theorem SkJ.snoc (h : SkJ j data gr w wq rs L v vr (kq + 1) tot) (hb : Byt data) {s : Nat} {r : Rec} {sz : Nat} (hw : wholeS (data.drop (j.got rs).size) (rs.length + 1) = some (s, r, sz)) (hs : s = j.sum)
    (hb8 : Below wq.heap.size wq W8) {v5 v9 : Value} (ho : W8.ownsRow (gr + 3) 5 1 v5 r.body.length (nums .u8 r.body)) {w9 Wf : World} (hg : W8.grownBy w9 vr.ownBlock)
    (ho9 : w9.ownsRow (gr + 3) 37 2 v9 (L.length + 1) (flatR L ++ [.int .u8 r.kind, v5])) (hW : Wf = (w9.setCell ⟨gr + 1, 3, none⟩ v9).setCell ⟨gr + 1, 4, none⟩ (.int .i64 (((j.got rs).size + sz : Nat) : Int))) :
    SkJ j data gr w Wf (rs ++ [r]) (L ++ [(r, v5)]) v v9 kq tot := by
  obtain ⟨t1, t2, t3, t4, t5⟩ := h.more hb hw hs
  have h8 := h.below hb8
  have hne : ∀ k, vr.ownBlock = some k → gr + 3 ≤ k := fun k hk => own_base h.rcl.own k hk
  have hblr : w9.heap[gr]? = some (.cells zF 81 (0, 0)) := (hg.block _ (blk_lt h8.blr) (fun e => by have := hne _ e.symm; omega)).trans h8.blr
  have hblj : w9.heap[gr + 1]? = some (.cells (cF (j.got rs) v vr) 81 (0, 0)) := (hg.block _ (blk_lt h8.blj) (fun e => by have := hne _ e.symm; omega)).trans h8.blj
  have hrow : w9.ownsRow (gr + 3) 5 1 v j.summary.length (nums .u8 j.summary) := own_other h8.row hg (own_type_ne h8.row h8.rcl.own (by decide))
  have hrcl : RcL (gr + 3) w9 v9 (L ++ [(r, v5)]) := h8.rcl.snoc (p := (r, v5)) ho hg ho9
  have hgf : w9.grownBy Wf (some (gr + 1)) := by subst hW; exact gb_set (gb_set (grown_of_below (Below.refl _ _) _) 3 _) 4 _
  have e : ((cF (j.got rs) v vr).setIfInBounds 3 v9).setIfInBounds 4 (.int .i64 (((j.got rs).size + sz : Nat) : Int)) = cF (j.got (rs ++ [r])) v v9 := by
    rw [← t4]; simp [cF, Fnd.got]
  refine ⟨?_, ?_, Nat.le_trans h8.room (Nat.le_trans hg.size hgf.size), ?_, hrcl.other hgf (by omega), by simp [h.fst], ?_, t1, t2, t3⟩
  · exact (hgf.block _ (blk_lt hblr) (by simp)).trans hblr
  · have q := blk_set (blk_set hblj 3 v9) 4 (.int .i64 (((j.got rs).size + sz : Nat) : Int))
    rw [e, ← hW] at q
    exact q
  · exact gb_own hrow hgf (fun e => by have := own_base hrow _ e; omega)
  · have hs8 := Nat.le_of_lt (blk_lt h8.blr)
    exact (h8.bel.grown hg hs8 (fun k hk => by have := hne k hk; omega)).grown hgf (Nat.le_of_lt (blk_lt hblr)) (fun k hk => by cases hk; omega)
theorem sk_box5 (h : SkJ j data gr w wq rs L v vr kq tot) {w5 : World} (hg : wq.grownBy w5 vr.ownBlock) : w5.heap[gr + 1]? = some (.cells (cF (j.got rs) v vr) 81 (0, 0)) :=
  (hg.block _ (blk_lt h.blj) (fun e => by have := own_base h.rcl.own _ e.symm; omega)).trans h.blj
end
theorem sum_18 : ∀ rs : List Rec, 18 * rs.length ≤ (rs.map fun r => 18 + r.body.length).sum
  | [] => by simp
  | r :: rs => by have := sum_18 rs; rw [List.map_cons, List.sum_cons, List.length_cons]; omega
theorem reads_from {W : World} {ad : Addr} {xs : List Int} {c i : Nat} (h : ReadsInt W .u8 (some ad) xs.length xs) (hc : xs.length ≤ c) (hi : 0 < i) (hl : i ≤ xs.length) : ReadsInt W .u8 (if c = i then some ad else some (ad.add i)) (xs.drop i).length (xs.drop i) := by
  rw [List.length_drop]
  by_cases e : c = i
  · refine ⟨by rw [List.length_drop], by have := h.2.1; omega, fun h0 => by omega⟩
  · rw [if_neg e]; exact reads_drop h i hi hl
theorem rec_box {B b g8 : Nat} {wr w8 W9 : World} {kind k0 : Int} {v0 v5 : Value} {n : Nat} {xs : List Value} (hb : Below wr.heap.size wr w8) (hk : w8.heap[g8]? = some (.cells #[.int .u8 k0, v0] 37 (0, 0))) (hg : wr.heap.size ≤ g8) (hW : W9 = (w8.setCell ⟨g8, 0, none⟩ (.int .u8 kind)).setCell ⟨g8, 1, none⟩ v5) :
    Below wr.heap.size wr W9 ∧ W9.heap[g8]? = some (.cells #[.int .u8 kind, v5] 37 (0, 0)) ∧ ∀ {c : Nat}, w8.ownsRow c 5 1 v5 n xs → W9.ownsRow c 5 1 v5 n xs := by
  subst hW
  refine ⟨(hb.setCell (p := ⟨g8, 0, none⟩) hg _).setCell (p := ⟨g8, 1, none⟩) hg _, blk_set (blk_set hk 0 _) 1 _, fun {c} ho => ?_⟩
  have hgr : w8.grownBy ((w8.setCell ⟨g8, 0, none⟩ (.int .u8 kind)).setCell ⟨g8, 1, none⟩ v5) (some g8) := gb_set (gb_set (grown_of_below (Below.refl _ _) _) 0 _) 1 _
  refine gb_own ho hgr fun e => ?_
  rcases ho.2 with ⟨h1, _⟩ | ⟨g', cap, cur, h1, _, hh, _⟩
  · rw [h1] at e; cases e
  · rw [h1] at e
    have : g' = g8 := by injection e
    rw [this, hk] at hh
    injection hh with hh
    injection hh with h1 h2
    exact absurd h2 (by decide)
theorem infoRec : (Tryd.prog.info? 37).map (fun i => (i.zero, i.size, i.bytes)) = some (some (.agg #[.int .u8 0, .slice none 0 0]), 2, 32) := by kernel_rfl
end Go.Proofs.YthneomomhoilkaaDoor.PA
end
