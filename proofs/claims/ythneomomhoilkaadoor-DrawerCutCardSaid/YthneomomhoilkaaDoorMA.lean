/- Several texts of this claim in one, each in a section of its own; what nothing reaches is left out. Conditions: each law's own. -/
import Derived.Test.YthneomomhoilkaaDoorMW
import Derived.Test.YthneomomhoilkaaDoorML
import Derived.Sort.KeysCollected
import Derived.Maps.Views
import Derived.Sort.Walk0
import Derived.Lib.Strings
import Derived.Maps.AppendAt
import Derived.Maps.OwnSet
import Derived.Maps.RangeWalk
import Derived.Lib.BufferMore
import Derived.BigQuiet
set_option linter.unusedVariables false
set_option linter.unusedSimpArgs false
set_option linter.unusedSectionVars false
section
namespace Go.Proofs.YthneomomhoilkaaDoor.PA
open Go.RowKit Go.Proofs.YthneomomhoilkaaDoorW.PrintWords Go.Proofs.YthneomomhoilkaaDoorW.PrintLast Go.Proofs.YthneomomhoilkaaDoorW.PrintMore
theorem wr {x : Int} (h1 : -9223372036854775808 ≤ x) (h2 : x ≤ 9223372036854775807) : wrap64 x = x := by unfold wrap64; omega
def okc (c : Int) : Bool := (decide (97 ≤ c) && decide (c ≤ 122)) || (decide (48 ≤ c) && decide (c ≤ 57)) || decide (c = 45)
def okFrom (s : ByteArray) : Nat → Nat → Bool
  | 0, _ => true
  | d + 1, i => okc (bt s i) && okFrom s d (i + 1)
def Nm (s : ByteArray) : Bool := decide (1 ≤ s.size) && decide (s.size ≤ 12) && okFrom s s.size 0
theorem nm_prog_l (s : ByteArray) (hs : s.size ≤ 140737488355328) : ∀ (d i : Nat), i + d = s.size → ∀ k, d < k → drawer_named.l0 k s (s.size : Int) (i : Int) = some (okFrom s d i)
  | 0, i, h, k, hk => by
    obtain ⟨k, rfl⟩ : ∃ m, k = m + 1 := ⟨k - 1, by omega⟩
    unfold drawer_named.l0 okFrom
    rw [if_neg (by omega)]
  | d + 1, i, h, k, hk => by
    obtain ⟨k, rfl⟩ : ∃ m, k = m + 1 := ⟨k - 1, by omega⟩
    have ih := nm_prog_l s hs d (i + 1) (by omega) k (by omega)
    have e1 : wrap64 ((i : Int) + 1) = ((i + 1 : Nat) : Int) := by rw [wr (by omega) (by omega)]; omega
    unfold drawer_named.l0 okFrom
    rw [if_pos (by omega), if_pos (by omega), if_pos (by omega), e1, ih]
    generalize bt s (i : Int) = c
    unfold okc
    by_cases h1 : c ≥ 97
    · rw [if_pos h1]
      by_cases h2 : c ≤ 122
      · rw [if_pos h2]; simp [h1, h2]
      · rw [if_neg h2, if_pos (show c ≥ 48 by omega), if_neg (show ¬ c ≤ 57 by omega), if_neg (show ¬ c = 45 by omega)]
        simp [h2, show ¬ c ≤ 57 by omega, show ¬ c = 45 by omega]
    · rw [if_neg h1]
      by_cases h2 : c ≥ 48
      · rw [if_pos h2]
        by_cases h3 : c ≤ 57
        · rw [if_pos h3]; simp [h2, h3]
        · rw [if_neg h3, if_neg (show ¬ c = 45 by omega)]
          simp [h1, h3, show ¬ c = 45 by omega] <;> omega
      · rw [if_neg h2]
        by_cases h3 : c = 45
        · rw [if_pos h3]; simp [h3]
        · rw [if_neg h3]; simp [h1, h2, h3] <;> omega
theorem nm_prog (s : ByteArray) (hs : s.size ≤ 140737488355328) : ∃ k, drawer_named.f k s = some (Nm s) := by
  refine ⟨s.size + 2, ?_⟩
  have h := nm_prog_l s hs s.size 0 (by omega) (s.size + 1) (by omega)
  unfold drawer_named.f Nm
  by_cases h1 : (s.size : Int) < 1
  · rw [if_pos h1, decide_eq_false (show ¬ 1 ≤ s.size by omega)]
    unfold drawer_named.j0
    simp
  · rw [if_neg h1, decide_eq_true (show 1 ≤ s.size by omega)]
    by_cases h2 : (s.size : Int) > 12
    · rw [decide_eq_true h2, decide_eq_false (show ¬ s.size ≤ 12 by omega)]
      unfold drawer_named.j0
      simp
    · rw [decide_eq_false h2, decide_eq_true (show s.size ≤ 12 by omega)]
      show (if false = true then some false else drawer_named.l0 (s.size + 1) s (s.size : Int) 0) = _
      rw [if_neg (by decide)]
      simpa using h
theorem pnamed_calls (s : ByteArray) (hs : s.size ≤ 140737488355328) (w : World) : Calls Tryd.prog 34 #[.string s] w fun e w' => e = .returned (.bool (Nm s)) ∧ Drawn0 w w' := by
  obtain ⟨k, h⟩ := nm_prog s hs
  exact drawer_named.calls k s _ w h
theorem same_bytes (l : List Int) : levylaw19_sameBytes.f l l = some true := by unfold levylaw19_sameBytes.f; simp
theorem sameBytes_calls (l : List Int) (A0 A1 : Option Addr) (c0 c1 : Nat) (w : World) (h0 : Kd.C (Kd.int .u8) w A0 l.length l) (hc0 : l.length ≤ c0) (h1 : Kd.C (Kd.int .u8) w A1 l.length l) (hc1 : l.length ≤ c1) :
    Calls Tryd.prog 18 #[.slice A0 l.length c0, .slice A1 l.length c1] w fun e w' => e = .returned (.bool true) ∧ Drawn0 w w' :=
  levylaw19_sameBytes.calls A0 c0 l A1 c1 l true w h0 hc0 h1 hc1 (same_bytes l)
abbrev Fl := S42
def place : List Fl → ByteArray → Nat
  | [], _ => 0
  | f :: r, nm => if f.f0.toList < nm.toList then place r nm + 1 else 0
def there (fs : List Fl) (nm : ByteArray) : Bool := match fs[place fs nm]? with | some f => f.f0.toList == nm.toList | none => false
def addF (fs : List Fl) (f : Fl) : List Fl := fs.take (place fs f.f0) ++ f :: fs.drop (place fs f.f0)
def remF (fs : List Fl) (nm : ByteArray) : List Fl := fs.take (place fs nm) ++ fs.drop (place fs nm + 1)
def setF (fs : List Fl) (nm : ByteArray) (f : Fl) : List Fl := fs.set (place fs nm) f
def getF (fs : List Fl) (nm : ByteArray) : Fl := fs.getD (place fs nm) z42
def Rises (fs : List Fl) : Prop := fs.Pairwise (fun a b => a.f0.toList < b.f0.toList)
theorem ba_ext {a b : ByteArray} (h : a.toList = b.toList) : a = b := by
  rw [Lib.toList_data, Lib.toList_data] at h
  exact ByteArray.ext (Array.ext' h)
theorem place_le : ∀ (fs : List Fl) (nm : ByteArray), place fs nm ≤ fs.length
  | [], _ => Nat.le_refl _
  | f :: r, nm => by
    unfold place
    split
    · have := place_le r nm
      simp only [List.length_cons]; omega
    · exact Nat.zero_le _
theorem place_lt : ∀ (fs : List Fl) (nm : ByteArray) (i : Nat) (f : Fl), i < place fs nm → fs[i]? = some f → f.f0.toList < nm.toList
  | [], _, i, f, h, e => by simp at e
  | g :: r, nm, i, f, h, e => by
    unfold place at h
    split at h
    · rename_i hg
      cases i with
      | zero => simp at e; subst e; exact hg
      | succ j => exact place_lt r nm j f (by omega) (by simpa using e)
    · omega
theorem place_ge : ∀ (fs : List Fl) (nm : ByteArray) (f : Fl), fs[place fs nm]? = some f → ¬ f.f0.toList < nm.toList
  | [], _, f, e => by simp at e
  | g :: r, nm, f, e => by
    unfold place at e
    split at e
    · exact place_ge r nm f (by simpa using e)
    · rename_i hg
      simp at e; subst e; exact hg
theorem place_is {fs : List Fl} {nm : ByteArray} {i : Nat} (hi : i ≤ fs.length) (h1 : ∀ j f, j < i → fs[j]? = some f → f.f0.toList < nm.toList) (h2 : ∀ f, fs[i]? = some f → ¬ f.f0.toList < nm.toList) : place fs nm = i := by
  rcases Nat.lt_trichotomy (place fs nm) i with h | h | h
  · have hl : place fs nm < fs.length := by omega
    exact absurd (h1 _ _ h (List.getElem?_eq_getElem hl)) (place_ge fs nm _ (List.getElem?_eq_getElem hl))
  · exact h
  · have hl : i < fs.length := Nat.lt_of_lt_of_le h (place_le fs nm)
    exact absurd (place_lt fs nm i _ h (List.getElem?_eq_getElem hl)) (h2 _ (List.getElem?_eq_getElem hl))
theorem there_get {fs : List Fl} {nm : ByteArray} (h : there fs nm = true) : place fs nm < fs.length ∧ fs[place fs nm]? = some (getF fs nm) ∧ (getF fs nm).f0 = nm := by
  unfold there at h
  cases hf : fs[place fs nm]? with
  | none => rw [hf] at h; cases h
  | some f =>
    rw [hf] at h
    have e : getF fs nm = f := by unfold getF; rw [List.getD_eq_getElem?_getD, hf]; rfl
    have hl : place fs nm < fs.length := (List.getElem?_eq_some_iff.1 hf).1
    exact ⟨hl, by rw [e], by rw [e]; exact ba_ext (by simpa using h)⟩
theorem there_mem {fs : List Fl} {nm : ByteArray} (h : there fs nm = true) : getF fs nm ∈ fs := List.mem_of_getElem? (there_get h).2.1
theorem lt_ge {a b : List UInt8} (h : ¬ a < b) : b ≤ a := List.not_lt.1 h
theorem not_there {fs : List Fl} (hs : Rises fs) {nm : ByteArray} (h : there fs nm = false) {f : Fl} (hf : f ∈ fs) : f.f0 ≠ nm := by
  intro e
  obtain ⟨i, hi⟩ := List.mem_iff_getElem?.1 hf
  have hil : i < fs.length := (List.getElem?_eq_some_iff.1 hi).1
  have h1 : ¬ i < place fs nm := fun hlt => by
    have := place_lt fs nm i f hlt hi
    rw [e] at this
    exact List.lt_irrefl _ this
  rcases Nat.lt_or_eq_of_le (Nat.not_lt.1 h1) with h2 | h2
  · have hp : place fs nm < fs.length := by omega
    have h3 := List.pairwise_iff_getElem.1 hs (place fs nm) i hp hil h2
    have h4 : fs[i] = f := by have := List.getElem?_eq_getElem hil; rw [hi] at this; injection this with this; exact this.symm
    rw [h4, e] at h3
    exact place_ge fs nm _ (List.getElem?_eq_getElem hp) h3
  · unfold there at h
    rw [h2, hi] at h
    simp [e] at h
theorem addF_len (fs : List Fl) (f : Fl) : (addF fs f).length = fs.length + 1 := by
  have := place_le fs f.f0
  unfold addF
  simp; omega
theorem addF_mem {fs : List Fl} {f x : Fl} : x ∈ addF fs f ↔ x = f ∨ x ∈ fs := by
  unfold addF
  rw [List.mem_append, List.mem_cons]
  constructor
  · rintro (h | h | h)
    · exact .inr (List.mem_of_mem_take h)
    · exact .inl h
    · exact .inr (List.mem_of_mem_drop h)
  · rintro (h | h)
    · exact .inr (.inl h)
    · rw [← List.take_append_drop (place fs f.f0) fs, List.mem_append] at h
      rcases h with h | h
      · exact .inl h
      · exact .inr (.inr h)
theorem lt_of_ge {fs : List Fl} (hs : Rises fs) {nm : ByteArray} (h : there fs nm = false) {i : Nat} {f : Fl} (hp : place fs nm ≤ i) (hf : fs[i]? = some f) : nm.toList < f.f0.toList := by
  have hil : i < fs.length := (List.getElem?_eq_some_iff.1 hf).1
  have h0 : ∀ g : Fl, fs[place fs nm]? = some g → nm.toList < g.f0.toList := fun g hg => by
    rcases List.le_iff_lt_or_eq.1 (lt_ge (place_ge fs nm g hg)) with h1 | h1
    · exact h1
    · exact absurd (ba_ext h1.symm) (not_there hs h (List.mem_of_getElem? hg))
  rcases Nat.lt_or_eq_of_le hp with h2 | h2
  · have hpl : place fs nm < fs.length := by omega
    have h3 := List.pairwise_iff_getElem.1 hs (place fs nm) i hpl hil h2
    have h4 : fs[i] = f := by have := List.getElem?_eq_getElem hil; rw [hf] at this; injection this with this; exact this.symm
    rw [h4] at h3
    exact List.lt_trans (h0 _ (List.getElem?_eq_getElem hpl)) h3
  · subst h2; exact h0 f hf
theorem rises_add {fs : List Fl} (hs : Rises fs) {f : Fl} (h : there fs f.f0 = false) : Rises (addF fs f) := by
  unfold Rises addF
  refine List.pairwise_append.2 ⟨hs.sublist (List.take_sublist _ _), List.pairwise_cons.2 ⟨fun x hx => ?_, hs.sublist (List.drop_sublist _ _)⟩, fun x hx y hy => ?_⟩
  · obtain ⟨i, hi⟩ := List.mem_iff_getElem?.1 hx
    rw [List.getElem?_drop] at hi
    exact lt_of_ge hs h (Nat.le_add_right _ i) hi
  · have hx' : x.f0.toList < f.f0.toList := by
      obtain ⟨i, hi⟩ := List.mem_iff_getElem?.1 hx
      have hil : i < (fs.take (place fs f.f0)).length := (List.getElem?_eq_some_iff.1 hi).1
      rw [List.length_take] at hil
      rw [List.getElem?_take_of_lt (by omega)] at hi
      exact place_lt fs f.f0 i x (by omega) hi
    rcases List.mem_cons.1 hy with rfl | hy
    · exact hx'
    · obtain ⟨i, hi⟩ := List.mem_iff_getElem?.1 hy
      rw [List.getElem?_drop] at hi
      exact List.lt_trans hx' (lt_of_ge hs h (Nat.le_add_right _ i) hi)
theorem rises_rem {fs : List Fl} (hs : Rises fs) (nm : ByteArray) : Rises (remF fs nm) := by
  unfold Rises remF
  have h : (fs.take (place fs nm) ++ fs.drop (place fs nm + 1)).Sublist fs := by
    conv => rhs; rw [← List.take_append_drop (place fs nm) fs]
    refine List.Sublist.append (List.Sublist.refl _) ?_
    rw [show fs.drop (place fs nm + 1) = (fs.drop (place fs nm)).drop 1 by rw [List.drop_drop]]
    exact List.drop_sublist _ _
  exact hs.sublist h
theorem names_set {fs : List Fl} {nm : ByteArray} (h : there fs nm = true) {f : Fl} (hf : f.f0 = nm) : (setF fs nm f).map (·.f0) = fs.map (·.f0) := by
  obtain ⟨hl, hg, he⟩ := there_get h
  unfold setF
  rw [List.map_set]
  refine List.ext_getElem? fun i => ?_
  rw [List.getElem?_set]
  split
  · rename_i hi
    subst hi
    rw [if_pos (by simpa using hl), List.getElem?_map, hg]
    simp [hf, he]
  · rfl
theorem rises_names {fs gs : List Fl} (hs : Rises fs) (h : gs.map (·.f0) = fs.map (·.f0)) : Rises gs := by
  have h1 : (fs.map (·.f0)).Pairwise (fun a b => a.toList < b.toList) := List.pairwise_map.2 hs
  rw [← h] at h1
  exact (List.pairwise_map (f := fun x : Fl => x.f0) (R := fun a b : ByteArray => a.toList < b.toList)).1 h1
theorem place_add (fs : List Fl) (f : Fl) : place (addF fs f) f.f0 = place fs f.f0 := by
  have hp := place_le fs f.f0
  have hlt : (fs.take (place fs f.f0)).length = place fs f.f0 := by rw [List.length_take]; omega
  refine place_is (by rw [addF_len]; omega) (fun j g hj hg => ?_) (fun g hg => ?_)
  · unfold addF at hg
    rw [List.getElem?_append_left (by omega), List.getElem?_take_of_lt hj] at hg
    exact place_lt fs f.f0 j g hj hg
  · unfold addF at hg
    rw [List.getElem?_append_right (by omega), hlt, Nat.sub_self] at hg
    simp at hg
    subst hg
    exact List.lt_irrefl _
theorem there_add (fs : List Fl) (f : Fl) : there (addF fs f) f.f0 = true ∧ getF (addF fs f) f.f0 = f := by
  have hp := place_le fs f.f0
  have hlt : (fs.take (place fs f.f0)).length = place fs f.f0 := by rw [List.length_take]; omega
  have hg : (addF fs f)[place (addF fs f) f.f0]? = some f := by
    rw [place_add]
    unfold addF
    rw [List.getElem?_append_right (by omega), hlt, Nat.sub_self]
    rfl
  refine ⟨?_, ?_⟩
  · unfold there; rw [hg]; simp
  · unfold getF; rw [List.getD_eq_getElem?_getD, hg]; rfl
def mapD {H : Type} (fs : List Fl) (gb : ByteArray → Nat) : DataW H := .map (fs.map fun f => (.string f.f0.data.toList, .lit (.int .i64 (gb f.f0))))
theorem bb_eq : ∀ (a b : List UInt8), bytesBefore a b = decide (a < b)
  | [], [] => by simp [bytesBefore]
  | [], _ :: _ => by simp [bytesBefore]
  | _ :: _, [] => by simp [bytesBefore]
  | x :: a, y :: b => by
    rw [bytesBefore, bb_eq a b]
    simp only [List.cons_lt_cons_iff]
    by_cases h1 : x < y <;> by_cases h2 : x = y <;> by_cases h3 : a < b <;> simp [h1, h2, h3]
theorem mapD_at {H : Type} {fs : List Fl} (hs : Rises fs) (gb : ByteArray → Nat) (nm : ByteArray) (z : DataW H) : (mapD fs gb).atKey (.string nm.data.toList) z = if there fs nm = true then .lit (.int .i64 (gb nm)) else z := by
  have hfind : ∀ l : List Fl, (∀ f ∈ l, f ∈ fs) → ((l.map fun f => ((Lit.string f.f0.data.toList, DataW.lit (.int .i64 (gb f.f0))) : Lit × DataW H)).find? (fun p => p.1.sameKey (.string nm.data.toList))) = if l.any (fun f => f.f0.data.toList == nm.data.toList) = true then some (.string nm.data.toList, .lit (.int .i64 (gb nm))) else none := by
    intro l
    induction l with
    | nil => intro _; simp
    | cons f r ih =>
      intro hm
      rw [List.map_cons, List.find?_cons]
      by_cases h : f.f0.data.toList = nm.data.toList
      · have e : f.f0 = nm := ba_ext (by rw [Lib.toList_data, Lib.toList_data]; exact h)
        simp [Lit.sameKey, e]
      · have ih' := ih (fun g hg => hm g (List.mem_cons_of_mem _ hg))
        have h1 : (Lit.string f.f0.data.toList).sameKey (.string nm.data.toList) = false := by simpa [Lit.sameKey] using h
        rw [h1, List.any_cons]
        have h2 : (f.f0.data.toList == nm.data.toList) = false := by simpa using h
        rw [h2, Bool.false_or]
        exact ih'
  have hany : fs.any (fun f => f.f0.data.toList == nm.data.toList) = there fs nm := by
    cases ht : there fs nm
    · rw [List.any_eq_false]
      intro f hf
      have := not_there hs ht hf
      simp only [beq_iff_eq]
      exact fun e => this (ba_ext (by rw [Lib.toList_data, Lib.toList_data]; exact e))
    · rw [List.any_eq_true]
      exact ⟨_, there_mem ht, by rw [(there_get ht).2.2]; simp⟩
  show (match ((fs.map fun f => ((Lit.string f.f0.data.toList, DataW.lit (.int .i64 (gb f.f0))) : Lit × DataW H)).find? (fun p => p.1.sameKey (.string nm.data.toList))) with | some p => p.2 | none => z) = _
  rw [hfind fs (fun f hf => hf), hany]
  cases there fs nm <;> rfl
theorem filter_other {H : Type} (gb : ByteArray → Nat) (nm : ByteArray) : ∀ (l : List Fl), (∀ f ∈ l, f.f0 ≠ nm) → (l.map fun f => ((Lit.string f.f0.data.toList, DataW.lit (.int .i64 (gb f.f0))) : Lit × DataW H)).filter (fun p => !p.1.sameKey (.string nm.data.toList)) = l.map fun f => (Lit.string f.f0.data.toList, DataW.lit (.int .i64 (gb f.f0)))
  | [], _ => rfl
  | f :: r, h => by
    have h1 : (Lit.string f.f0.data.toList).sameKey (.string nm.data.toList) = false := by
      simp only [Lit.sameKey, beq_eq_false_iff_ne]
      exact fun e => h f (by simp) (ba_ext (by rw [Lib.toList_data, Lib.toList_data]; exact e))
    rw [List.map_cons, List.filter_cons, h1, filter_other gb nm r (fun g hg => h g (List.mem_cons_of_mem _ hg))]
    rfl
theorem insert_place {H : Type} (gb : ByteArray → Nat) (nm : ByteArray) (d : DataW H) : ∀ (fs : List Fl), (∀ f ∈ fs, f.f0 ≠ nm) → DataW.insert (Lit.string nm.data.toList, d) (fs.map fun f => (Lit.string f.f0.data.toList, DataW.lit (.int .i64 (gb f.f0)))) =
    ((fs.take (place fs nm)).map fun f => ((Lit.string f.f0.data.toList, DataW.lit (.int .i64 (gb f.f0))) : Lit × DataW H)) ++ (Lit.string nm.data.toList, d) :: ((fs.drop (place fs nm)).map fun f => (Lit.string f.f0.data.toList, DataW.lit (.int .i64 (gb f.f0))))
  | [], _ => rfl
  | f :: r, h => by
    have ih := insert_place gb nm d r (fun g hg => h g (List.mem_cons_of_mem _ hg))
    have hne := h f (by simp)
    rw [List.map_cons, DataW.insert]
    show (if bytesBefore nm.data.toList f.f0.data.toList = true then _ else _) = _
    rw [bb_eq]
    unfold place
    rw [Lib.toList_data, Lib.toList_data]
    by_cases h1 : f.f0.data.toList < nm.data.toList
    · have h2 : ¬ nm.data.toList < f.f0.data.toList := fun h2 => List.lt_irrefl _ (List.lt_trans h1 h2)
      rw [if_neg (by simpa using h2), if_pos h1, ih]
      rfl
    · have h2 : nm.data.toList < f.f0.data.toList := by
        rcases List.le_iff_lt_or_eq.1 (lt_ge h1) with h2 | h2
        · exact h2
        · exact absurd (ba_ext (by rw [Lib.toList_data, Lib.toList_data]; exact h2.symm)) hne
      rw [if_pos (by simpa using h2), if_neg h1]
      rfl
theorem mapD_put {H : Type} {fs : List Fl} (hs : Rises fs) (gb : ByteArray → Nat) (f : Fl) (h : there fs f.f0 = false) (g : Nat) (hg : gb f.f0 = g) : (mapD (H := H) fs gb).put (.string f.f0.data.toList) (.lit (.int .i64 g)) = mapD (addF fs f) gb := by
  show DataW.map (DataW.insert _ ((fs.map _).filter _)) = _
  rw [filter_other gb f.f0 fs (fun x hx => not_there hs h hx), insert_place gb f.f0 _ fs (fun x hx => not_there hs h hx)]
  unfold mapD addF
  rw [List.map_append, List.map_cons, hg]
theorem mapD_del {H : Type} {fs : List Fl} (hs : Rises fs) (gb : ByteArray → Nat) (nm : ByteArray) (h : there fs nm = true) : (mapD (H := H) fs gb).del (.string nm.data.toList) = mapD (remF fs nm) gb := by
  obtain ⟨hl, hg, he⟩ := there_get h
  show DataW.map ((fs.map _).filter _) = _
  have hsplit : fs = fs.take (place fs nm) ++ getF fs nm :: fs.drop (place fs nm + 1) := by
    conv => lhs; rw [← List.take_append_drop (place fs nm) fs, List.drop_eq_getElem_cons hl]
    rw [show fs[place fs nm] = getF fs nm by have := List.getElem?_eq_getElem hl; rw [hg] at this; injection this with this; exact this.symm]
  have h1 : ∀ x ∈ fs.take (place fs nm), x.f0 ≠ nm := fun x hx e => by
    obtain ⟨i, hi⟩ := List.mem_iff_getElem?.1 hx
    have hil : i < (fs.take (place fs nm)).length := (List.getElem?_eq_some_iff.1 hi).1
    rw [List.length_take] at hil
    rw [List.getElem?_take_of_lt (by omega)] at hi
    have := place_lt fs nm i x (by omega) hi
    rw [e] at this
    exact List.lt_irrefl _ this
  have h2 : ∀ x ∈ fs.drop (place fs nm + 1), x.f0 ≠ nm := fun x hx e => by
    have hp := hs
    unfold Rises at hp
    rw [hsplit] at hp
    have := (List.pairwise_cons.1 (List.pairwise_append.1 hp).2.1).1 x hx
    rw [he, e] at this
    exact List.lt_irrefl _ this
  have h3 : (Lit.string (getF fs nm).f0.data.toList).sameKey (.string nm.data.toList) = true := by rw [he]; simp [Lit.sameKey]
  unfold mapD remF
  conv => lhs; rw [hsplit]
  rw [List.map_append, List.filter_append, List.map_cons, List.filter_cons, h3, filter_other gb nm _ h1, List.map_append]
  simp only [Bool.not_true, Bool.false_eq_true, if_false]
  rw [filter_other gb nm _ h2]
theorem mapD_size {H : Type} (fs : List Fl) (gb : ByteArray → Nat) : Maps.size (mapD (H := H) fs gb) = fs.length := by unfold mapD Maps.size; simp
theorem mapD_congr {H : Type} {fs : List Fl} {gb gb' : ByteArray → Nat} (h : ∀ f ∈ fs, gb' f.f0 = gb f.f0) : mapD (H := H) fs gb' = mapD fs gb := by
  unfold mapD
  rw [List.map_congr_left (fun f hf => by rw [h f hf])]
theorem mapD_names {H : Type} {fs gs : List Fl} (h : gs.map (·.f0) = fs.map (·.f0)) (gb : ByteArray → Nat) : mapD (H := H) gs gb = mapD fs gb := by
  unfold mapD
  have e : ∀ l : List Fl, (l.map fun f => ((Lit.string f.f0.data.toList, DataW.lit (.int .i64 (gb f.f0))) : Lit × DataW H)) = (l.map (·.f0)).map (fun s => (Lit.string s.data.toList, DataW.lit (.int .i64 (gb s)))) := fun l => by rw [List.map_map]; rfl
  rw [e, e, h]
theorem strKeys_mapD {H : Type} (fs : List Fl) (gb : ByteArray → Nat) : strKeys (mapD (H := H) fs gb) = fs.map (fun f => f.f0.data.toList) := by
  show List.map (fun p : Lit × DataW H => strOf p.1) (fs.map fun f => (Lit.string f.f0.data.toList, DataW.lit (.int .i64 (gb f.f0)))) = _
  rw [List.map_map]
  rfl
theorem sorted_keys {H : Type} {fs : List Fl} (hs : Rises fs) (gb : ByteArray → Nat) {ss : List (List UInt8)} (hp : ss.Perm (strKeys (mapD (H := H) fs gb))) : ss.mergeSort (fun x y => decide (x ≤ y)) = fs.map (fun f => f.f0.data.toList) := by
  rw [show (fun x y : List UInt8 => decide (x ≤ y)) = leB from rfl, mergeSort_of_perm hp, strKeys_mapD]
  refine List.mergeSort_of_pairwise (List.pairwise_map.2 (hs.imp fun {a b} h => ?_))
  rw [Lib.toList_data, Lib.toList_data] at h
  simp only [leB, decide_eq_true_eq]
  exact List.le_of_lt h
end Go.Proofs.YthneomomhoilkaaDoor.PA
end
section
namespace Go.Proofs.YthneomomhoilkaaDoor.PA
open Go.RowKit Go.Proofs.YthneomomhoilkaaDoorW.PrintWords Go.Proofs.YthneomomhoilkaaDoorW.PrintLast Go.Proofs.YthneomomhoilkaaDoorW.PrintMore
attribute [local go_sem] max2_int min2_int max_two min_two
abbrev PB (W : World) (g : Nat) (m : Value) (dn ar : Bool) (u a c : Int) : Prop := W.heap[g]? = some (.cells #[m, .bool dn, .bool ar, .int .i64 u, .int .i64 a, .int .i64 c] 73 (0, 0))
theorem gb_set {W0 W : World} {g : Nat} (h : W0.grownBy W (some g)) (i : Nat) (v : Value) : W0.grownBy (W.setCell ⟨g, i, none⟩ v) (some g) :=
  have q := (Below.refl 0 W).setCell (p := ⟨g, i, none⟩) (Nat.zero_le _) v
  ⟨q.os.trans h.os, q.tape.trans h.tape, q.output.trans h.output, Nat.le_trans h.size q.size, fun k hk hne => (Below.heap_setCell W ⟨g, i, none⟩ v k (fun e => hne (by rw [e]))).trans (h.block k hk hne)⟩
theorem gb_drewN {W0 W : World} {r : Option Nat} (h : W0.grownBy W r) (n : Nat) : W0.grownBy (W.drewN n) r := ⟨h.os, h.tape, h.output, h.size, h.block⟩
theorem gb_drew {W0 W : World} {r : Option Nat} (h : W0.grownBy W r) : W0.grownBy W.drew r := ⟨h.os, h.tape, h.output, h.size, h.block⟩
theorem gb_drawn {W0 W W1 : World} {r : Option Nat} (h : W0.grownBy W r) (d : Drawn0 W W1) : W0.grownBy W1 r := by obtain ⟨n, rfl⟩ := d.out; exact gb_drewN h n
theorem blk_drawn {W W1 : World} {g : Nat} {o : Obj} (h : W.heap[g]? = some o) (d : Drawn0 W W1) : W1.heap[g]? = some o := by obtain ⟨n, rfl⟩ := d.out; exact h
theorem blk_to {w : World} {g : Nat} {t : TypeId} {cs ds : Array Value} {i : Nat} {u : Value} (h : w.heap[g]? = some (.cells cs t (0, 0))) (e : cs.setIfInBounds i u = ds) : (w.setCell ⟨g, i, none⟩ u).heap[g]? = some (.cells ds t (0, 0)) := by rw [blk_set h i u, e]
def firstS (ok dn : Bool) (a c : Int) : Int × Int × Int :=
  if ok = false then (192, a, c) else if dn = true then (190, a, c) else if c ≤ 0 then (0, a, c) else if 0 < a then (0, a - 1, c) else (191, a, c - 1)
set_option maxRecDepth 100000 in
set_option maxHeartbeats 2000000 in
theorem pcrash (g : Nat) (m : Value) (dn ar : Bool) (u a c : Int) (w : World) (hG : PB w g m dn ar u a c) :
    Calls Tryd.prog 30 #[.pointer (some ⟨g, 0, none⟩)] w fun e w' => e = .returned (.tuple #[]) ∧ w.grownBy w' (some g) ∧ PB w' g m true false 0 0 0 := by
  have c1 : w.cell? ⟨g, 1, none⟩ = some (.bool dn) := (blk_cell hG 1).trans rfl
  have c2 : w.cell? ⟨g, 2, none⟩ = some (.bool ar) := (blk_cell hG 2).trans rfl
  have c3 : w.cell? ⟨g, 3, none⟩ = some (.int .i64 u) := (blk_cell hG 3).trans rfl
  have c4 : w.cell? ⟨g, 4, none⟩ = some (.int .i64 a) := (blk_cell hG 4).trans rfl
  have c5 : w.cell? ⟨g, 5, none⟩ = some (.int .i64 c) := (blk_cell hG 5).trans rfl
  have f1 := blk_frozen hG 1
  have f2 := blk_frozen hG 2
  have f3 := blk_frozen hG 3
  have f4 := blk_frozen hG 4
  have f5 := blk_frozen hG 5
  go_enter Tryd.func30, Tryd.ntmps30
  go_wp2
  go_end0
  exact ⟨rfl, gb_set (gb_set (gb_set (gb_set (gb_set (World.grownBy.refl _ _) _ _) _ _) _ _) _ _) _ _, blk_to (blk_to (blk_to (blk_to (blk_to (hG) rfl) rfl) rfl) rfl) (by simp)⟩
set_option maxRecDepth 100000 in
set_option maxHeartbeats 2000000 in
theorem pfailed_no (g : Nat) (m : Value) (dn ar : Bool) (u a c : Int) (hc : c ≤ 0) (w : World) (hG : PB w g m dn ar u a c) :
    Calls Tryd.prog 57 #[.pointer (some ⟨g, 0, none⟩)] w fun e w' => e = .returned (.bool false) ∧ w.grownBy w' (some g) ∧ PB w' g m dn ar u a c := by
  have c1 : w.cell? ⟨g, 1, none⟩ = some (.bool dn) := (blk_cell hG 1).trans rfl
  have c2 : w.cell? ⟨g, 2, none⟩ = some (.bool ar) := (blk_cell hG 2).trans rfl
  have c3 : w.cell? ⟨g, 3, none⟩ = some (.int .i64 u) := (blk_cell hG 3).trans rfl
  have c4 : w.cell? ⟨g, 4, none⟩ = some (.int .i64 a) := (blk_cell hG 4).trans rfl
  have c5 : w.cell? ⟨g, 5, none⟩ = some (.int .i64 c) := (blk_cell hG 5).trans rfl
  have f1 := blk_frozen hG 1
  have f2 := blk_frozen hG 2
  have f3 := blk_frozen hG 3
  have f4 := blk_frozen hG 4
  have f5 := blk_frozen hG 5
  have h1 : decide (c ≤ 0) = true := decide_eq_true hc
  go_enter Tryd.func57, Tryd.ntmps57
  go_wp2
  go_ret
  exact ⟨rfl, World.grownBy.refl _ _, hG⟩
set_option maxRecDepth 100000 in
set_option maxHeartbeats 2000000 in
theorem pfailed_after (g : Nat) (m : Value) (dn ar : Bool) (u a c : Int) (hc : ¬ c ≤ 0) (ha : 0 < a) (ha2 : a ≤ 9223372036854775807) (w : World) (hG : PB w g m dn ar u a c) :
    Calls Tryd.prog 57 #[.pointer (some ⟨g, 0, none⟩)] w fun e w' => e = .returned (.bool false) ∧ w.grownBy w' (some g) ∧ PB w' g m dn ar u (a - 1) c := by
  have c1 : w.cell? ⟨g, 1, none⟩ = some (.bool dn) := (blk_cell hG 1).trans rfl
  have c2 : w.cell? ⟨g, 2, none⟩ = some (.bool ar) := (blk_cell hG 2).trans rfl
  have c3 : w.cell? ⟨g, 3, none⟩ = some (.int .i64 u) := (blk_cell hG 3).trans rfl
  have c4 : w.cell? ⟨g, 4, none⟩ = some (.int .i64 a) := (blk_cell hG 4).trans rfl
  have c5 : w.cell? ⟨g, 5, none⟩ = some (.int .i64 c) := (blk_cell hG 5).trans rfl
  have f1 := blk_frozen hG 1
  have f2 := blk_frozen hG 2
  have f3 := blk_frozen hG 3
  have f4 := blk_frozen hG 4
  have f5 := blk_frozen hG 5
  have h1 : decide (c ≤ 0) = false := decide_eq_false hc
  have h2 : decide (0 < a) = true := decide_eq_true ha
  have h3 : wrap64 (a - 1) = a - 1 := wr (by omega) (by omega)
  go_enter Tryd.func57, Tryd.ntmps57
  go_wp2
  go_ret
  exact ⟨rfl, gb_set (World.grownBy.refl _ _) _ _, blk_to (hG) (by simp)⟩
set_option maxRecDepth 100000 in
set_option maxHeartbeats 2000000 in
theorem pfailed_yes (g : Nat) (m : Value) (dn ar : Bool) (u a c : Int) (hc : ¬ c ≤ 0) (ha : ¬ 0 < a) (hc2 : c ≤ 9223372036854775807) (w : World) (hG : PB w g m dn ar u a c) :
    Calls Tryd.prog 57 #[.pointer (some ⟨g, 0, none⟩)] w fun e w' => e = .returned (.bool true) ∧ w.grownBy w' (some g) ∧ PB w' g m dn ar u a (c - 1) := by
  have c1 : w.cell? ⟨g, 1, none⟩ = some (.bool dn) := (blk_cell hG 1).trans rfl
  have c2 : w.cell? ⟨g, 2, none⟩ = some (.bool ar) := (blk_cell hG 2).trans rfl
  have c3 : w.cell? ⟨g, 3, none⟩ = some (.int .i64 u) := (blk_cell hG 3).trans rfl
  have c4 : w.cell? ⟨g, 4, none⟩ = some (.int .i64 a) := (blk_cell hG 4).trans rfl
  have c5 : w.cell? ⟨g, 5, none⟩ = some (.int .i64 c) := (blk_cell hG 5).trans rfl
  have f1 := blk_frozen hG 1
  have f2 := blk_frozen hG 2
  have f3 := blk_frozen hG 3
  have f4 := blk_frozen hG 4
  have f5 := blk_frozen hG 5
  have h1 : decide (c ≤ 0) = false := decide_eq_false hc
  have h2 : decide (0 < a) = false := decide_eq_false ha
  have h3 : wrap64 (c - 1) = c - 1 := wr (by omega) (by omega)
  go_enter Tryd.func57, Tryd.ntmps57
  go_wp2
  go_ret
  exact ⟨rfl, gb_set (World.grownBy.refl _ _) _ _, blk_to (hG) (by simp)⟩
set_option maxRecDepth 100000 in
set_option maxHeartbeats 2000000 in
theorem ppaid_free (g : Nat) (m : Value) (dn ar : Bool) (u a c : Int) (x : Int) (hr : ar = false) (w : World) (hG : PB w g m dn ar u a c) :
    Calls Tryd.prog 46 #[.pointer (some ⟨g, 0, none⟩), .int .i64 x] w fun e w' => e = .returned (.tuple #[.int .i64 x, .bool false]) ∧ w.grownBy w' (some g) ∧ PB w' g m dn ar u a c := by
  have c1 : w.cell? ⟨g, 1, none⟩ = some (.bool dn) := (blk_cell hG 1).trans rfl
  have c2 : w.cell? ⟨g, 2, none⟩ = some (.bool ar) := (blk_cell hG 2).trans rfl
  have c3 : w.cell? ⟨g, 3, none⟩ = some (.int .i64 u) := (blk_cell hG 3).trans rfl
  have c4 : w.cell? ⟨g, 4, none⟩ = some (.int .i64 a) := (blk_cell hG 4).trans rfl
  have c5 : w.cell? ⟨g, 5, none⟩ = some (.int .i64 c) := (blk_cell hG 5).trans rfl
  have f1 := blk_frozen hG 1
  have f2 := blk_frozen hG 2
  have f3 := blk_frozen hG 3
  have f4 := blk_frozen hG 4
  have f5 := blk_frozen hG 5
  subst hr
  go_enter Tryd.func46, Tryd.ntmps46
  go_wp2
  go_ret2
  exact ⟨rfl, World.grownBy.refl _ _, hG⟩
set_option maxRecDepth 100000 in
set_option maxHeartbeats 2000000 in
theorem ppaid_ok (g : Nat) (m : Value) (dn ar : Bool) (u a c : Int) (x : Int) (hr : ar = true) (hx : x ≤ u) (h0 : 0 ≤ x) (hu : u ≤ 9223372036854775807) (w : World) (hG : PB w g m dn ar u a c) :
    Calls Tryd.prog 46 #[.pointer (some ⟨g, 0, none⟩), .int .i64 x] w fun e w' => e = .returned (.tuple #[.int .i64 x, .bool false]) ∧ w.grownBy w' (some g) ∧ PB w' g m dn ar (u - x) a c := by
  have c1 : w.cell? ⟨g, 1, none⟩ = some (.bool dn) := (blk_cell hG 1).trans rfl
  have c2 : w.cell? ⟨g, 2, none⟩ = some (.bool ar) := (blk_cell hG 2).trans rfl
  have c3 : w.cell? ⟨g, 3, none⟩ = some (.int .i64 u) := (blk_cell hG 3).trans rfl
  have c4 : w.cell? ⟨g, 4, none⟩ = some (.int .i64 a) := (blk_cell hG 4).trans rfl
  have c5 : w.cell? ⟨g, 5, none⟩ = some (.int .i64 c) := (blk_cell hG 5).trans rfl
  have f1 := blk_frozen hG 1
  have f2 := blk_frozen hG 2
  have f3 := blk_frozen hG 3
  have f4 := blk_frozen hG 4
  have f5 := blk_frozen hG 5
  subst hr
  have h1 : decide (x ≤ u) = true := decide_eq_true hx
  have h3 : wrap64 (u - x) = u - x := wr (by omega) (by omega)
  go_enter Tryd.func46, Tryd.ntmps46
  go_wp2
  go_ret2
  exact ⟨rfl, gb_set (World.grownBy.refl _ _) _ _, blk_to (hG) (by simp)⟩
set_option maxRecDepth 100000 in
set_option maxHeartbeats 2000000 in
theorem ppaid_fall (g : Nat) (m : Value) (dn ar : Bool) (u a c : Int) (x : Int) (hr : ar = true) (hx : ¬ x ≤ u) (w : World) (hG : PB w g m dn ar u a c) :
    Calls Tryd.prog 46 #[.pointer (some ⟨g, 0, none⟩), .int .i64 x] w fun e w' => e = .returned (.tuple #[.int .i64 u, .bool true]) ∧ w.grownBy w' (some g) ∧ PB w' g m true false 0 0 0 := by
  have c1 : w.cell? ⟨g, 1, none⟩ = some (.bool dn) := (blk_cell hG 1).trans rfl
  have c2 : w.cell? ⟨g, 2, none⟩ = some (.bool ar) := (blk_cell hG 2).trans rfl
  have c3 : w.cell? ⟨g, 3, none⟩ = some (.int .i64 u) := (blk_cell hG 3).trans rfl
  have c4 : w.cell? ⟨g, 4, none⟩ = some (.int .i64 a) := (blk_cell hG 4).trans rfl
  have c5 : w.cell? ⟨g, 5, none⟩ = some (.int .i64 c) := (blk_cell hG 5).trans rfl
  have f1 := blk_frozen hG 1
  have f2 := blk_frozen hG 2
  have f3 := blk_frozen hG 3
  have f4 := blk_frozen hG 4
  have f5 := blk_frozen hG 5
  subst hr
  have h1 : decide (x ≤ u) = false := decide_eq_false hx
  go_enter Tryd.func46, Tryd.ntmps46
  go_wp2_with (go_at_call 30; refine (pcrash g m dn true u a c _ hG).mono ?_; rintro e w' ⟨rfl, hg1, hG1⟩)
  go_ret2
  exact ⟨rfl, hg1, hG1⟩
set_option maxRecDepth 100000 in
set_option maxHeartbeats 2000000 in
theorem parm_down (g : Nat) (m : Value) (dn ar : Bool) (u a c : Int) (x : Int) (hd : dn = true) (w : World) (hG : PB w g m dn ar u a c) :
    Calls Tryd.prog 16 #[.pointer (some ⟨g, 0, none⟩), .int .i64 x] w fun e w' => e = .returned (.tuple #[]) ∧ w.grownBy w' (some g) ∧ PB w' g m dn ar u a c := by
  have c1 : w.cell? ⟨g, 1, none⟩ = some (.bool dn) := (blk_cell hG 1).trans rfl
  have c2 : w.cell? ⟨g, 2, none⟩ = some (.bool ar) := (blk_cell hG 2).trans rfl
  have c3 : w.cell? ⟨g, 3, none⟩ = some (.int .i64 u) := (blk_cell hG 3).trans rfl
  have c4 : w.cell? ⟨g, 4, none⟩ = some (.int .i64 a) := (blk_cell hG 4).trans rfl
  have c5 : w.cell? ⟨g, 5, none⟩ = some (.int .i64 c) := (blk_cell hG 5).trans rfl
  have f1 := blk_frozen hG 1
  have f2 := blk_frozen hG 2
  have f3 := blk_frozen hG 3
  have f4 := blk_frozen hG 4
  have f5 := blk_frozen hG 5
  subst hd
  go_enter Tryd.func16, Tryd.ntmps16
  go_wp2
  first | go_end0 | ((try simp only [Exit.inBlock, Exit.then]); refine bodyPost_ret (results_none rfl _ _ _) rfl ?_)
  exact ⟨rfl, World.grownBy.refl _ _, hG⟩
set_option maxRecDepth 100000 in
set_option maxHeartbeats 2000000 in
theorem parm_up (g : Nat) (m : Value) (dn ar : Bool) (u a c : Int) (x : Int) (hd : dn = false) (w : World) (hG : PB w g m dn ar u a c) :
    Calls Tryd.prog 16 #[.pointer (some ⟨g, 0, none⟩), .int .i64 x] w fun e w' => e = .returned (.tuple #[]) ∧ w.grownBy w' (some g) ∧ PB w' g m dn (decide (0 ≤ x)) x a c := by
  have c1 : w.cell? ⟨g, 1, none⟩ = some (.bool dn) := (blk_cell hG 1).trans rfl
  have c2 : w.cell? ⟨g, 2, none⟩ = some (.bool ar) := (blk_cell hG 2).trans rfl
  have c3 : w.cell? ⟨g, 3, none⟩ = some (.int .i64 u) := (blk_cell hG 3).trans rfl
  have c4 : w.cell? ⟨g, 4, none⟩ = some (.int .i64 a) := (blk_cell hG 4).trans rfl
  have c5 : w.cell? ⟨g, 5, none⟩ = some (.int .i64 c) := (blk_cell hG 5).trans rfl
  have f1 := blk_frozen hG 1
  have f2 := blk_frozen hG 2
  have f3 := blk_frozen hG 3
  have f4 := blk_frozen hG 4
  have f5 := blk_frozen hG 5
  subst hd
  go_enter Tryd.func16, Tryd.ntmps16
  go_wp2
  first | go_end0 | ((try simp only [Exit.inBlock, Exit.then]); refine bodyPost_ret (results_none rfl _ _ _) rfl ?_)
  exact ⟨rfl, gb_set (gb_set (World.grownBy.refl _ _) _ _) _ _, blk_to (blk_to (hG) rfl) (by simp)⟩
set_option maxRecDepth 100000 in
set_option maxHeartbeats 2000000 in
theorem pahead (g : Nat) (m : Value) (dn ar : Bool) (u a c : Int) (s : ByteArray) (hs : s.size ≤ 140737488355328) (ha : a ≤ 9223372036854775807) (hc : c ≤ 9223372036854775807) (w : World) (hG : PB w g m dn ar u a c) :
    Calls Tryd.prog 45 #[.pointer (some ⟨g, 0, none⟩), .string s] w fun e w' => e = .returned (.int .i64 (firstS (Nm s) dn a c).1) ∧ w.grownBy w' (some g) ∧ PB w' g m dn ar u (firstS (Nm s) dn a c).2.1 (firstS (Nm s) dn a c).2.2 := by
  cases hN : Nm s
  · go_enter Tryd.func45, Tryd.ntmps45
    go_wp2_with (go_at_call 34; refine (pnamed_calls s hs _).mono ?_; rintro e w1 ⟨rfl, hd1⟩; have hG1 := blk_drawn hG hd1; have hw1 := gb_drawn (World.grownBy.refl w (some g)) hd1; clear hd1; rw [hN])
    go_ret
    exact ⟨rfl, hw1, hG1⟩
  cases hD : dn
  rotate_left
  · go_enter Tryd.func45, Tryd.ntmps45
    go_wp2_with (go_at_call 34; refine (pnamed_calls s hs _).mono ?_; rintro e w1 ⟨rfl, hd1⟩; have hG1 := blk_drawn hG hd1; have hw1 := gb_drawn (World.grownBy.refl w (some g)) hd1; clear hd1; rw [hN]; subst hD; have c1 : World.cell? w1 ⟨g, 1, none⟩ = some (.bool true) := (blk_cell hG1 1).trans rfl; have c2 : World.cell? w1 ⟨g, 2, none⟩ = some (.bool ar) := (blk_cell hG1 2).trans rfl; have c3 : World.cell? w1 ⟨g, 3, none⟩ = some (.int .i64 u) := (blk_cell hG1 3).trans rfl; have c4 : World.cell? w1 ⟨g, 4, none⟩ = some (.int .i64 a) := (blk_cell hG1 4).trans rfl; have c5 : World.cell? w1 ⟨g, 5, none⟩ = some (.int .i64 c) := (blk_cell hG1 5).trans rfl; have f1 := blk_frozen hG1 1; have f2 := blk_frozen hG1 2; have f3 := blk_frozen hG1 3; have f4 := blk_frozen hG1 4; have f5 := blk_frozen hG1 5)
    go_ret
    exact ⟨rfl, hw1, hG1⟩
  subst hD
  by_cases hc0 : c ≤ 0
  · rw [show firstS true false a c = (0, a, c) by unfold firstS; rw [if_neg (by decide), if_neg (by decide), if_pos hc0]]
    go_enter Tryd.func45, Tryd.ntmps45
    go_wp2_with (first | (go_at_call 34; refine (pnamed_calls s hs _).mono ?_; rintro e w1 ⟨rfl, hd1⟩; have hG1 := blk_drawn hG hd1; have hw1 := gb_drawn (World.grownBy.refl w (some g)) hd1; clear hd1; rw [hN]; have c1 : World.cell? w1 ⟨g, 1, none⟩ = some (.bool false) := (blk_cell hG1 1).trans rfl; have c2 : World.cell? w1 ⟨g, 2, none⟩ = some (.bool ar) := (blk_cell hG1 2).trans rfl; have c3 : World.cell? w1 ⟨g, 3, none⟩ = some (.int .i64 u) := (blk_cell hG1 3).trans rfl; have c4 : World.cell? w1 ⟨g, 4, none⟩ = some (.int .i64 a) := (blk_cell hG1 4).trans rfl; have c5 : World.cell? w1 ⟨g, 5, none⟩ = some (.int .i64 c) := (blk_cell hG1 5).trans rfl; have f1 := blk_frozen hG1 1; have f2 := blk_frozen hG1 2; have f3 := blk_frozen hG1 3; have f4 := blk_frozen hG1 4; have f5 := blk_frozen hG1 5) | (go_at_call 57; refine (pfailed_no g m false ar u a c (by omega) _ hG1).mono ?_; rintro e w2 ⟨rfl, hg2, hG2⟩))
    go_ret
    exact ⟨rfl, hw1.trans hg2, hG2⟩
  by_cases ha0 : 0 < a
  · rw [show firstS true false a c = (0, a - 1, c) by unfold firstS; rw [if_neg (by decide), if_neg (by decide), if_neg hc0, if_pos ha0]]
    go_enter Tryd.func45, Tryd.ntmps45
    go_wp2_with (first | (go_at_call 34; refine (pnamed_calls s hs _).mono ?_; rintro e w1 ⟨rfl, hd1⟩; have hG1 := blk_drawn hG hd1; have hw1 := gb_drawn (World.grownBy.refl w (some g)) hd1; clear hd1; rw [hN]; have c1 : World.cell? w1 ⟨g, 1, none⟩ = some (.bool false) := (blk_cell hG1 1).trans rfl; have c2 : World.cell? w1 ⟨g, 2, none⟩ = some (.bool ar) := (blk_cell hG1 2).trans rfl; have c3 : World.cell? w1 ⟨g, 3, none⟩ = some (.int .i64 u) := (blk_cell hG1 3).trans rfl; have c4 : World.cell? w1 ⟨g, 4, none⟩ = some (.int .i64 a) := (blk_cell hG1 4).trans rfl; have c5 : World.cell? w1 ⟨g, 5, none⟩ = some (.int .i64 c) := (blk_cell hG1 5).trans rfl; have f1 := blk_frozen hG1 1; have f2 := blk_frozen hG1 2; have f3 := blk_frozen hG1 3; have f4 := blk_frozen hG1 4; have f5 := blk_frozen hG1 5) | (go_at_call 57; refine (pfailed_after g m false ar u a c (by omega) (by omega) ha _ hG1).mono ?_; rintro e w2 ⟨rfl, hg2, hG2⟩))
    go_ret
    exact ⟨rfl, hw1.trans hg2, hG2⟩
  · rw [show firstS true false a c = (191, a, c - 1) by unfold firstS; rw [if_neg (by decide), if_neg (by decide), if_neg hc0, if_neg ha0]]
    go_enter Tryd.func45, Tryd.ntmps45
    go_wp2_with (first | (go_at_call 34; refine (pnamed_calls s hs _).mono ?_; rintro e w1 ⟨rfl, hd1⟩; have hG1 := blk_drawn hG hd1; have hw1 := gb_drawn (World.grownBy.refl w (some g)) hd1; clear hd1; rw [hN]; have c1 : World.cell? w1 ⟨g, 1, none⟩ = some (.bool false) := (blk_cell hG1 1).trans rfl; have c2 : World.cell? w1 ⟨g, 2, none⟩ = some (.bool ar) := (blk_cell hG1 2).trans rfl; have c3 : World.cell? w1 ⟨g, 3, none⟩ = some (.int .i64 u) := (blk_cell hG1 3).trans rfl; have c4 : World.cell? w1 ⟨g, 4, none⟩ = some (.int .i64 a) := (blk_cell hG1 4).trans rfl; have c5 : World.cell? w1 ⟨g, 5, none⟩ = some (.int .i64 c) := (blk_cell hG1 5).trans rfl; have f1 := blk_frozen hG1 1; have f2 := blk_frozen hG1 2; have f3 := blk_frozen hG1 3; have f4 := blk_frozen hG1 4; have f5 := blk_frozen hG1 5) | (go_at_call 57; refine (pfailed_yes g m false ar u a c (by omega) (by omega) hc _ hG1).mono ?_; rintro e w2 ⟨rfl, hg2, hG2⟩))
    go_ret
    exact ⟨rfl, hw1.trans hg2, hG2⟩
end Go.Proofs.YthneomomhoilkaaDoor.PA
end
section
namespace Go.Proofs.YthneomomhoilkaaDoor.PA
open Go.RowKit Go.Maps Go.Proofs.YthneomomhoilkaaDoorW.PrintWords Go.Proofs.YthneomomhoilkaaDoorW.PrintLast Go.Proofs.YthneomomhoilkaaDoorW.PrintMore
inductive Role where
  | other | pd | pm | pf (n : ByteArray) | pb (n : ByteArray) | rd | rl | rb | tm | rm
abbrev RCol := Nat → Role
def isP : Role → Prop
  | .pd | .pm | .pf _ | .pb _ => True
  | _ => False
def colN (col : RCol) (n : Nat) (new : RCol) : RCol := fun k => if k < n then col k else new k
theorem colN_lt {col new : RCol} {n k : Nat} (h : k < n) : colN col n new k = col k := if_pos h
theorem colN_ge {col new : RCol} {n k : Nat} (h : n ≤ k) : colN col n new k = new k := if_neg (by omega)
structure Ch (b : Nat) (W : World) (col : RCol) (W' : World) (col' : RCol) (S : Role → Prop) : Prop where
  below : Below b W W'
  le : b ≤ W.heap.size
  same : ∀ k, k < W.heap.size → col' k = col k
  block : ∀ k, k < W.heap.size → ¬ S (col k) → W'.heap[k]? = W.heap[k]?
section
variable {b : Nat} {W W' W2 : World} {col col' col2 : RCol} {S S' : Role → Prop}
theorem Ch.refl (hb : b ≤ W.heap.size) : Ch b W col W col S := ⟨Below.refl _ _, hb, fun _ _ => rfl, fun _ _ _ => rfl⟩
theorem Ch.size (m : Ch b W col W' col' S) : W.heap.size ≤ W'.heap.size := m.below.size
theorem Ch.le' (m : Ch b W col W' col' S) : b ≤ W'.heap.size := Nat.le_trans m.le m.size
theorem Ch.mono (m : Ch b W col W' col' S) (h : ∀ r, S r → S' r) : Ch b W col W' col' S' := ⟨m.below, m.le, m.same, fun k hk hn => m.block k hk (fun hs => hn (h _ hs))⟩
theorem Ch.trans (m : Ch b W col W' col' S) (n : Ch b W' col' W2 col2 S) : Ch b W col W2 col2 S :=
  ⟨m.below.trans n.below, m.le, fun k hk => (n.same k (Nat.lt_of_lt_of_le hk m.size)).trans (m.same k hk), fun k hk h => (n.block k (Nat.lt_of_lt_of_le hk m.size) (by rw [m.same k hk]; exact h)).trans (m.block k hk h)⟩
theorem Ch.of_below (h : Below W.heap.size W W') (hb : b ≤ W.heap.size) : Ch b W col W' col S := ⟨h.mono hb, hb, fun _ _ => rfl, fun k hk _ => h.block k hk⟩
theorem Ch.of_new (h : Below W.heap.size W W') (hb : b ≤ W.heap.size) (new : RCol) : Ch b W col W' (colN col W.heap.size new) S := ⟨h.mono hb, hb, fun _ hk => colN_lt hk, fun k hk _ => h.block k hk⟩
theorem Ch.of_grown' {g : Nat} (h : W.grownBy W' (some g)) (hb : b ≤ W.heap.size) (hg : b ≤ g) (hS : S (col g)) : Ch b W col W' col S :=
  ⟨(Below.refl b W).grown h hb (fun j hj => by cases hj; exact hg), hb, fun _ _ => rfl, fun k hk hn => h.block k hk (fun e => by cases e; exact hn hS)⟩
theorem Ch.blk (m : Ch b W col W' col' S) {k : Nat} {o : Obj} (h : W.heap[k]? = some o) (hn : ¬ S (col k)) : W'.heap[k]? = some o := (m.block k (blk_lt h) hn).trans h
structure BRow (b : Nat) (W : World) (col : RCol) (r : Role) (v : Value) (xs : List Int) : Prop where
  own : W.ownsRow b 5 1 v xs.length (nums .u8 xs)
  tag : ∀ k, v.ownBlock = some k → col k = r
theorem BRow.nil (b : Nat) (W : World) (col : RCol) (r : Role) : BRow b W col r (.slice none 0 0) [] := ⟨own_nil _ _ _ _, fun k hk => by simp [Value.ownBlock] at hk⟩
theorem BRow.ch {r : Role} {v : Value} {xs : List Int} (h : BRow b W col r v xs) (m : Ch b W col W' col' S) (hn : ¬ S r) : BRow b W' col' r v xs :=
  ⟨own_move h.own (fun k hk => m.block k (own_lt h.own k hk) (by rw [h.tag k hk]; exact hn)), fun k hk => (m.same k (own_lt h.own k hk)).trans (h.tag k hk)⟩
theorem own_le_cap {W : World} {b e size n : Nat} {v : Value} {xs : List Value} (h : W.ownsRow b e size v n xs) : ∃ A c, v = .slice A n c ∧ n ≤ c := by
  rcases h.2 with ⟨rfl, rfl⟩ | ⟨g, cap, cur, rfl, _, _, hc, _⟩
  · exact ⟨none, 0, rfl, Nat.le_refl _⟩
  · exact ⟨_, cap, rfl, hc⟩
theorem own_form {W : World} {base n size : Nat} {e : TypeId} {v : Value} {xs : List Value} (h : W.ownsRow base e size v n xs) : ∃ A c, v = .slice A n c ∧ n ≤ c ∧ ∀ a, A = some a → v.ownBlock = some a.block := by
  rcases h.2 with ⟨rfl, rfl⟩ | ⟨g, cap, cur, rfl, _, _, hc, _⟩
  · exact ⟨none, 0, rfl, Nat.le_refl _, fun a ha => by cases ha⟩
  · exact ⟨_, cap, rfl, hc, fun a ha => by cases ha; rfl⟩
theorem BRow.reads {r : Role} {v : Value} {xs : List Int} (h : BRow b W col r v xs) : ∃ A c, v = .slice A xs.length c ∧ xs.length ≤ c ∧ ReadsInt W .u8 A xs.length xs ∧ ∀ a, A = some a → a.block < W.heap.size ∧ col a.block = r := by
  obtain ⟨A, c, rfl, hc, hb⟩ := own_form h.own
  exact ⟨A, c, rfl, hc, own_reads' h.own, fun a ha => ⟨own_lt h.own _ (hb a ha), h.tag _ (hb a ha)⟩⟩
theorem BRow.fresh {B : Nat} {v : Value} {xs : List Int} (h : W.ownsRow B 5 1 v xs.length (nums .u8 xs)) (hb : b ≤ B) (col : RCol) (new : RCol) (r : Role) (hn : ∀ k, B ≤ k → new k = r) : BRow b W (colN col B new) r v xs :=
  ⟨⟨h.1, by rcases h.2 with h2 | ⟨g, cap, cur, e, hg, r⟩; exact .inl h2; exact .inr ⟨g, cap, cur, e, Nat.le_trans hb hg, r⟩⟩, fun k hk => (colN_ge (own_base h k hk)).trans (hn k (own_base h k hk))⟩
theorem own_lower {W : World} {b B e size n : Nat} {v : Value} {xs : List Value} (h : W.ownsRow B e size v n xs) (hb : b ≤ B) : W.ownsRow b e size v n xs :=
  ⟨h.1, by rcases h.2 with h2 | ⟨g, cap, cur, e1, hg, r⟩; exact .inl h2; exact .inr ⟨g, cap, cur, e1, Nat.le_trans hb hg, r⟩⟩
theorem own_take {W : World} {b e size n m c : Nat} {A : Option Addr} {xs : List Value} (h : W.ownsRow b e size (.slice A n c) n xs) (hm : m ≤ n) : W.ownsRow b e size (.slice A m c) m (xs.take (m * size)) := by
  obtain ⟨h1, h2⟩ := h
  have hle : m * size ≤ n * size := Nat.mul_le_mul_right _ hm
  refine ⟨by rw [List.length_take, h1]; omega, ?_⟩
  rcases h2 with ⟨e1, rfl⟩ | ⟨g, cap, cur, e1, hg, hh, hc, hx, hs, ht⟩
  · injection e1 with a1 a2 a3
    subst a1 a3
    obtain rfl : m = 0 := by omega
    exact .inl ⟨rfl, rfl⟩
  · injection e1 with a1 a2 a3
    subst a1 a3
    exact .inr ⟨g, c, cur, rfl, hg, hh, by omega, hx, hs, by rw [← ht, List.take_take, Nat.min_eq_left hle]⟩
structure PFile (b : Nat) (W : World) (col : RCol) (f : Fl) (g : Nat) : Prop where
  ex : ∃ v, W.heap[g]? = some (.cells #[v, .int .i64 f.f2] 76 (0, 0)) ∧ BRow b W col (.pb f.f0) v f.f1
  tag : col g = .pf f.f0
  le : b ≤ g
theorem PFile.ch {f : Fl} {g : Nat} (h : PFile b W col f g) (m : Ch b W col W' col' S) (h1 : ¬ S (.pf f.f0)) (h2 : ¬ S (.pb f.f0)) : PFile b W' col' f g := by
  obtain ⟨v, hg, hr⟩ := h.ex
  exact ⟨⟨v, m.blk hg (by rw [h.tag]; exact h1), hr.ch m h2⟩, (m.same g (blk_lt hg)).trans h.tag, h.le⟩
def ptrE (v : Value) : Option (DataW Unit × List MemPlace) := match v with
  | .pointer (some ⟨g, 0, none⟩) => some (.lit (.int .i64 g), [])
  | .pointer none => some (.nil, [])
  | _ => none
theorem ptrE_mk (g : Nat) : ptrE (.pointer (some ⟨g, 0, none⟩)) = some (.lit (.int .i64 g), []) := rfl
theorem ptrE_nil : ptrE (.pointer none) = some (.nil, []) := rfl
theorem ptrE_inv {v : Value} {y : DataW Unit × List MemPlace} (h : ptrE v = some y) : ∃ p : Option Addr, v = .pointer p ∧ ((∃ g : Nat, p = some ⟨g, 0, none⟩ ∧ y.1 = .lit (.int .i64 g)) ∨ (p = none ∧ y.1 = .nil)) := by
  unfold ptrE at h
  split at h
  · cases h; exact ⟨_, rfl, .inl ⟨_, rfl, rfl⟩⟩
  · cases h; exact ⟨_, rfl, .inr ⟨rfl, rfl⟩⟩
  · cases h
theorem lawS : Keyed Tryd.prog 9 := string_keyed Tryd.underlying9
structure Dk where
  fs : List Fl
  down : Bool
  units : Int
  after : Int
  calls : Int
structure Dk.Ok (d : Dk) : Prop where
  rises : Rises d.fs
  names : ∀ f ∈ d.fs, Nm f.f0 = true
  size : ∀ f ∈ d.fs, f.f1.length ≤ 2097152 ∧ 0 ≤ f.f2 ∧ f.f2 ≤ f.f1.length
  few : d.fs.length ≤ 40
  u0 : -1 ≤ d.units
  u1 : d.units ≤ 9223372036854775807
  a0 : 0 ≤ d.after
  a1 : d.after ≤ 9223372036854775807
  c0 : 0 ≤ d.calls
  c1 : d.calls ≤ 9223372036854775807
structure PDm (b : Nat) (W : World) (col : RCol) (g : Nat) (d : Dk) (m : Nat) (gb : ByteArray → Nat) (ar : Bool) (u : Int) : Prop where
  blk : PB W g (.map (some m)) d.down ar u d.after d.calls
  tag : col g = .pd
  le : b ≤ g
  arm : ar = decide (0 ≤ d.units)
  unit : 0 ≤ d.units → u = d.units
  map : W.ownsMap Tryd.prog 9 ptrE m d.fs.length (mapD d.fs gb)
  mtag : col m = .pm
  mle : b ≤ m
  files : ∀ f ∈ d.fs, PFile b W col f (gb f.f0)
def PD (b : Nat) (W : World) (col : RCol) (g : Nat) (d : Dk) : Prop := ∃ m gb ar u, PDm b W col g d m gb ar u
theorem PDm.ch {g m : Nat} {d : Dk} {gb : ByteArray → Nat} {ar : Bool} {u : Int} (h : PDm b W col g d m gb ar u) (c : Ch b W col W' col' S) (hS : ∀ r, isP r → ¬ S r) : PDm b W' col' g d m gb ar u :=
  ⟨c.blk h.blk (by rw [h.tag]; exact hS _ trivial), (c.same g (blk_lt h.blk)).trans h.tag, h.le, h.arm, h.unit,
   by obtain ⟨es, clock, hb, r⟩ := h.map; exact ⟨es, clock, c.blk hb (by rw [h.mtag]; exact hS _ trivial), r⟩,
   (c.same m h.map.lt).trans h.mtag, h.mle, fun f hf => (h.files f hf).ch c (hS _ trivial) (hS _ trivial)⟩
theorem PD.ch {g : Nat} {d : Dk} (h : PD b W col g d) (c : Ch b W col W' col' S) (hS : ∀ r, isP r → ¬ S r) : PD b W' col' g d := by
  obtain ⟨m, gb, ar, u, h⟩ := h
  exact ⟨m, gb, ar, u, h.ch c hS⟩
def flatL (L : List (Fl × Value)) : List Value := L.flatMap fun p => [.string p.1.f0, p.2, .int .i64 p.1.f2]
structure RL (b : Nat) (W : World) (col : RCol) (v : Value) (fs : List Fl) (L : List (Fl × Value)) : Prop where
  fst : L.map (·.1) = fs
  own : W.ownsRow b 42 3 v fs.length (flatL L)
  tag : ∀ k, v.ownBlock = some k → col k = .rl
  rows : ∀ p ∈ L, BRow b W col .rb p.2 p.1.f1
theorem RL.ch {v : Value} {fs : List Fl} {L : List (Fl × Value)} (h : RL b W col v fs L) (c : Ch b W col W' col' S) (h1 : ¬ S .rl) (h2 : ¬ S .rb) : RL b W' col' v fs L :=
  ⟨h.fst, own_move h.own (fun k hk => c.block k (own_lt h.own k hk) (by rw [h.tag k hk]; exact h1)), fun k hk => (c.same k (own_lt h.own k hk)).trans (h.tag k hk), fun p hp => (h.rows p hp).ch c h2⟩
theorem flatL_cons (p : Fl × Value) (r : List (Fl × Value)) : flatL (p :: r) = [.string p.1.f0, p.2, .int .i64 p.1.f2] ++ flatL r := rfl
theorem flatL_get : ∀ (L : List (Fl × Value)) (i : Nat) (p : Fl × Value), L[i]? = some p → (flatL L)[i * 3]? = some (.string p.1.f0) ∧ (flatL L)[i * 3 + 1]? = some p.2 ∧ (flatL L)[i * 3 + 2]? = some (.int .i64 p.1.f2)
  | [], i, p, h => by simp at h
  | q :: r, 0, p, h => by simp at h; subst h; exact ⟨rfl, rfl, rfl⟩
  | q :: r, i + 1, p, h => by
    have ih := flatL_get r i p (by simpa using h)
    rw [flatL_cons, show (i + 1) * 3 = i * 3 + 3 by omega]
    exact ih
theorem RL.reads {v : Value} {fs : List Fl} {L : List (Fl × Value)} (h : RL b W col v fs L) : ∃ A c, v = .slice A fs.length c ∧ fs.length ≤ c ∧ Kd.C k42 W A fs.length fs := by
  obtain ⟨hf, hown, htag, hrows⟩ := h
  subst hf
  have hR : Reps (k42.K W) 3 (L.map (·.1)) (flatL L) := by
    clear hown htag
    induction L with
    | nil => exact Reps.none _ _
    | cons p r ih =>
      obtain ⟨A, c, hv, hc, hrd, _⟩ := (hrows p (by simp)).reads
      have h1 : k42.K W p.1 [.string p.1.f0, p.2, .int .i64 p.1.f2] := by rw [hv]; exact k42_mk W p.1 hc (Kd.C_of_reads (d := (0 : Int)) (readsInt_of.1 hrd))
      have := Kd.reps_append ((Reps.none (k42.K W) 3).snoc h1 rfl) (ih (fun q hq => hrows q (List.mem_cons_of_mem _ hq)))
      simpa [flatL_cons] using this
  obtain ⟨A, c, hv, hc⟩ := own_le_cap hown
  obtain ⟨A', c', hv', hrd⟩ := own_reads_row hown hR (by simp)
  rw [hv] at hv'
  injection hv' with e1 e2 e3
  subst e1
  exact ⟨A, c, hv, hc, hrd⟩
end
theorem infoB : (Tryd.prog.info? 5).map (fun i => (i.zero, i.size, i.bytes)) = some (some (.int .u8 0), 1, 1) := by kernel_rfl
theorem infoF : (Tryd.prog.info? 42).map (fun i => (i.zero, i.size, i.bytes)) = some (some (.agg #[.string ⟨#[]⟩, .slice none 0 0, .int .i64 0]), 3, 48) := by kernel_rfl
def NewB (w w' : World) (e : Ending) (xs : List Int) : Prop := ∃ v, e = .returned v ∧ w'.ownsRow w.heap.size 5 1 v xs.length (nums .u8 xs) ∧ Below w.heap.size w w'
set_option maxRecDepth 100000 in
set_option maxHeartbeats 2000000 in
theorem clone_calls (A : Option Addr) (c : Nat) (xs : List Int) (w : World) (hl : xs.length ≤ 140737488355328) (hc : xs.length ≤ c) (hrd : ReadsInt w .u8 A xs.length xs) :
    Calls Tryd.prog 27 #[.slice A xs.length c] w fun e w' => NewB w w' e xs := by
  have HR := Aside0.mk hrd
  have HL := Aside0.mk hl
  cases A with
  | none =>
    have h0 : xs.length = 0 := by
      rcases Nat.eq_zero_or_pos xs.length with h | h
      · exact h
      · obtain ⟨ad, h1, _⟩ := hrd.2.2 h
        cases h1
    obtain rfl : xs = [] := List.eq_nil_of_length_eq_zero h0
    clear hrd hl
    have hn : ∀ W, (binOp .eql 29 (.slice none 0 c) (.slice none 0 0)).run Tryd.prog W = .ok (.bool true) W := fun W => Lib.run_eql_slice_nil_nil W 0 c Tryd.underlying29
    go_enter Tryd.func27, Tryd.ntmps27
    go_wp2
    go_ret
    exact ⟨_, rfl, own_nil _ _ _ _, Below.refl _ _⟩
  | some a =>
    clear hrd hl
    have hn : ∀ W, (binOp .eql 29 (.slice (some a) xs.length c) (.slice none 0 0)).run Tryd.prog W = .ok (.bool false) W := fun W => Lib.run_eql_slice_some_nil W a xs.length c Tryd.underlying29
    go_enter Tryd.func27, Tryd.ntmps27
    go_wp2_with ((with_reducible refine gate_builtin (b := .append) (xs := #[.tmp 5, .tmp 6]) rfl ?_); at_builtin; refine print_append_row (w0 := w) w.heap.size rfl (.tmp 5) (.tmp 6) 29 5 .u8 1 rfl Tryd.underlying29 infoB (by decide) (.slice (some ⟨w.heap.size, 0, none⟩) 0 0) [] xs (some a) xs.length c rfl rfl ?aO ?aR ?aB ?aS ?aL ?_; (case aO => exact World.ownsRow_made w #[] 0 (Nat.le_refl _) (by simp [maxLen]) rfl); (case aR => exact HR.out.below (below_alloc (Below.refl _ _) _)); (case aB => exact below_alloc (Below.refl _ _) _); (case aS => simp); (case aL => have := HL.out; simp; omega); intro v1 w2 ho2 hb2 _ _; have HO2 := Aside0.mk ho2; have HB2 := Aside0.mk hb2; clear ho2 hb2)
    go_ret
    exact ⟨v1, rfl, by simpa using HO2.out, HB2.out⟩
theorem rdF {fs : List Fl} {i : Nat} {f : Fl} (h : fs[i]? = some f) : rd_T42 fs (i : Int) = f := by
  unfold rd_T42
  rw [Int.toNat_natCast, List.getD_eq_getElem?_getD, h]
  rfl
theorem meas_lt {i q : Nat} (h : i < q) (k : wrap64 ((i : Int) + 1) = (i : Int) + 1) : q - (intOf (.int .i64 (wrap64 ((i : Int) + 1)))).toNat < q - (intOf (.int .i64 (i : Int))).toNat := by
  rw [k]
  show q - ((i : Int) + 1).toNat < q - (i : Int).toNat
  omega
section
variable {P : Program} {ops : Array Oper} {rest : List Oper} {o : Oper} {a : Act} {Q : Exit → Act → World → Prop}
end
theorem Ch.set {b : Nat} {W W' : World} {col col' : RCol} {S : Role → Prop} (m : Ch b W col W' col' S) {p : Addr} (hg : b ≤ p.block) (hS : S (col' p.block)) (v : Value) : Ch b W col (W'.setCell p v) col' S :=
  ⟨m.below.setCell hg v, m.le, m.same, fun k hk hn => (Below.heap_setCell W' p v k (fun e => hn (by rw [← m.same k hk, e]; exact hS))).trans (m.block k hk hn)⟩
theorem Ch.one_set {b : Nat} {W : World} {col : RCol} {g : Nat} (hb : b ≤ W.heap.size) (hg : b ≤ g) (i : Nat) (v : Value) : Ch b W col (W.setCell ⟨g, i, none⟩ v) col (fun r => r = col g) :=
  Ch.set (S := fun r => r = col g) (Ch.refl hb) (p := ⟨g, i, none⟩) hg rfl v
theorem flatL_one (L : List (Fl × Value)) (p : Fl × Value) : flatL L ++ [.string p.1.f0, p.2, .int .i64 p.1.f2] = flatL (L ++ [p]) := by simp [flatL]
theorem BRow.one {b : Nat} {W : World} {col : RCol} {r : Role} {v : Value} {xs : List Int} (h : BRow b W col r v xs) : v.oneCell' = true := by
  obtain ⟨A, c, rfl, _⟩ := h.reads
  rfl
def PPost (b : Nat) (w : World) (col : RCol) (g : Nat) (d : Dk) (w' : World) : Prop := ∃ col', Ch b w col w' col' isP ∧ PD b w' col' g d
def Dk.fst (d : Dk) (nm : ByteArray) : Int × Dk := ((firstS (Nm nm) d.down d.after d.calls).1, { d with after := (firstS (Nm nm) d.down d.after d.calls).2.1, calls := (firstS (Nm nm) d.down d.after d.calls).2.2 })
def Dk.fell (d : Dk) : Dk := { d with down := true, units := -1, after := 0, calls := 0 }
def Dk.pay (d : Dk) (cost : Int) : Bool × Int × Dk := if d.units < 0 then (true, 0, d) else if cost ≤ d.units then (true, 0, { d with units := d.units - cost }) else (false, d.units, d.fell)
def Dk.chg (d : Dk) (nm : ByteArray) : Int × Dk :=
  if (d.fst nm).1 ≠ 0 then d.fst nm else if there d.fs nm = false then (193, (d.fst nm).2) else if ((d.fst nm).2.pay 1).1 = false then (190, ((d.fst nm).2.pay 1).2.2) else (0, ((d.fst nm).2.pay 1).2.2)
theorem firstS_lit (ok dn : Bool) (a c : Int) : (firstS ok dn a c).1 = 0 ∨ (firstS ok dn a c).1 = 190 ∨ (firstS ok dn a c).1 = 191 ∨ (firstS ok dn a c).1 = 192 := by
  unfold firstS
  split
  · simp
  split
  · simp
  split
  · simp
  split <;> simp
theorem firstS_num (ok dn : Bool) (a c : Int) (h0 : 0 ≤ a) (h1 : 0 ≤ c) : 0 ≤ (firstS ok dn a c).2.1 ∧ (firstS ok dn a c).2.1 ≤ a ∧ 0 ≤ (firstS ok dn a c).2.2 ∧ (firstS ok dn a c).2.2 ≤ c := by
  unfold firstS
  split
  · exact ⟨h0, Int.le_refl _, h1, Int.le_refl _⟩
  split
  · exact ⟨h0, Int.le_refl _, h1, Int.le_refl _⟩
  split
  · exact ⟨h0, Int.le_refl _, h1, Int.le_refl _⟩
  split
  · refine ⟨?_, ?_, ?_, ?_⟩ <;> simp <;> omega
  · refine ⟨?_, ?_, ?_, ?_⟩ <;> simp <;> omega
theorem Dk.Ok.rig {d d' : Dk} (h : d.Ok) (hf : d'.fs = d.fs) (u0 : -1 ≤ d'.units) (u1 : d'.units ≤ 9223372036854775807) (a0 : 0 ≤ d'.after) (a1 : d'.after ≤ 9223372036854775807) (c0 : 0 ≤ d'.calls) (c1 : d'.calls ≤ 9223372036854775807) : d'.Ok :=
  ⟨hf ▸ h.rises, hf ▸ h.names, hf ▸ h.size, hf ▸ h.few, u0, u1, a0, a1, c0, c1⟩
theorem Dk.Ok.fst {d : Dk} (h : d.Ok) (nm : ByteArray) : (d.fst nm).2.Ok := by
  obtain ⟨h1, h2, h3, h4⟩ := firstS_num (Nm nm) d.down d.after d.calls h.a0 h.c0
  have := h.a1
  have := h.c1
  exact h.rig rfl h.u0 h.u1 h1 (Int.le_trans h2 h.a1) h3 (Int.le_trans h4 h.c1)
theorem Dk.Ok.fell {d : Dk} (h : d.Ok) : d.fell.Ok := h.rig rfl (by simp [Dk.fell]) (by simp [Dk.fell]) (by simp [Dk.fell]) (by simp [Dk.fell]) (by simp [Dk.fell]) (by simp [Dk.fell])
theorem pay_fs (d : Dk) (cost : Int) : (d.pay cost).2.2.fs = d.fs := by
  unfold Dk.pay
  split
  · rfl
  split <;> rfl
theorem Dk.Ok.pay {d : Dk} (h : d.Ok) {cost : Int} (hc : 0 ≤ cost) : (d.pay cost).2.2.Ok := by
  unfold Dk.pay
  split
  · exact h
  split
  · have := h.u1
    exact h.rig rfl (by show -1 ≤ d.units - cost; omega) (by show d.units - cost ≤ _; omega) h.a0 h.a1 h.c0 h.c1
  · exact h.fell
theorem chg_fs (d : Dk) (nm : ByteArray) : (d.chg nm).2.fs = d.fs := by
  unfold Dk.chg
  split
  · rfl
  split
  · rfl
  split
  · exact pay_fs _ _
  · exact pay_fs _ _
theorem Dk.Ok.chg {d : Dk} (h : d.Ok) (nm : ByteArray) : (d.chg nm).2.Ok := by
  unfold Dk.chg
  split
  · exact h.fst nm
  split
  · exact h.fst nm
  split
  · exact (h.fst nm).pay (by omega)
  · exact (h.fst nm).pay (by omega)
theorem chg_there {d : Dk} {nm : ByteArray} (h : (d.chg nm).1 = 0) : there d.fs nm = true := by
  unfold Dk.chg at h
  split at h
  · rename_i h1; exact absurd h h1
  split at h
  · cases h
  · rename_i h2; simpa using h2
theorem add_at (g k : Nat) : (⟨g, 0, none⟩ : Addr).add k = ⟨g, k, none⟩ := by unfold Addr.add; by_cases h : k = 0 <;> simp [h]
section
variable {b g q : Nat} {w : World} {col : RCol} {d : Dk} {v : Value} {L : List (Fl × Value)} {p : Fl × Value}
structure LAt (b : Nat) (w : World) (col : RCol) (g : Nat) (v : Value) (n : Nat) (ad : Addr) (c : Nat) : Prop where
  v : v = .slice (some ad) n c
  le : n ≤ c
  eq : ad = ⟨ad.block, 0, none⟩
  tag : col ad.block = .rl
  base : b ≤ ad.block
  lt : ad.block < w.heap.size
end
end Go.Proofs.YthneomomhoilkaaDoor.PA
end
