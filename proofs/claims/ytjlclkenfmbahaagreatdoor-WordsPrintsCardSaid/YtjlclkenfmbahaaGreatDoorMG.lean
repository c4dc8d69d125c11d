/- Several texts of this claim in one, each in a section of its own; what nothing reaches is left out. Conditions: each law's own. -/
import Derived.Test.YtjlclkenfmbahaaGreatDoorMC
import Derived.Test.YtjlclkenfmbahaaGreatDoorMPAx0
import Derived.Test.YtjlclkenfmbahaaGreatDoorMQ
import Derived.Test.YtjlclkenfmbahaaGreatDoorMPAx47
import Derived.Test.YtjlclkenfmbahaaGreatDoorML3
set_option linter.unusedVariables false
set_option linter.unusedSimpArgs false
set_option linter.unusedSectionVars false
section
namespace Go.Proofs.YtjlclkenfmbahaaGreatDoor.Gr
open Go.RowKit Go.Proofs.YtjlclkenfmbahaaGreatDoorW.PrintWords Go.Proofs.YtjlclkenfmbahaaGreatDoorW.PrintLast Go.Proofs.YtjlclkenfmbahaaGreatDoor.PA
structure Fine (q : Nat) (r : S57 × Bool × Nat × Int × Int) : Prop where
 ok : r.2.1 = true → r.1.f1 = (q : Int) ∧ q < r.2.2.1 ∧ r.2.2.2.1 = 0 ∧ r.2.2.2.2 = 0
 no : r.2.1 = false → r.2.2.2.1 ≠ 0
theorem Fine.yes {q : Nat} {t : S57} {p : Nat} (h1 : t.f1 = (q : Int)) (h2 : q < p) : Fine q (t, true, p, 0, 0) := ⟨fun _ => ⟨h1, h2, rfl, rfl⟩, fun h => by cases h⟩
theorem Fine.bad {q : Nat} {t : S57} {p : Nat} {e a : Int} (h : e ≠ 0) : Fine q (t, false, p, e, a) := ⟨fun h => (by cases h), fun _ => h⟩
theorem txt_fine (s : ByteArray) (p : Nat) (d : Nat) : ∀ (i : Nat) (acc : List UInt8), p ≤ i → Fine p (txtR s p 0 0 d i acc) := by
 induction d with
 | zero => intro i acc h; exact Fine.bad (by decide)
 | succ d ih =>
  intro i acc h
  unfold txtR
  split
  ·exact Fine.bad (by decide)
  ·split
   ·exact Fine.bad (by decide)
   ·split
    ·split
     ·exact Fine.yes rfl (by omega)
     ·exact Fine.bad (by decide)
    ·split
     ·split
      ·exact Fine.bad (by decide)
      ·split
       ·exact ih _ _ (by omega)
       ·exact Fine.bad (by decide)
     ·split
      ·exact Fine.bad (by decide)
      ·exact ih _ _ (by omega)
theorem le_mB (s : ByteArray) (q : Nat) : q ≤ mB s q := by
 unfold mB
 split <;> omega
theorem le_m2B (s : ByteArray) (q : Nat) : q ≤ m2B s q := by
 unfold m2B
 split <;> omega
theorem word_fine {s : ByteArray} {q : Nat} {c : UInt8} (hc : (Ls s)[q]? = some c) : Fine q (wordR s q c 0 0) := by
 unfold wordR
 split
 ·next hL =>
  have : runP isWd s q = runP isWd s (q + 1) + 1 := (runP_yes (by unfold atP; rw [hc]; show (isLt c || isDg c || c.toNat == 95) = true; rw [hL]; rfl)).1
  unfold nameR
  split
  ·exact Fine.yes rfl (by omega)
  ·exact Fine.bad (by decide)
 ·split
  ·next hD =>
   have : runP isDg s q = runP isDg s (q + 1) + 1 := (runP_yes (by unfold atP; rw [hc]; exact hD)).1
   unfold numberR
   split
   ·unfold dateR
    split
    ·exact Fine.bad (by decide)
    ·exact Fine.yes rfl (by omega)
   ·have h1 := le_mB s (q + runP isDg s q)
    have h2 := le_m2B s (mB s (q + runP isDg s q))
    unfold numR
    split
    ·exact Fine.yes rfl (by omega)
    ·exact Fine.bad (by decide)
  ·split
   ·exact txt_fine s q _ _ _ (by omega)
   ·split
    ·unfold signR
     split
     ·exact Fine.yes rfl (by omega)
     ·split
      ·exact Fine.bad (by decide)
      ·exact Fine.yes rfl (by omega)
    ·exact Fine.bad (by decide)
theorem skip_at {s : ByteArray} (l : Bool) (n : Nat) : ∀ p, s.size < p + n → p ≤ s.size → p ≤ skipB s l n p ∧ ∀ c, (Ls s)[skipB s l n p]? = some c → ¬ ((c.toNat : Int) = 32 ∨ (c.toNat : Int) = 9) ∧ ¬ (c.toNat : Int) = 35 ∧ ((c.toNat : Int) = 10 → l = true) := by
 induction n with
 | zero => intro p h1 h2; omega
 | succ n ih =>
  intro p h1 h2
  unfold skipB
  split
  ·next hb =>
   refine ⟨Nat.le_refl _, fun c hc => ?_⟩
   rw [hb] at hc
   cases hc
  ·next c hc =>
   have hlt := (bt_of s hc).2
   split
   ·have := ih (p + 1) (by omega) (by omega)
    exact ⟨by omega, this.2⟩
   ·next a1 =>
    split
    ·next a2 =>
     have hr := (runP_yes (p := fun b => b.toNat != 10) (s := s) (i := p) (by unfold atP; rw [hc]; exact bne_iff_ne.mpr (by omega))).1
     have hle := runP_le (fun b => b.toNat != 10) s p (by omega)
     have := ih (p + runP (fun b => b.toNat != 10) s p) (by omega) hle
     exact ⟨by omega, this.2⟩
    ·next a2 =>
     split
     ·next a3 =>
      cases l with
      | true =>
       refine ⟨Nat.le_refl _, fun c2 hc2 => ?_⟩
       rw [if_pos rfl, hc] at hc2
       cases hc2
       exact ⟨a1, a2, fun _ => rfl⟩
      | false =>
       rw [if_neg (by decide)]
       have := ih (p + 1) (by omega) (by omega)
       exact ⟨by omega, this.2⟩
     ·next a3 =>
      refine ⟨Nat.le_refl _, fun c2 hc2 => ?_⟩
      rw [hc] at hc2
      cases hc2
      exact ⟨a1, a2, fun h => absurd h a3⟩
def plain (b : UInt8) : Bool := b.toNat != 32 && b.toNat != 9 && b.toNat != 35 && b.toNat != 10
def Calm (R' R : List UInt8) : Prop := R'.takeWhile plain <+: R
theorem Calm.refl (R : List UInt8) : Calm R R := List.takeWhile_prefix _
theorem Calm.nil (R : List UInt8) : Calm [] R := List.nil_prefix
theorem Calm.get {R' R : List UInt8} (h : Calm R' R) : ∀ i : Nat, (∀ j : Nat, j ≤ i → ∃ b, R'[j]? = some b ∧ plain b = true) → R[i]? = R'[i]? := by
 intro i hi
 have hl : i < (R'.takeWhile plain).length := by
  unfold Calm at h
  clear h
  induction R' generalizing i with
  | nil => obtain ⟨b, hb, _⟩ := hi 0 (by omega); cases hb
  | cons x xs ih =>
   obtain ⟨b, hb, hp⟩ := hi 0 (by omega)
   cases hb
   rw [List.takeWhile_cons, if_pos hp]
   cases i with
   | zero => simp
   | succ i =>
    have := ih i (fun j hj => by have := hi (j + 1) (by omega); simpa using this)
    simp only [List.length_cons]
    omega
 have e1 : (R'.takeWhile plain)[i]? = R'[i]? := by
  obtain ⟨t, ht⟩ := List.takeWhile_prefix (l := R') plain
  conv => rhs; rw [← ht]
  rw [List.getElem?_append_left hl]
 obtain ⟨t, ht⟩ := h
 rw [← e1, ← ht, List.getElem?_append_left hl]
section
structure Mv (s s' : ByteArray) (q q' : Nat) (A R R' : List UInt8) : Prop where
 h : (Ls s).drop q = A ++ R
 h' : (Ls s').drop q' = A ++ R'
 c : Calm R' R
variable {s s' : ByteArray} {q q' : Nat} {A R R' : List UInt8} (M : Mv s s' q q' A R R')
include M
theorem Mv.at_ (i : Nat) : (Ls s)[q + i]? = (A ++ R)[i]? := by rw [← M.h, List.getElem?_drop]
theorem Mv.at_' (i : Nat) : (Ls s')[q' + i]? = (A ++ R')[i]? := by rw [← M.h', List.getElem?_drop]
theorem Mv.inn {i : Nat} (hi : i < A.length) : (Ls s')[q' + i]? = (Ls s)[q + i]? := by
 rw [M.at_, M.at_', List.getElem?_append_left hi, List.getElem?_append_left hi]
theorem Mv.out {i : Nat} (h : ∀ j, A.length ≤ j → j ≤ i → ∃ b, (Ls s')[q' + j]? = some b ∧ plain b = true) : (Ls s')[q' + i]? = (Ls s)[q + i]? := by
 by_cases hi : i < A.length
 ·exact M.inn hi
 ·have hi : A.length ≤ i := by omega
  rw [M.at_, M.at_', List.getElem?_append_right hi, List.getElem?_append_right hi]
  refine (M.c.get _ fun j hj => ?_).symm
  obtain ⟨b, hb, hp⟩ := h (A.length + j) (by omega) (by omega)
  rw [M.at_', List.getElem?_append_right (by omega), Nat.add_sub_cancel_left] at hb
  exact ⟨b, hb, hp⟩
theorem Mv.atP_in {p : UInt8 → Bool} {i : Nat} (hi : i < A.length) : atP p s' (q' + i) = atP p s (q + i) := by unfold atP; rw [M.inn hi]
theorem Mv.atP_out {p : UInt8 → Bool} (hp : ∀ b, p b = true → plain b = true) {i : Nat} (hi : i ≤ A.length) (h : atP p s (q + i) = false) : atP p s' (q' + i) = false := by
 cases e : atP p s' (q' + i) with
 | false => rfl
 | true =>
  have : (Ls s')[q' + i]? = (Ls s)[q + i]? := M.out fun j h1 h2 => by
   obtain rfl : j = i := by omega
   unfold atP at e
   split at e
   ·next b hb => exact ⟨b, hb, hp b e⟩
   ·cases e
  unfold atP at e h
  rw [this, h] at e
  cases e
theorem Mv.runs {p : UInt8 → Bool} (hp : ∀ b, p b = true → plain b = true) {i : Nat} (h : i + runP p s (q + i) ≤ A.length) : runP p s' (q' + i) = runP p s (q + i) := by
 generalize hd : runP p s (q + i) = d at h
 induction d generalizing i with
 | zero =>
  have h0 : atP p s (q + i) = false := by
   cases e : atP p s (q + i) with
   | false => rfl
   | true => have := (runP_yes e).1; omega
  exact runP_no (M.atP_out hp (by omega) h0)
 | succ d ih =>
  have h1 : atP p s (q + i) = true := by
   cases e : atP p s (q + i) with
   | true => rfl
   | false => rw [runP_no e] at hd; cases hd
  have h2 := (runP_yes h1).1
  have h3 : atP p s' (q' + i) = true := by rw [M.atP_in (by omega)]; exact h1
  have h4 := ih (i := i + 1) (by rw [← Nat.add_assoc]; omega) (by omega)
  rw [← Nat.add_assoc] at h4
  rw [(runP_yes h3).1, h4]
theorem Mv.ext {i n : Nat} (h : i + n ≤ A.length) : s'.extract (q' + i) (q' + i + n) = s.extract (q + i) (q + i + n) := by
 have e : ∀ (t : ByteArray) (x : Nat) (T : List UInt8), (Ls t).drop x = A ++ T → Ls (t.extract (x + i) (x + i + n)) = (A.drop i).take n := fun t x T ht => by
  show (t.extract (x + i) (x + i + n)).data.toList = _
  rw [ByteArray.data_extract, Array.toList_extract, List.extract_eq_take_drop, Nat.add_sub_cancel_left]
  show ((Ls t).drop (x + i)).take n = _
  rw [← List.drop_drop, ht, List.drop_append_of_le_length (by omega), List.take_append_of_le_length (by rw [List.length_drop]; omega)]
 have e1 := e s q R M.h
 have e2 := e s' q' R' M.h'
 rw [← e1] at e2
 show (⟨_⟩ : ByteArray) = ⟨_⟩
 exact ByteArray.ext (Array.toList_inj.mp e2)
theorem Mv.size : q + A.length ≤ s.size ∨ A = [] := by
 by_cases hA : A = []
 ·exact .inr hA
 ·left
  have := congrArg List.length M.h
  rw [List.length_drop, Ls_len, List.length_append] at this
  have : 0 < A.length := List.length_pos_iff.2 hA
  omega
theorem Mv.size' : q' + A.length ≤ s'.size ∨ A = [] := by
 by_cases hA : A = []
 ·exact .inr hA
 ·left
  have := congrArg List.length M.h'
  rw [List.length_drop, Ls_len, List.length_append] at this
  have : 0 < A.length := List.length_pos_iff.2 hA
  omega
end
theorem plain_of {b : UInt8} (h : b.toNat ≠ 32 ∧ b.toNat ≠ 9 ∧ b.toNat ≠ 35 ∧ b.toNat ≠ 10) : plain b = true := by
 unfold plain
 simp [h]
theorem plain_wd {b : UInt8} (h : isWd b = true) : plain b = true := by
 apply plain_of
 unfold isWd isLt isDg at h
 simp only [Bool.or_eq_true, Bool.and_eq_true, decide_eq_true_eq, beq_iff_eq] at h
 omega
theorem dg_wd {b : UInt8} (h : isDg b = true) : isWd b = true := by unfold isWd; rw [h]; simp
theorem lu_wd {b : UInt8} (h : isLu b = true) : isWd b = true := by
 unfold isLu at h
 unfold isWd
 simp only [Bool.or_eq_true] at h ⊢
 rcases h with h | h
 ·exact .inl (.inl h)
 ·exact .inr h
theorem plain_eq {n : Nat} (h : n ≠ 32 ∧ n ≠ 9 ∧ n ≠ 35 ∧ n ≠ 10) (b : UInt8) (hb : (b.toNat == n) = true) : plain b = true := plain_of (by rw [beq_iff_eq] at hb; omega)
theorem bt_eqv {s s' : ByteArray} {i j : Nat} (h : (Ls s')[j]? = (Ls s)[i]?) : bt s' (j : Int) = bt s (i : Int) := by
 by_cases hi : i < s.size
 ·obtain ⟨b, hb⟩ := byte_some s hi
  rw [(bt_of s hb).1, (bt_of s' (h.trans hb)).1]
 ·have e := byte_none s hi
  have hj : ¬ j < s'.size := fun hj => by
   obtain ⟨b, hb⟩ := byte_some s' hj
   rw [h, e] at hb
   cases hb
  unfold bt
  rw [Int.toNat_natCast, Int.toNat_natCast, dif_neg hi, dif_neg hj]
def atQ (t : S57) (q : Nat) : S57 := ⟨t.f0, q, t.f2, t.f3, t.f4⟩
section
variable {s s' : ByteArray} {q q' : Nat} {A R R' : List UInt8} (M : Mv s s' q q' A R R') (hA : 0 < A.length)
include M hA
theorem name_mv {t : S57} (h : nameR s q 0 0 = (t, true, q + A.length, 0, 0)) : nameR s' q' 0 0 = (atQ t q', true, q' + A.length, 0, 0) := by
 unfold nameR at h ⊢
 split at h
 ·next h1 =>
  simp only [Prod.mk.injEq] at h
  obtain ⟨rfl, _, h2, _, _⟩ := h
  have hr : runP isWd s' (q' + 0) = runP isWd s (q + 0) := M.runs (p := isWd) (fun b => plain_wd) (by rw [Nat.add_zero]; omega)
  have hx := M.ext (i := 0) (n := A.length) (by omega)
  simp only [Nat.add_zero] at hr hx
  have h3 : runP isWd s q = A.length := by omega
  rw [hr, if_pos h1, h3, hx]
  rfl
 ·cases h
theorem dated_in (h : datedB s q = true) (hn : A.length = 10) : datedB s' q' = true := by
 have hgo := datedGo_at 10 0 h
 have : ∀ d i, i + d = 10 → datedGo s' q' d i = true := by
  intro d
  induction d with
  | zero => intro i hi; rfl
  | succ d ih =>
   intro i hi
   unfold datedGo
   have h1 := hgo i (by omega) (by omega)
   have h2 : datedT s' q' i = true := by
    unfold datedT at h1 ⊢
    rw [M.atP_in (by omega), M.atP_in (by omega)]
    exact h1
   rw [if_pos h2]
   exact ih _ (by omega)
 exact this 10 0 rfl
theorem dated_out (h : datedB s q = false) : datedB s' q' = false := by
 cases e : datedB s' q' with
 | false => rfl
 | true =>
  have hgo := datedGo_at 10 0 e
  have hb : ∀ i, i < 10 → ∃ b, (Ls s')[q' + i]? = some b ∧ plain b = true := fun i hi => by
   have := hgo i (by omega) (by omega)
   unfold datedT atP at this
   split at this
   ·split at this
    ·next b hb => exact ⟨b, hb, plain_eq (by decide) b this⟩
    ·cases this
   ·split at this
    ·next b hb => exact ⟨b, hb, plain_wd (dg_wd this)⟩
    ·cases this
  have hs : ∀ i, i < 10 → (Ls s')[q' + i]? = (Ls s)[q + i]? := fun i hi => M.out fun j _ hj => hb j (by omega)
  have : ∀ d i, i + d = 10 → datedGo s q d i = true := by
   intro d
   induction d with
   | zero => intro i hi; rfl
   | succ d ih =>
    intro i hi
    unfold datedGo
    have h1 := hgo i (by omega) (by omega)
    have h2 : datedT s q i = true := by
     unfold datedT atP at h1 ⊢
     rw [hs i (by omega)] at h1
     exact h1
    rw [if_pos h2]
    exact ih _ (by omega)
  rw [show datedB s q = true from this 10 0 rfl] at h
  cases h
theorem date_mv {t : S57} (h : dateR s q 0 0 = (t, true, q + A.length, 0, 0)) : A.length = 10 ∧ dateR s' q' 0 0 = (atQ t q', true, q' + A.length, 0, 0) := by
 unfold dateR at h ⊢
 split at h
 ·cases h
 ·next h1 =>
  simp only [Prod.mk.injEq] at h
  obtain ⟨rfl, _, h2, _, _⟩ := h
  have hn : A.length = 10 := by omega
  have hx := M.ext (i := 0) (n := 10) (by omega)
  simp only [Nat.add_zero] at hx
  obtain ⟨h3, h4⟩ := not_or.mp h1
  have h5 : atP isWd s' (q' + 10) = false := by
   rw [← hn]
   refine M.atP_out (p := isWd) (fun b => plain_wd) (Nat.le_refl _) ?_
   rw [hn]
   simpa using h4
  rw [hx, if_neg (not_or.mpr ⟨h3, by rw [h5]; decide⟩), hn]
  exact ⟨rfl, rfl⟩
theorem ptB_mv {i : Nat} (hi : i ≤ A.length) (h : mB s (q + i) ≤ q + A.length) (h2 : m2B s (mB s (q + i)) = q + A.length) : ptB s' (q' + i) = ptB s (q + i) := by
 by_cases hp : ptB s (q + i) = true
 ·have hp2 := hp
  unfold ptB at hp2
  have h3 := (Bool.and_eq_true _ _).mp hp2
  have h4 := (runP_yes h3.2).1
  unfold mB at h
  rw [if_pos hp] at h
  have e1 := M.atP_in (p := fun b => b.toNat == 46) (i := i) (by omega)
  have e2 := M.atP_in (p := isDg) (i := i + 1) (by omega)
  unfold ptB
  rw [e1, Nat.add_assoc q' i 1, Nat.add_assoc q i 1, e2]
 ·have hp : ptB s (q + i) = false := by simpa using hp
  rw [hp]
  unfold mB at h2
  rw [hp, if_neg (by decide)] at h2
  by_cases hlt : i < A.length
  ·
   have hpc : pcB s (q + i) = true := by
    unfold m2B at h2
    split at h2
    ·assumption
    ·omega
   have : atP (fun b => b.toNat == 46) s (q + i) = false := by
    unfold pcB atP at hpc
    unfold atP
    split
    ·next b hb =>
     rw [hb] at hpc
     have : b.toNat = 37 := by simpa using hpc
     simp [this]
    ·rfl
   unfold ptB
   rw [M.atP_in hlt, this, Bool.false_and]
  ·cases e : ptB s' (q' + i) with
   | false => rfl
   | true =>
    unfold ptB at e hp
    obtain ⟨e1, e2⟩ := (Bool.and_eq_true _ _).mp e
    have hb : ∀ j, j ≤ 1 → ∃ b, (Ls s')[q' + i + j]? = some b ∧ plain b = true := fun j hj => by
     match j, hj with
     | 0, _ =>
      unfold atP at e1
      split at e1
      ·next b hb => exact ⟨b, hb, plain_eq (by decide) b e1⟩
      ·cases e1
     | 1, _ =>
      unfold atP at e2
      split at e2
      ·next b hb => exact ⟨b, hb, plain_wd (dg_wd e2)⟩
      ·cases e2
    have hs : ∀ j, j ≤ 1 → (Ls s')[q' + (i + j)]? = (Ls s)[q + (i + j)]? := fun j hj => M.out fun k h1 h2 => by
     obtain ⟨x, rfl⟩ : ∃ x, k = i + x := ⟨k - i, by omega⟩
     rw [← Nat.add_assoc]
     exact hb x (by omega)
    have s0 := hs 0 (by omega)
    have s1 := hs 1 (by omega)
    rw [Nat.add_zero] at s0
    rw [← Nat.add_assoc, ← Nat.add_assoc] at s1
    unfold atP at e1 e2 hp
    rw [s0] at e1
    rw [s1] at e2
    rw [e1, e2] at hp
    cases hp
theorem num_mv {t : S57} (h : numR s q 0 0 = (t, true, q + A.length, 0, 0)) : numR s' q' 0 0 = (atQ t q', true, q' + A.length, 0, 0) := by
 unfold numR at h
 split at h
 ·next h1 =>
  simp only [Prod.mk.injEq] at h
  obtain ⟨rfl, _, h2, _, _⟩ := h
  have hm := le_m2B s (mB s (q + runP isDg s q))
  have hq := le_mB s (q + runP isDg s q)
  generalize hd : runP isDg s q = d at *
  have hr : runP isDg s' q' = d := by
   have := M.runs (p := isDg) (fun b hb => plain_wd (dg_wd hb)) (i := 0) (by rw [Nat.add_zero, hd]; omega)
   rw [Nat.add_zero, Nat.add_zero, hd] at this
   exact this
  have hpt := ptB_mv M hA (i := d) (by omega) (by omega) h2
  obtain ⟨m, hm1⟩ : ∃ m, mB s (q + d) = q + m := ⟨mB s (q + d) - q, by omega⟩
  have hm2 : mB s' (q' + d) = q' + m ∧ partB s' (q' + d) = partB s (q + d) := by
   have hle : q + m ≤ q + A.length := by omega
   unfold mB at hm1
   unfold mB partB
   rw [hpt]
   split at hm1
   ·next hp =>
    have e1 := M.runs (p := isDg) (fun b hb => plain_wd (dg_wd hb)) (i := d + 1) (by rw [← Nat.add_assoc]; omega)
    rw [← Nat.add_assoc, ← Nat.add_assoc] at e1
    have e2 := M.ext (i := d + 1) (n := runP isDg s (q + d + 1)) (by omega)
    rw [← Nat.add_assoc, ← Nat.add_assoc] at e2
    rw [if_pos hp, if_pos hp, if_pos hp, e1, e2]
    exact ⟨by omega, rfl⟩
   ·next hp =>
    rw [if_neg hp, if_neg hp, if_neg hp]
    exact ⟨by omega, rfl⟩
  rw [hm1] at h2 hm
  have hpc : pcB s' (q' + m) = pcB s (q + m) := by
   unfold pcB
   by_cases hlt : m < A.length
   ·exact M.atP_in hlt
   ·have h3 : pcB s (q + m) = false := by
     unfold m2B at h2
     split at h2
     ·omega
     ·next h4 => simpa using h4
    unfold pcB at h3
    rw [h3]
    exact M.atP_out (fun b hb => plain_eq (by decide) b hb) (by omega) h3
  have hm3 : m2B s' (q' + m) = q' + A.length := by
   unfold m2B at h2 ⊢
   rw [hpc]
   split at h2
   ·next h4 => rw [if_pos h4]; omega
   ·next h4 => rw [if_neg h4]; omega
  have hres : resR s' q' = resR s q := by
   have hlu : atP isLu s (q + A.length) = false := by
    cases e : atP isLu s (q + A.length) with
    | false => rfl
    | true =>
     unfold resR at h1
     dsimp only at h1
     rw [hd, hm1, h2, if_pos e] at h1
     cases h1
   have hlu' := M.atP_out (p := isLu) (fun b hb => plain_wd (lu_wd hb)) (Nat.le_refl _) hlu
   have hb0 : bt s' (q' : Int) = bt s (q : Int) := bt_eqv (M.inn (i := 0) hA)
   have hx := M.ext (i := 0) (n := d) (by omega)
   simp only [Nat.add_zero] at hx
   unfold resR
   dsimp only
   rw [hr, hd, hm2.1, hm1, hm3, h2, hlu, hlu', hb0, hpc, hpt, hx, hm2.2]
  unfold numR
  rw [hres, if_pos h1, hr, hm2.1, hm3]
  rfl
 ·cases h
theorem txt_mv {t : S57} (d : Nat) : ∀ (i d' : Nat) (acc : List UInt8), txtR s q 0 0 d (q + i) acc = (t, true, q + A.length, 0, 0) → A.length ≤ i + d' → i < A.length → txtR s' q' 0 0 d' (q' + i) acc = (atQ t q', true, q' + A.length, 0, 0) := by
 induction d with
 | zero => intro i d' acc h _ _; unfold txtR at h; cases h
 | succ d ih =>
  intro i d' acc h hd hi
  obtain ⟨d'', rfl⟩ : ∃ x, d' = x + 1 := ⟨d' - 1, by omega⟩
  unfold txtR at h ⊢
  rw [M.inn hi]
  split at h
  ·cases h
  ·next c hc =>
   split at h
   ·cases h
   ·next h10 =>
    rw [if_neg h10]
    split at h
    ·next h34 =>
     rw [if_pos h34]
     split at h
     ·next h40 =>
      rw [if_pos h40]
      simp only [Prod.mk.injEq] at h
      obtain ⟨rfl, _, h2, _, _⟩ := h
      have : q' + i + 1 = q' + A.length := by omega
      rw [this]
      rfl
     ·cases h
    ·next h34 =>
     rw [if_neg h34]
     have hlt : ∀ (j d : Nat) (acc : List UInt8), txtR s q 0 0 d j acc = (t, true, q + A.length, 0, 0) → j < q + A.length := by
      intro j d
      induction d generalizing j with
      | zero => intro acc h; unfold txtR at h; cases h
      | succ d ih =>
       intro acc h
       unfold txtR at h
       split at h
       ·cases h
       ·split at h
        ·cases h
        ·split at h
         ·split at h
          ·simp only [Prod.mk.injEq] at h
           omega
          ·cases h
         ·split at h
          ·split at h
           ·cases h
           ·split at h
            ·have := ih _ _ h; omega
            ·cases h
          ·split at h
           ·cases h
           ·have := ih _ _ h; omega
     split at h
     ·next h92 =>
      rw [if_pos h92]
      split at h
      ·cases h
      ·next c2 hc2 =>
       split at h
       ·next hq2 =>
        have := hlt _ _ _ h
        have e := M.inn (i := i + 1) (by omega)
        rw [← Nat.add_assoc, ← Nat.add_assoc] at e
        rw [e, hc2]
        dsimp only
        rw [if_pos hq2, Nat.add_assoc q' i 2]
        exact ih (i + 2) d'' _ (by rw [← Nat.add_assoc]; exact h) (by omega) (by omega)
       ·cases h
     ·next h92 =>
      rw [if_neg h92]
      split at h
      ·cases h
      ·next hr =>
       have := hlt _ _ _ h
       rw [if_neg hr, Nat.add_assoc q' i 1]
       exact ih (i + 1) d'' _ (by rw [← Nat.add_assoc]; exact h) (by omega) (by omega)
theorem quoted_mv {t : S57} (h : quotedR s q 0 0 = (t, true, q + A.length, 0, 0)) (h1 : 1 < A.length) : quotedR s' q' 0 0 = (atQ t q', true, q' + A.length, 0, 0) := by
 unfold quotedR at h ⊢
 refine txt_mv M hA _ 1 _ _ h ?_ h1
 rcases M.size' with h2 | rfl
 ·omega
 ·cases hA
theorem sign_mv {t : S57} (h : signR s q 0 0 = (t, true, q + A.length, 0, 0)) : signR s' q' 0 0 = (atQ t q', true, q' + A.length, 0, 0) := by
 have hsz : q + A.length ≤ s.size := by rcases M.size with h2 | rfl; exact h2; cases hA
 have hsz' : q' + A.length ≤ s'.size := by rcases M.size' with h2 | rfl; exact h2; cases hA
 have hb0 : bt s' (q' : Int) = bt s (q : Int) := bt_eqv (M.inn (i := 0) hA)
 unfold signR at h ⊢
 rw [hb0]
 split at h
 ·next h1 =>
  simp only [Prod.mk.injEq] at h
  obtain ⟨rfl, _, h2, _, _⟩ := h
  have hb1 : bt s' ((q' + 1 : Nat) : Int) = bt s ((q + 1 : Nat) : Int) := bt_eqv (M.inn (i := 1) (by omega))
  have hx := M.ext (i := 0) (n := 2) (by omega)
  simp only [Nat.add_zero] at hx
  rw [hb1, if_pos ⟨h1.1, by omega, h1.2.2⟩, hx, show q' + 2 = q' + A.length by omega]
  rfl
 ·next h1 =>
  split at h
  ·cases h
  ·next h33 =>
   simp only [Prod.mk.injEq] at h
   obtain ⟨rfl, _, h2, _, _⟩ := h
   have hx := M.ext (i := 0) (n := 1) (by omega)
   simp only [Nat.add_zero] at hx
   have hneg : ¬((bt s (q : Int) = 33 ∨ bt s (q : Int) = 60 ∨ bt s (q : Int) = 62) ∧ q' + 1 < s'.size ∧ bt s' ((q' + 1 : Nat) : Int) = 61) := by
    rintro ⟨h3, h4, h5⟩
    obtain ⟨b, hb⟩ := byte_some s' h4
    have hb61 : b.toNat = 61 := by rw [(bt_of s' hb).1] at h5; omega
    have e := M.out (i := 1) fun j h6 h7 => by
     obtain rfl : j = 1 := by omega
     exact ⟨b, hb, plain_of (by omega)⟩
    refine h1 ⟨h3, ?_, ?_⟩
    ·rw [hb] at e
     exact (bt_of s e.symm).2
    ·rw [← bt_eqv e]
     exact h5
   rw [if_neg hneg, if_neg h33, hx, show q' + 1 = q' + A.length by omega]
   rfl
theorem word_mv {t : S57} {c : UInt8} (hc : (Ls s)[q]? = some c) (h : wordR s q c 0 0 = (t, true, q + A.length, 0, 0)) : (Ls s')[q']? = some c ∧ wordR s' q' c 0 0 = (atQ t q', true, q' + A.length, 0, 0) := by
 refine ⟨(M.inn (i := 0) hA).trans hc, ?_⟩
 unfold wordR at h ⊢
 split at h
 ·next h1 => rw [if_pos h1]; exact name_mv M hA h
 ·next h1 =>
  rw [if_neg h1]
  split at h
  ·next h2 =>
   rw [if_pos h2]
   unfold numberR at h ⊢
   split at h
   ·next h3 =>
    obtain ⟨h4, h5⟩ := date_mv M hA h
    rw [if_pos (dated_in M hA h3 h4)]
    exact h5
   ·next h3 =>
    have h3 : datedB s q = false := by simpa using h3
    rw [if_neg (by rw [dated_out M hA h3]; decide)]
    exact num_mv M hA h
  ·next h2 =>
   rw [if_neg h2]
   split at h
   ·next h3 =>
    rw [if_pos h3]
    refine quoted_mv M hA h ?_
    have := (txt_fine s q (s.size + 1) (q + 1) [] (by omega))
    by_cases h1 : 1 < A.length
    ·exact h1
    ·exfalso
     unfold quotedR at h
     have hlt : ∀ (d j : Nat) (acc : List UInt8), txtR s q 0 0 d j acc = (t, true, q + A.length, 0, 0) → j < q + A.length := by
      intro d
      induction d with
      | zero => intro j acc h; unfold txtR at h; cases h
      | succ d ih =>
       intro j acc h
       unfold txtR at h
       split at h
       ·cases h
       ·split at h
        ·cases h
        ·split at h
         ·split at h
          ·simp only [Prod.mk.injEq] at h
           omega
          ·cases h
         ·split at h
          ·split at h
           ·cases h
           ·split at h
            ·have := ih _ _ h; omega
            ·cases h
          ·split at h
           ·cases h
           ·have := ih _ _ h; omega
     have := hlt _ _ _ h
     omega
   ·next h3 =>
    rw [if_neg h3]
    split at h
    ·next h4 => rw [if_pos h4]; exact sign_mv M hA h
    ·cases h
end
abbrev endT (o : Nat) : S57 := ⟨8, o, ⟨#[]⟩, 0, 0⟩
structure IsWord (A R : List UInt8) (t : S57) : Prop where
 pos : 0 < A.length
 w : ∃ c, (A ++ R)[0]? = some c ∧ wordR (bA (A ++ R)) 0 c 0 0 = (t, true, A.length, 0, 0)
theorem mv_self {s : ByteArray} {q : Nat} {A R R' : List UInt8} (h : (Ls s).drop q = A ++ R) (hc : Calm R' R) : Mv s (bA (A ++ R')) q 0 A R R' := ⟨h, rfl, hc⟩
theorem IsWord.of {s : ByteArray} {q : Nat} {A R : List UInt8} {t : S57} {c : UInt8} (h : (Ls s).drop q = A ++ R) (hA : 0 < A.length) (hc : (Ls s)[q]? = some c) (hw : wordR s q c 0 0 = (t, true, q + A.length, 0, 0)) : IsWord A R (atQ t 0) := by
 obtain ⟨h1, h2⟩ := word_mv (mv_self h (Calm.refl R)) hA hc hw
 rw [Nat.zero_add] at h2
 exact ⟨hA, c, h1, h2⟩
theorem IsWord.at_ {A R R' : List UInt8} {t : S57} (h : IsWord A R t) (hc : Calm R' R) {s : ByteArray} {q : Nat} (hs : (Ls s).drop q = A ++ R') : ∃ c, (Ls s)[q]? = some c ∧ wordR s q c 0 0 = (atQ t q, true, q + A.length, 0, 0) := by
 obtain ⟨c, h1, h2⟩ := h.w
 have M : Mv (bA (A ++ R)) s 0 q A R R' := ⟨rfl, hs, hc⟩
 exact ⟨c, word_mv M h.pos h1 (by rw [Nat.zero_add]; exact h2)⟩
theorem IsWord.calm {A R R' : List UInt8} {t : S57} (h : IsWord A R t) (hc : Calm R' R) : IsWord A R' (atQ t 0) := by
 obtain ⟨c, h1, h2⟩ := h.at_ hc (s := bA (A ++ R')) (q := 0) rfl
 rw [Nat.zero_add] at h2
 exact ⟨h.pos, c, h1, h2⟩
theorem word_plain {s : ByteArray} {q : Nat} {c : UInt8} {r : Nat × Int × Int} {t : S57} (h : wordR s q c 0 0 = (t, true, r)) : plain c = true := by
 apply plain_of
 unfold wordR at h
 split at h
 ·next h1 => unfold isLt at h1; simp only [Bool.and_eq_true, decide_eq_true_eq] at h1; omega
 ·split at h
  ·next h1 => unfold isDg at h1; simp only [Bool.and_eq_true, decide_eq_true_eq] at h1; omega
  ·split at h
   ·next h1 => omega
   ·split at h
    ·next h1 =>
     unfold isSg at h1
     simp only [List.contains_eq_mem, List.mem_cons, List.not_mem_nil, or_false, decide_eq_true_eq] at h1
     omega
    ·cases h
theorem IsWord.first {A R : List UInt8} {t : S57} (h : IsWord A R t) : ∃ c T, A = c :: T ∧ plain c = true := by
 obtain ⟨c, h1, h2⟩ := h.w
 have := h.pos
 match A, this with
 | a :: T, _ =>
  cases h1
  exact ⟨_, _, rfl, word_plain h2⟩
inductive ScanG : Bool → List UInt8 → Nat → List S57 → Prop
 | endF (o : Nat) : ScanG false [] o []
 | endL (o : Nat) : ScanG true [] o [endT o]
 | blank {l : Bool} {c : UInt8} {D : List UInt8} {o : Nat} {ts : List S57} : (c.toNat = 32 ∨ c.toNat = 9) → ScanG l D (o + 1) ts → ScanG l (c :: D) o ts
 | note {l : Bool} {c : UInt8} {C D : List UInt8} {o : Nat} {ts : List S57} : c.toNat = 35 → (∀ x ∈ C, x.toNat ≠ 10) → (∀ x, D[0]? = some x → x.toNat = 10) → ScanG l D (o + 1 + C.length) ts → ScanG l (c :: (C ++ D)) o ts
 | lineL {c : UInt8} {D : List UInt8} {o : Nat} {ts : List S57} : c.toNat = 10 → ScanG false D (o + 1) ts → ScanG true (c :: D) o (endT o :: ts)
 | lineF {c : UInt8} {D : List UInt8} {o : Nat} {ts : List S57} : c.toNat = 10 → ScanG false D (o + 1) ts → ScanG false (c :: D) o ts
 | word {l : Bool} {A R : List UInt8} {t : S57} {o : Nat} {ts : List S57} : IsWord A R t → ScanG true R (o + A.length) ts → ScanG l (A ++ R) o (atQ t o :: ts)
theorem skip_fuel {s : ByteArray} {l : Bool} (n : Nat) : ∀ (m p : Nat), s.size < p + n → s.size < p + m → p ≤ s.size → skipB s l n p = skipB s l m p := by
 induction n with
 | zero => intro m p h1 h2 h3; omega
 | succ n ih =>
  intro m p h1 h2 h3
  obtain ⟨m, rfl⟩ : ∃ x, m = x + 1 := ⟨m - 1, by omega⟩
  unfold skipB
  split
  ·rfl
  ·next c hc =>
   have hlt := byte_lt hc
   rw [ih m (p + 1) (by omega) (by omega) (by omega)]
   split
   ·rfl
   ·split
    ·next h35 =>
     have hr := (runP_yes (p := fun b => b.toNat != 10) (s := s) (i := p) (by unfold atP; rw [hc]; exact bne_iff_ne.mpr (by omega))).1
     have hle := runP_le (fun b => b.toNat != 10) s p (by omega)
     exact ih m _ (by omega) (by omega) hle
    ·rfl
theorem runG_same {NX : Nat → Bool → Nx} {p p' : Nat} {l : Bool} (h : NX p l = NX p' l) (n : Nat) : runG NX n p l = runG NX n p' l := by
 cases n with
 | zero => rfl
 | succ n => unfold runG; rw [h]
theorem drop_cons {s : ByteArray} {p : Nat} {c : UInt8} {D : List UInt8} (h : (Ls s).drop p = c :: D) : (Ls s)[p]? = some c ∧ (Ls s).drop (p + 1) = D ∧ p < s.size := by
 have h1 : (Ls s)[p]? = some c := by rw [← Nat.add_zero p, ← List.getElem?_drop, h]; rfl
 refine ⟨h1, ?_, byte_lt h1⟩
 rw [← List.drop_drop, h]
 rfl
theorem nx_of {s : ByteArray} {p q : Nat} {l : Bool} (h : skipB s l (s.size + 1) p = skipB s l (s.size + 1) q) : NXs s p l = NXs s q l := by unfold NXs nextR; rw [h]
theorem nx_blank {s : ByteArray} {p : Nat} {l : Bool} {c : UInt8} {D : List UInt8} (h : (Ls s).drop p = c :: D) (hc : c.toNat = 32 ∨ c.toNat = 9) : NXs s p l = NXs s (p + 1) l := by
 obtain ⟨h1, h2, h3⟩ := drop_cons h
 refine nx_of ?_
 conv => lhs; unfold skipB
 rw [h1]
 dsimp only
 rw [if_pos (by omega)]
 exact skip_fuel _ _ _ (by omega) (by omega) (by omega)
theorem nx_line {s : ByteArray} {p : Nat} {c : UInt8} {D : List UInt8} (h : (Ls s).drop p = c :: D) (hc : c.toNat = 10) : NXs s p false = NXs s (p + 1) false := by
 obtain ⟨h1, h2, h3⟩ := drop_cons h
 refine nx_of ?_
 conv => lhs; unfold skipB
 rw [h1]
 dsimp only
 rw [if_neg (by omega), if_neg (by omega), if_pos (by omega), if_neg (by decide)]
 exact skip_fuel _ _ _ (by omega) (by omega) (by omega)
theorem note_run {s : ByteArray} {p : Nat} {c : UInt8} {C D : List UInt8} (h : (Ls s).drop p = c :: (C ++ D)) (hc : c.toNat = 35) (hC : ∀ x ∈ C, x.toNat ≠ 10) (hD : ∀ x, D[0]? = some x → x.toNat = 10) : runP (fun b => b.toNat != 10) s p = 1 + C.length := by
 unfold runP
 rw [h, List.takeWhile_cons, if_pos (by simp [hc]), List.takeWhile_append_of_pos (fun x hx => by simpa using hC x hx)]
 have : D.takeWhile (fun b => b.toNat != 10) = [] := by
  cases D with
  | nil => rfl
  | cons d D => rw [List.takeWhile_cons, if_neg (by have := hD d rfl; simp [this])]
 rw [this, List.append_nil, List.length_cons, Nat.add_comm]
theorem nx_note {s : ByteArray} {p : Nat} {l : Bool} {c : UInt8} {C D : List UInt8} (h : (Ls s).drop p = c :: (C ++ D)) (hc : c.toNat = 35) (hC : ∀ x ∈ C, x.toNat ≠ 10) (hD : ∀ x, D[0]? = some x → x.toNat = 10) : NXs s p l = NXs s (p + 1 + C.length) l ∧ p + 1 + C.length ≤ s.size ∧ (Ls s).drop (p + 1 + C.length) = D := by
 obtain ⟨h1, h2, h3⟩ := drop_cons h
 have hr := note_run h hc hC hD
 have hle := runP_le (fun b => b.toNat != 10) s p (by omega)
 refine ⟨nx_of ?_, by omega, ?_⟩
 ·conv => lhs; unfold skipB
  rw [h1]
  dsimp only
  rw [if_neg (by omega), if_pos (by omega), hr, ← Nat.add_assoc]
  exact skip_fuel _ _ _ (by omega) (by omega) (by omega)
 ·rw [← List.drop_drop, h2, List.drop_left]
theorem skip_plain {s : ByteArray} {p : Nat} {l : Bool} {c : UInt8} (h1 : (Ls s)[p]? = some c) (hc : plain c = true) (n : Nat) : skipB s l n p = p := by
 unfold plain at hc
 simp only [Bool.and_eq_true, bne_iff_ne] at hc
 cases n with
 | zero => rfl
 | succ n =>
  unfold skipB
  rw [h1]
  dsimp only
  rw [if_neg (by omega), if_neg (by omega), if_neg (by omega)]
theorem nx_word {s : ByteArray} {p : Nat} {l : Bool} {c : UInt8} {t : S57} {p' : Nat} (h1 : (Ls s)[p]? = some c) (hw : wordR s p c 0 0 = (t, true, p', 0, 0)) : NXs s p l = (t, true, p', true, 0, 0) := by
 have hp := word_plain hw
 unfold NXs nextR
 rw [skip_plain h1 hp]
 unfold nextAt
 rw [h1]
 dsimp only
 unfold plain at hp
 simp only [Bool.and_eq_true, bne_iff_ne] at hp
 rw [if_neg (by omega), hw]
theorem nx_end {s : ByteArray} {p : Nat} {l : Bool} (h : (Ls s)[p]? = none) : NXs s p l = lineR l p 0 0 := by
 have : skipB s l (s.size + 1) p = p := by unfold skipB; rw [h]
 unfold NXs nextR nextAt
 rw [this, h]
theorem nx_lineL {s : ByteArray} {p : Nat} {c : UInt8} (h1 : (Ls s)[p]? = some c) (hc : c.toNat = 10) : NXs s p true = lineR true p 0 0 := by
 have : skipB s true (s.size + 1) p = p := by
  unfold skipB
  rw [h1]
  dsimp only
  rw [if_neg (by omega), if_neg (by omega), if_pos (by omega), if_pos rfl]
 unfold NXs nextR nextAt
 rw [this, h1]
 dsimp only
 rw [if_pos (by omega)]
theorem drop_nil {s : ByteArray} {p : Nat} (h : (Ls s).drop p = []) : (Ls s)[p]? = none := by
 rw [← Nat.add_zero p, ← List.getElem?_drop, h]
 rfl
theorem runG_more {NX : Nat → Bool → Nx} {n p p' : Nat} {l l' : Bool} {t : S57} {ts : List S57} {r : Nat × Bool × Int × Int} (h : NX p l = (t, true, p', l', 0, 0)) (hr : runG NX n p' l' = some (ts, r)) : runG NX (n + 1) p l = some (t :: ts, r) := by
 unfold runG
 rw [h]
 dsimp only
 rw [if_pos rfl, if_pos ⟨rfl, rfl⟩, hr]
 rfl
theorem scan_of_G {s : ByteArray} {l : Bool} {D : List UInt8} {o : Nat} {ts : List S57} (h : ScanG l D o ts) : (Ls s).drop o = D → o ≤ s.size → ∀ n, 2 * (s.size - o) + (if l = true then 1 else 0) < n → ∃ r : Nat × Bool × Int × Int, runG (NXs s) n o l = some (ts, r) ∧ r.2.2.1 = 0 := by
 induction h with
 | endF o =>
  intro hD ho n hn
  obtain ⟨n, rfl⟩ : ∃ x, n = x + 1 := ⟨n - 1, by omega⟩
  have h := nx_end (l := false) (drop_nil hD)
  refine ⟨(o, false, 0, 0), ?_, rfl⟩
  unfold runG
  rw [h]
  rfl
 | endL o =>
  intro hD ho n hn
  rw [if_pos rfl] at hn
  obtain ⟨n, rfl⟩ : ∃ x, n = x + 2 := ⟨n - 2, by omega⟩
  have h := nx_end (l := true) (drop_nil hD)
  have h2 := nx_end (l := false) (drop_nil hD)
  refine ⟨(o, false, 0, 0), runG_more h ?_, rfl⟩
  unfold runG
  rw [h2]
  rfl
 | blank hc h ih =>
  intro hD ho n hn
  obtain ⟨h1, h2, h3⟩ := drop_cons hD
  rw [runG_same (nx_blank hD hc)]
  exact ih h2 (by omega) n (by omega)
 | note hc hC hN h ih =>
  intro hD ho n hn
  obtain ⟨h1, h2, h3⟩ := nx_note (s := s) hD hc hC hN
  rw [runG_same h1]
  exact ih h3 h2 n (by omega)
 | @lineL c D o ts hc h ih =>
  intro hD ho n hn
  rw [if_pos rfl] at hn
  obtain ⟨h1, h2, h3⟩ := drop_cons hD
  obtain ⟨n, rfl⟩ : ∃ x, n = x + 1 := ⟨n - 1, by omega⟩
  obtain ⟨r, hr, h0⟩ := ih h2 (by omega) n (by rw [if_neg (by decide)]; omega)
  refine ⟨r, runG_more (nx_lineL h1 hc) ?_, h0⟩
  rw [runG_same (nx_line hD hc)]
  exact hr
 | lineF hc h ih =>
  intro hD ho n hn
  obtain ⟨h1, h2, h3⟩ := drop_cons hD
  rw [runG_same (nx_line hD hc)]
  exact ih h2 (by omega) n (by omega)
 | @word l A R t o ts hw h ih =>
  intro hD ho n hn
  have hpos := hw.pos
  obtain ⟨c, h1, h2⟩ := hw.at_ (Calm.refl R) hD
  have hlen := congrArg List.length hD
  rw [List.length_drop, Ls_len, List.length_append] at hlen
  obtain ⟨n, rfl⟩ : ∃ x, n = x + 1 := ⟨n - 1, by omega⟩
  obtain ⟨r, hr, h0⟩ := ih (by rw [← List.drop_drop, hD, List.drop_left]) (by omega) n (by rw [if_pos rfl]; omega)
  exact ⟨r, runG_more (nx_word h1 h2) hr, h0⟩
theorem drop_at {s : ByteArray} {p : Nat} {c : UInt8} (h : (Ls s)[p]? = some c) : (Ls s).drop p = c :: (Ls s).drop (p + 1) := by
 obtain ⟨hl, e⟩ := List.getElem?_eq_some_iff.1 h
 rw [List.drop_eq_getElem_cons hl, e]
theorem drop_none {s : ByteArray} {p : Nat} (h : (Ls s)[p]? = none) : (Ls s).drop p = [] := List.drop_of_length_le (List.getElem?_eq_none_iff.1 h)
theorem skip_G {s : ByteArray} {l : Bool} {ts : List S57} (n : Nat) : ∀ p, p ≤ s.size → ScanG l ((Ls s).drop (skipB s l n p)) (skipB s l n p) ts → ScanG l ((Ls s).drop p) p ts := by
 induction n with
 | zero => intro p _ h; exact h
 | succ n ih =>
  intro p hp h
  unfold skipB at h
  split at h
  ·exact h
  ·next c hc =>
   have hlt := byte_lt hc
   split at h
   ·next h1 =>
    rw [drop_at hc]
    exact .blank (by omega) (ih _ (by omega) h)
   ·split at h
    ·next h1 h35 =>
     have hle := runP_le (fun b => b.toNat != 10) s p (by omega)
     have h2 := ih _ hle h
     have hall : ∀ x ∈ ((Ls s).drop p).takeWhile (fun b => b.toNat != 10), x.toNat ≠ 10 := fun x hx => by
      have := List.all_eq_true.1 (List.all_takeWhile (l := (Ls s).drop p) (p := fun b => b.toNat != 10)) x hx
      simpa using this
     have hsplit := (List.takeWhile_append_dropWhile (p := fun b : UInt8 => b.toNat != 10) (l := (Ls s).drop p))
     have hdw : ((Ls s).drop p).dropWhile (fun b => b.toNat != 10) = (Ls s).drop (p + runP (fun b => b.toNat != 10) s p) := by
      rw [← List.drop_drop]
      unfold runP
      generalize (Ls s).drop p = L at hsplit ⊢
      conv => rhs; rw [← hsplit]
      exact (List.drop_left' (by rw [hsplit])).symm
     have hfirst : ∀ x, (((Ls s).drop p).dropWhile (fun b => b.toNat != 10))[0]? = some x → x.toNat = 10 := fun x hx => by
      have := List.head?_dropWhile_not (fun b : UInt8 => b.toNat != 10) ((Ls s).drop p)
      rw [List.head?_eq_getElem?, hx] at this
      simpa using this
     have hr : runP (fun b => b.toNat != 10) s p = (((Ls s).drop p).takeWhile (fun b => b.toNat != 10)).length := rfl
     rw [drop_at hc] at hsplit hall hdw hfirst hr ⊢
     rw [List.takeWhile_cons, if_pos (by simp; omega)] at hsplit hall hr
     rw [List.length_cons] at hr
     rw [List.cons_append] at hsplit
     rw [← hsplit]
     refine .note (by omega) (fun x hx => hall x (List.mem_cons_of_mem _ hx)) hfirst ?_
     rw [hdw]
     have e : p + 1 + (((Ls s).drop (p + 1)).takeWhile (fun b => b.toNat != 10)).length = p + runP (fun b => b.toNat != 10) s p := by omega
     rw [e]
     exact h2
    ·split at h
     ·next h1 h35 h10 =>
      cases l with
      | true => exact h
      | false =>
       rw [if_neg (by decide)] at h
       rw [drop_at hc]
       exact .lineF (by omega) (ih _ (by omega) h)
     ·exact h
theorem G_nil {D : List UInt8} {o : Nat} {ts : List S57} (h : ScanG false D o ts) (hD : D = []) : ts = [] := by
 cases h with
 | endF => rfl
 | blank => cases hD
 | note => cases hD
 | lineF => cases hD
 | word hw => have := hw.pos; rw [(List.append_eq_nil_iff.1 hD).1] at this; cases this
theorem G_line {D D2 : List UInt8} {c : UInt8} {o : Nat} {ts : List S57} (h : ScanG false D2 o ts) (hD : D2 = c :: D) (hc : c.toNat = 10) : ScanG false D (o + 1) ts := by
 cases h with
 | endF => cases hD
 | blank h1 => cases hD; omega
 | note h1 => cases hD; omega
 | lineF _ h => cases hD; exact h
 | word hw =>
  obtain ⟨d, T, rfl, hp⟩ := hw.first
  cases hD
  unfold plain at hp
  simp only [Bool.and_eq_true, bne_iff_ne] at hp
  omega
theorem runG_inv {NX : Nat → Bool → Nx} {n p p' : Nat} {l l' : Bool} {t : S57} {ts : List S57} {r : Nat × Bool × Int × Int} (h : NX p l = (t, true, p', l', 0, 0)) (hr : runG NX (n + 1) p l = some (ts, r)) : ∃ ts', ts = t :: ts' ∧ runG NX n p' l' = some (ts', r) := by
 unfold runG at hr
 simp only [h] at hr
 rw [if_pos trivial, if_pos ⟨trivial, trivial⟩] at hr
 obtain ⟨⟨ts', r'⟩, h1, h2⟩ := Option.bind_eq_some_iff.1 hr
 cases h2
 exact ⟨ts', rfl, h1⟩
theorem runG_stop {NX : Nat → Bool → Nx} {n p : Nat} {l : Bool} {t : S57} {ts : List S57} {r r' : Nat × Bool × Int × Int} (h : NX p l = (t, false, r')) (hr : runG NX (n + 1) p l = some (ts, r)) : ts = [] ∧ r = r' := by
 unfold runG at hr
 simp only [h] at hr
 rw [if_neg (by decide)] at hr
 cases hr
 exact ⟨rfl, rfl⟩
theorem G_of_scan {s : ByteArray} (n : Nat) : ∀ (p : Nat) (l : Bool) (ts : List S57) (r : Nat × Bool × Int × Int), p ≤ s.size → runG (NXs s) n p l = some (ts, r) → r.2.2.1 = 0 → ScanG l ((Ls s).drop p) p ts := by
 induction n with
 | zero => intro p l ts r _ h; cases h
 | succ n ih =>
  intro p l ts r hp h h0
  obtain ⟨hge, hat⟩ := skip_at (s := s) l (s.size + 1) p (by omega) hp
  have hle := skip_le (s := s) l (s.size + 1) p hp
  have hN : NXs s p l = nextAt s (skipB s l (s.size + 1) p) l 0 0 := rfl
  refine skip_G (s.size + 1) p hp ?_
  generalize skipB s l (s.size + 1) p = q at *
  unfold nextAt at hN
  cases hb : (Ls s)[q]? with
  | none =>
   rw [hb] at hN
   dsimp only at hN
   cases l with
   | false =>
    have hN : NXs s p false = (⟨0, 0, ⟨#[]⟩, 0, 0⟩, false, q, false, 0, 0) := hN
    obtain ⟨rfl, rfl⟩ := runG_stop hN h
    rw [drop_none hb]
    exact .endF q
   | true =>
    have hN : NXs s p true = (endT q, true, q, false, 0, 0) := hN
    obtain ⟨ts', rfl, h1⟩ := runG_inv hN h
    have h3 := ih q false ts' r (by omega) h1 h0
    have := G_nil h3 (drop_none hb)
    subst this
    rw [drop_none hb]
    exact .endL q
  | some c =>
   obtain ⟨a1, a2, a3⟩ := hat c hb
   have hlt := byte_lt hb
   rw [hb] at hN
   dsimp only at hN
   by_cases h10 : (c.toNat : Int) = 10
   ·obtain rfl := a3 h10
    rw [if_pos h10] at hN
    have hN : NXs s p true = (endT q, true, q, false, 0, 0) := hN
    obtain ⟨ts', rfl, h1⟩ := runG_inv hN h
    have h3 := ih q false ts' r (by omega) h1 h0
    rw [drop_at hb] at h3 ⊢
    exact .lineL (by omega) (G_line h3 rfl (by omega))
   ·rw [if_neg h10] at hN
    have hF := word_fine hb
    have hwl := word_le (s := s) (p := q) c 0 0 hlt
    generalize hw : wordR s q c 0 0 = w at *
    obtain ⟨t, ok, p', e3, e4⟩ := w
    cases ok with
    | false =>
     have := hF.no rfl
     have hN : NXs s p l = (t, false, p', true, e3, e4) := hN
     obtain ⟨rfl, rfl⟩ := runG_stop hN h
     exact absurd h0 this
    | true =>
     obtain ⟨f1, f2, f3, f4⟩ := hF.ok rfl
     have f1 : t.f1 = (q : Int) := f1
     have f2 : q < p' := f2
     obtain rfl : e3 = 0 := f3
     obtain rfl : e4 = 0 := f4
     have hwl : p' ≤ s.size := hwl
     have hN : NXs s p l = (t, true, p', true, 0, 0) := hN
     obtain ⟨ts', rfl, h1⟩ := runG_inv hN h
     have h3 := ih p' true ts' r (by omega) h1 h0
     have hsplit : (Ls s).drop q = ((Ls s).drop q).take (p' - q) ++ (Ls s).drop p' := by
      conv => lhs; rw [← List.take_append_drop (p' - q) ((Ls s).drop q)]
      rw [List.drop_drop, show q + (p' - q) = p' by omega]
     have hlen : (((Ls s).drop q).take (p' - q)).length = p' - q := by
      rw [List.length_take, List.length_drop, Ls_len]; omega
     have hI := IsWord.of hsplit (by omega) hb (t := t) (by rw [hlen, show q + (p' - q) = p' by omega]; exact hw)
     have e : t = atQ (atQ t 0) q := by
      cases t
      simp only [atQ] at *
      rw [f1]
     rw [hsplit, e]
     refine .word hI ?_
     rw [hlen, show q + (p' - q) = p' by omega]
     exact h3
theorem scan_iff (s : ByteArray) (ts : List S57) (x : Int) (hx : ∃ r, words_Scan.f s = some r) : words_Scan.f s = some (ts, x, 0) ↔ s.size ≤ 8000 ∧ x = 0 ∧ ScanG false (Ls s) 0 ts := by
 constructor
 ·intro h
  unfold words_Scan.f at h
  split at h
  ·cases h
  ·next hs =>
   obtain ⟨q, hq, h2⟩ := Option.bind_eq_some_iff.1 h
   simp only [Option.some.injEq, Prod.mk.injEq] at h2
   obtain ⟨h3, h4, h5⟩ := h2
   rw [if_pos h5] at h3 h4
   refine ⟨by omega, h4.symm, ?_⟩
   have := G_of_scan (s := s) _ 0 false q.1 q.2 (by omega) hq h5
   rw [h3] at this
   exact this
 ·rintro ⟨hs, rfl, hG⟩
  obtain ⟨r, hr, h0⟩ := scan_of_G (s := s) hG rfl (by omega) (2 * s.size + 2) (by rw [if_neg (by decide)]; omega)
  unfold words_Scan.f
  rw [if_neg (by omega), hr]
  simp only [Option.bind_some]
  rw [if_pos h0, if_pos h0, h0]
def sh (k : Nat) (t : S57) : S57 := ⟨t.f0, t.f1 + k, t.f2, t.f3, t.f4⟩
theorem runG_total {s : ByteArray} (m : Nat) : ∀ (p : Nat) (l : Bool), 2 * (s.size - p) + (if l = true then 1 else 0) < m → p ≤ s.size → ∃ q, runG (NXs s) m p l = some q := by
 induction m with
 | zero => intro p l h; omega
 | succ m ih =>
  intro p l hm hp
  obtain ⟨hge, hat⟩ := skip_at (s := s) l (s.size + 1) p (by omega) hp
  have hle := skip_le (s := s) l (s.size + 1) p hp
  have hN : NXs s p l = nextAt s (skipB s l (s.size + 1) p) l 0 0 := rfl
  generalize skipB s l (s.size + 1) p = q at *
  unfold nextAt at hN
  have hline : ∀ (hl : NXs s p l = lineR l q 0 0), ∃ r, runG (NXs s) (m + 1) p l = some r := fun hl => by
   cases l with
   | false =>
    refine ⟨([], (q, false, 0, 0)), ?_⟩
    unfold runG
    rw [hl]
    rfl
   | true =>
    rw [if_pos rfl] at hm
    obtain ⟨r, hr⟩ := ih q false (by rw [if_neg (by decide)]; omega) hle
    exact ⟨_, runG_more (t := endT q) (ts := r.1) (r := r.2) hl hr⟩
  cases hb : (Ls s)[q]? with
  | none =>
   rw [hb] at hN
   exact hline hN
  | some c =>
   have hlt := byte_lt hb
   rw [hb] at hN
   dsimp only at hN
   by_cases h10 : (c.toNat : Int) = 10
   ·rw [if_pos h10] at hN
    exact hline hN
   ·rw [if_neg h10] at hN
    have hF := word_fine hb
    have hwl := word_le (s := s) (p := q) c 0 0 hlt
    generalize wordR s q c 0 0 = w at *
    obtain ⟨t, ok, p', e3, e4⟩ := w
    cases ok with
    | false =>
     have hN : NXs s p l = (t, false, p', true, e3, e4) := hN
     refine ⟨([], (p', true, e3, e4)), ?_⟩
     unfold runG
     rw [hN]
     rfl
    | true =>
     obtain ⟨f1, f2, f3, f4⟩ := hF.ok rfl
     have f2 : q < p' := f2
     obtain rfl : e3 = 0 := f3
     obtain rfl : e4 = 0 := f4
     have hwl : p' ≤ s.size := hwl
     have hN : NXs s p l = (t, true, p', true, 0, 0) := hN
     obtain ⟨r, hr⟩ := ih p' true (by rw [if_pos rfl]; omega) hwl
     exact ⟨_, runG_more (ts := r.1) (r := r.2) hN hr⟩
theorem scan_total (s : ByteArray) : ∃ r, words_Scan.f s = some r := by
 unfold words_Scan.f
 split
 ·exact ⟨_, rfl⟩
 ·obtain ⟨q, hq⟩ := runG_total (s := s) (2 * s.size + 2) 0 false (by rw [if_neg (by decide)]; omega) (by omega)
  rw [hq]
  exact ⟨_, rfl⟩
theorem scan_ok {s : ByteArray} {ts : List S57} {x : Int} (h : words_Scan.f s = some (ts, x, 0)) : s.size ≤ 8000 ∧ x = 0 ∧ ScanG false (Ls s) 0 ts := (scan_iff s ts x (scan_total s)).1 h
theorem scan_mk {s : ByteArray} {ts : List S57} (hs : s.size ≤ 8000) (h : ScanG false (Ls s) 0 ts) : words_Scan.f s = some (ts, 0, 0) := (scan_iff s ts 0 (scan_total s)).2 ⟨hs, rfl, h⟩
theorem rd_of {xs : List S57} {i : Nat} {t : S57} (h : xs[i]? = some t) : rd_T57 xs (i : Int) = t := by
 unfold rd_T57
 rw [Int.toNat_natCast, List.getD_eq_getElem?_getD, h]
 rfl
end Go.Proofs.YtjlclkenfmbahaaGreatDoor.Gr
end
section
namespace Go.Proofs.YtjlclkenfmbahaaGreatDoor.Gr
open Go.RowKit Go.Proofs.YtjlclkenfmbahaaGreatDoorW.PrintWords Go.Proofs.YtjlclkenfmbahaaGreatDoorW.PrintLast Go.Proofs.YtjlclkenfmbahaaGreatDoor.PA Go.Proofs.YtjlclkenfmbahaaGreatDoor.Dig Go.Lib
theorem dig_toNat {d : Nat} (h : d < 10) : (dig d).toNat = 48 + d := by
 have : ∀ q : Fin 10, (dig q.val).toNat = 48 + q.val := by decide
 exact this ⟨d, h⟩
theorem dig_isDg {d : Nat} (h : d < 10) : isDg (dig d) = true := by
 unfold isDg
 rw [dig_toNat h]
 simp
 omega
theorem dig_of {b : UInt8} (h : isDg b = true) : dig (b.toNat - 48) = b := by
 have hb := dg_bounds h
 apply UInt8.toNat_inj.mp
 rw [dig_toNat (by omega)]
 omega
structure Canon (l : List UInt8) : Prop where
 ne : l ≠ []
 dg : ∀ b ∈ l, isDg b = true
 z : ¬ (1 < l.length ∧ l[0]? = some 48)
theorem valA_ge (l : List UInt8) : ∀ n, n ≤ valA n l := by
 induction l with
 | nil => intro n; exact Nat.le_refl n
 | cons b l ih => intro n; rw [valA_cons]; have := ih (10 * n + (b.toNat - 48)); omega
theorem val_pos {l : List UInt8} (h : Canon l) (h1 : l ≠ [48]) : 0 < val l := by
 match l, h with
 | [], h => exact absurd rfl h.ne
 | b :: T, h =>
  unfold val
  rw [valA_cons]
  have hb := dg_bounds (h.dg b (by simp))
  have hb48 : b.toNat ≠ 48 := fun e => by
   have e2 : b = 48 := UInt8.toNat_inj.mp e
   subst e2
   cases T with
   | nil => exact h1 rfl
   | cons c T => exact h.z ⟨by simp, rfl⟩
  have := valA_ge T (10 * 0 + (b.toNat - 48))
  omega
theorem val_dec : ∀ u : Nat, val (decDigits u) = u := by
 intro u
 induction u using Nat.strongRecOn with
 | _ u ih =>
  by_cases h : u < 10
  ·rw [dec_small h]
   unfold val
   rw [valA_cons, dig_toNat h]
   show 10 * 0 + (48 + u - 48) = u
   omega
  ·rw [dec_big h]
   unfold val
   rw [valA_snoc, dig_toNat (Nat.mod_lt _ (by decide))]
   have := ih (u / 10) (by omega)
   unfold val at this
   rw [this]
   omega
theorem dec_canon : ∀ u : Nat, Canon (decDigits u) ∧ (0 < u → (decDigits u)[0]? ≠ some 48) := by
 intro u
 induction u using Nat.strongRecOn with
 | _ u ih =>
  by_cases h : u < 10
  ·rw [dec_small h]
   refine ⟨⟨by simp, fun b hb => ?_, fun ⟨h1, _⟩ => by simp at h1⟩, fun h0 e => ?_⟩
   ·rw [List.mem_singleton] at hb
    rw [hb]
    exact dig_isDg h
   ·have : dig u = 48 := by simpa using e
    have := (dig_zero h).1 this
    omega
  ·rw [dec_big h]
   obtain ⟨c, hz⟩ := ih (u / 10) (by omega)
   have h0 : (decDigits (u / 10) ++ [dig (u % 10)])[0]? ≠ some 48 := by
    rw [List.getElem?_append_left (List.length_pos_iff.2 c.ne)]
    exact hz (by omega)
   refine ⟨⟨by simp, fun b hb => ?_, fun h1 => h0 h1.2⟩, fun _ => h0⟩
   rcases List.mem_append.1 hb with h1 | h1
   ·exact c.dg b h1
   ·rw [List.mem_singleton] at h1
    rw [h1]
    exact dig_isDg (Nat.mod_lt _ (by decide))
theorem dec_val (n : Nat) : ∀ l : List UInt8, l.length = n → Canon l → decDigits (val l) = l := by
 induction n with
 | zero => intro l hl h; exact absurd (List.length_eq_zero_iff.1 hl) h.ne
 | succ n ih =>
  intro l hl h
  obtain ⟨l', b, rfl⟩ : ∃ l' b, l = l' ++ [b] := ⟨l.dropLast, l.getLast h.ne, (List.dropLast_concat_getLast h.ne).symm⟩
  have hb := h.dg b (by simp)
  have hbb := dg_bounds hb
  by_cases h0 : l' = []
  ·subst h0
   have : val ([] ++ [b]) = b.toNat - 48 := by
    unfold val
    rw [List.nil_append, valA_cons]
    show 10 * 0 + (b.toNat - 48) = _
    omega
   rw [this, dec_small (by omega), dig_of hb]
   rfl
  ·have hpos := List.length_pos_iff.2 h0
   have h48 : (l' ++ [b])[0]? ≠ some 48 := fun e => h.z ⟨by simp; omega, e⟩
   rw [List.getElem?_append_left hpos] at h48
   have hc : Canon l' := ⟨h0, fun x hx => h.dg x (by simp [hx]), fun h1 => h48 h1.2⟩
   have hv := val_pos hc (fun e => by rw [e] at h48; exact h48 rfl)
   have e : val (l' ++ [b]) = 10 * val l' + (b.toNat - 48) := by unfold val; rw [valA_snoc]
   rw [e, dec_big (by omega), show (10 * val l' + (b.toNat - 48)) / 10 = val l' by omega, show (10 * val l' + (b.toNat - 48)) % 10 = b.toNat - 48 by omega, dig_of hb, ih l' (by simp at hl; omega) hc]
theorem pad_dg : ∀ (j p : Nat), ∀ x ∈ pad j p, isDg x = true
 | 0, p, x, h => absurd h (List.not_mem_nil (a := x))
 | j + 1, p, x, h => by
  rcases List.mem_append.1 h with h1 | h1
  ·exact pad_dg j _ x h1
  ·rw [List.mem_singleton] at h1
   rw [h1]
   exact dig_isDg (Nat.mod_lt _ (by decide))
theorem val_pad : ∀ (j n p : Nat), p < 10 ^ j → valA n (pad j p) = n * 10 ^ j + p
 | 0, n, p, h => by
  have : p = 0 := by simpa using h
  subst this
  show n = n * 10 ^ 0 + 0
  simp
 | j + 1, n, p, h => by
  show valA n (pad j (p / 10) ++ [dig (p % 10)]) = _
  rw [valA_snoc, val_pad j n (p / 10) (by rw [Nat.pow_succ] at h; omega), dig_toNat (Nat.mod_lt _ (by decide)), Nat.pow_succ, ← Nat.mul_assoc]
  omega
theorem pad_val (n : Nat) : ∀ l : List UInt8, l.length = n → (∀ x ∈ l, isDg x = true) → pad n (val l) = l := by
 induction n with
 | zero => intro l hl _; rw [List.length_eq_zero_iff.1 hl]; rfl
 | succ n ih =>
  intro l hl h
  have hne : l ≠ [] := by rintro rfl; cases hl
  obtain ⟨l', b, rfl⟩ : ∃ l' b, l = l' ++ [b] := ⟨l.dropLast, l.getLast hne, (List.dropLast_concat_getLast hne).symm⟩
  have hb := h b (by simp)
  have hbb := dg_bounds hb
  have e : val (l' ++ [b]) = 10 * val l' + (b.toNat - 48) := by unfold val; rw [valA_snoc]
  show pad n (val (l' ++ [b]) / 10) ++ [dig (val (l' ++ [b]) % 10)] = _
  rw [e, show (10 * val l' + (b.toNat - 48)) / 10 = val l' by omega, show (10 * val l' + (b.toNat - 48)) % 10 = b.toNat - 48 by omega, dig_of hb, ih l' (by simp at hl; omega) (fun x hx => h x (by simp [hx]))]
theorem valA_eq (l : List UInt8) : ∀ n, valA n l = n * 10 ^ l.length + val l := by
 unfold val
 induction l with
 | nil => intro n; show n = n * 10 ^ 0 + 0; simp
 | cons b l ih =>
  intro n
  rw [valA_cons, valA_cons, ih (10 * n + (b.toNat - 48)), ih (10 * 0 + (b.toNat - 48)), List.length_cons, Nat.pow_succ, Nat.mul_zero, Nat.zero_add, Nat.add_mul, Nat.mul_comm 10 n, Nat.mul_assoc, Nat.mul_comm 10, Nat.add_assoc]
theorem val_app (a b : List UInt8) : val (a ++ b) = val a * 10 ^ b.length + val b := by
 unfold val
 rw [valA_append, valA_eq]
 rfl
theorem dec_length {u k : Nat} (h : u < 10 ^ k) (hk : 0 < k) : (decDigits u).length ≤ k := by
 induction k generalizing u with
 | zero => omega
 | succ k ih =>
  by_cases h10 : u < 10
  ·rw [dec_small h10]; simp
  ·rw [dec_big h10, List.length_append]
   have h2 : u / 10 < 10 ^ k := by rw [Nat.pow_succ] at h; omega
   by_cases hk0 : k = 0
   ·subst hk0
    simp at h
    omega
   ·have := ih h2 (by omega)
    simp
    exact this
theorem run_form {p : UInt8 → Bool} {s : ByteArray} {i : Nat} {u v : List UInt8} (h : (Ls s).drop i = u ++ v) (hu : ∀ x ∈ u, p x = true) (hv : ∀ x, v[0]? = some x → p x = false) : runP p s i = u.length := by
 unfold runP
 rw [h, List.takeWhile_append_of_pos hu]
 have : v.takeWhile p = [] := by
  cases v with
  | nil => rfl
  | cons x v => rw [List.takeWhile_cons, if_neg (by rw [hv x rfl]; decide)]
 rw [this, List.append_nil]
theorem at_form {p : UInt8 → Bool} {s : ByteArray} {i : Nat} {v : List UInt8} (h : (Ls s).drop i = v) : atP p s i = match v[0]? with | some b => p b | none => false := by
 have : (Ls s)[i]? = v[0]? := by rw [← h, List.getElem?_drop, Nat.add_zero]
 unfold atP
 rw [this]
 rfl
theorem ext_form {s : ByteArray} {i : Nat} {u v : List UInt8} (h : (Ls s).drop i = u ++ v) : s.extract i (i + u.length) = bA u := by
 have : Ls (s.extract i (i + u.length)) = u := by
  show (s.extract i (i + u.length)).data.toList = _
  rw [ByteArray.data_extract, Array.toList_extract, List.extract_eq_take_drop, Nat.add_sub_cancel_left]
  show ((Ls s).drop i).take _ = _
  rw [h, List.take_left]
 exact ByteArray.ext (Array.toList_inj.mp this)
theorem drop_app {s : ByteArray} {i : Nat} {u v : List UInt8} (h : (Ls s).drop i = u ++ v) : (Ls s).drop (i + u.length) = v := by rw [← List.drop_drop, h, List.drop_left]
structure NumForm (A a b : List UInt8) (pt pc : Bool) : Prop where
 e : A = a ++ ((if pt = true then 46 :: b else []) ++ (if pc = true then [37] else []))
 ca : Canon a
 bd : ∀ x ∈ b, isDg x = true
 p : pt = true ↔ b ≠ []
def resL (a b : List UInt8) (pt pc : Bool) : S57 × Bool := if pc = true then ratioR a b else if pt = true then amountR a b else countR a
theorem form_eval {A a b : List UInt8} {pt pc : Bool} (h : NumForm A a b pt pc) {s : ByteArray} {q : Nat} (hs : (Ls s).drop q = A) : runP isDg s q = a.length ∧ ptB s (q + a.length) = pt ∧ mB s (q + a.length) + (if pc = true then 1 else 0) = q + A.length ∧ pcB s (mB s (q + a.length)) = pc ∧ m2B s (mB s (q + a.length)) = q + A.length ∧ partB s (q + a.length) = bA b ∧ s.extract q (q + a.length) = bA a ∧ atP isLu s (q + A.length) = false := by
 have e := h.e
 have hd : (Ls s).drop q = a ++ ((if pt = true then 46 :: b else []) ++ (if pc = true then [37] else [])) := hs.trans e
 have h1 : runP isDg s q = a.length := run_form hd h.ca.dg (by
  intro x hx
  cases pt <;> cases pc <;> simp at hx <;> subst hx <;> decide)
 have h2 := drop_app hd
 have h7 := ext_form hd
 have hend : (Ls s).drop (q + A.length) = [] := by rw [← List.drop_drop, hs, List.drop_length]
 have h8 : atP isLu s (q + A.length) = false := by rw [at_form hend]; rfl
 have hlen : A.length = a.length + ((if pt = true then b.length + 1 else 0) + (if pc = true then 1 else 0)) := by
  rw [e]
  cases pt <;> cases pc <;> simp
 cases pt with
 | false =>
  have hb : b = [] := Classical.byContradiction fun hne => by have := h.p.2 hne; cases this
  subst hb
  simp only [Bool.false_eq_true, if_false, List.nil_append] at h2 hlen
  have hpt : ptB s (q + a.length) = false := by
   unfold ptB
   rw [at_form h2]
   cases pc <;> rfl
  have hm : mB s (q + a.length) = q + a.length := by unfold mB; rw [hpt, if_neg (by decide)]
  have hpc : pcB s (q + a.length) = pc := by
   unfold pcB
   rw [at_form h2]
   cases pc <;> rfl
  refine ⟨h1, hpt, ?_, by rw [hm, hpc], ?_, by unfold partB; rw [hpt, if_neg (by decide)]; rfl, h7, h8⟩
  ·rw [hm]; omega
  ·rw [hm]
   unfold m2B
   rw [hpc]
   cases pc <;> simp at hlen ⊢ <;> omega
 | true =>
  simp only [if_true] at h2 hlen
  have hb : b ≠ [] := h.p.1 rfl
  have h3 : (Ls s).drop (q + a.length + 1) = b ++ (if pc = true then [37] else []) := by
   rw [← List.drop_drop, h2]
   rfl
  have hpt : ptB s (q + a.length) = true := by
   unfold ptB
   rw [at_form h2, at_form h3]
   cases b with
   | nil => exact absurd rfl hb
   | cons x b =>
    have := h.bd x (by simp)
    simp [this]
  have hr : runP isDg s (q + a.length + 1) = b.length := run_form h3 h.bd (by
   intro x hx
   cases pc <;> simp at hx <;> subst hx <;> decide)
  have h4 := drop_app h3
  have hm : mB s (q + a.length) = q + a.length + 1 + b.length := by unfold mB; rw [hpt, if_pos rfl, hr]
  have hpc : pcB s (q + a.length + 1 + b.length) = pc := by
   unfold pcB
   rw [at_form h4]
   cases pc <;> rfl
  refine ⟨h1, hpt, ?_, by rw [hm, hpc], ?_, ?_, h7, h8⟩
  ·rw [hm]; omega
  ·rw [hm]
   unfold m2B
   rw [hpc]
   cases pc <;> simp at hlen ⊢ <;> omega
  ·unfold partB
   rw [hpt, if_pos rfl, hr]
   exact ext_form h3
theorem bt_first {s : ByteArray} {q : Nat} {b : UInt8} {T : List UInt8} (h : (Ls s).drop q = b :: T) : bt s (q : Int) = b.toNat := (bt_of s (drop_cons h).1).1
theorem num_mk {A a b : List UInt8} {pt pc : Bool} (h : NumForm A a b pt pc) {s : ByteArray} {q : Nat} (hs : (Ls s).drop q = A) (hr : (resL a b pt pc).2 = true) : numR s q 0 0 = (atQ (resL a b pt pc).1 q, true, q + A.length, 0, 0) := by
 obtain ⟨h1, h2, h3, h4, h5, h6, h7, h8⟩ := form_eval h hs
 have hz : ¬ (1 < a.length ∧ bt s (q : Int) = 48) := by
  rintro ⟨z1, z2⟩
  refine h.ca.z ⟨z1, ?_⟩
  have e := h.e
  cases a with
  | nil => cases z1
  | cons x a =>
   have hx : (Ls s).drop q = x :: (a ++ ((if pt = true then 46 :: b else []) ++ (if pc = true then [37] else []))) := hs.trans e
   rw [bt_first hx] at z2
   have : x = 48 := UInt8.toNat_inj.mp (show x.toNat = 48 by omega)
   rw [this]
   rfl
 have e : resR s q = resL a b pt pc := by
  unfold resR
  dsimp only
  rw [h1, h5, h8, if_neg (by decide), if_neg hz, h4, h2, h6, h7]
  rfl
 unfold numR
 rw [e, if_pos hr, h1, h5]
 rfl
theorem num_inv {A : List UInt8} {s : ByteArray} {q : Nat} (hs : (Ls s).drop q = A) {t : S57} (hd : atP isDg s q = true) (h : numR s q 0 0 = (t, true, q + A.length, 0, 0)) : ∃ a b pt pc, NumForm A a b pt pc ∧ (resL a b pt pc).2 = true ∧ t = atQ (resL a b pt pc).1 q := by
 have hq := (runP_yes hd).2
 have hlenA : q + A.length = s.size := by
  have := congrArg List.length hs
  rw [List.length_drop, Ls_len] at this
  omega
 unfold numR at h
 split at h
 ·next h1 =>
  simp only [Prod.mk.injEq] at h
  obtain ⟨rfl, _, h2, _, _⟩ := h
  have hres := h1
  unfold resR at h1
  dsimp only at h1
  split at h1
  ·cases h1
  ·split at h1
   ·cases h1
   ·next hz =>
    have hle1 := runP_le isDg s q (by omega)
    have hr1 := (runP_yes hd).1
    obtain ⟨d, hdd⟩ : ∃ d, runP isDg s q = d := ⟨_, rfl⟩
    have hsp : (Ls s).drop q = ((Ls s).drop q).takeWhile isDg ++ (Ls s).drop (q + d) := by
     conv => lhs; rw [← List.takeWhile_append_dropWhile (p := isDg) (l := (Ls s).drop q)]
     congr 1
     rw [← List.drop_drop, ← hdd]
     unfold runP
     conv => rhs; arg 2; rw [← List.takeWhile_append_dropWhile (p := isDg) (l := (Ls s).drop q)]
     rw [List.drop_left]
    have hal : (((Ls s).drop q).takeWhile isDg).length = d := hdd
    generalize ha : ((Ls s).drop q).takeWhile isDg = a at hsp hal
    have had : ∀ x ∈ a, isDg x = true := fun x hx => by rw [← ha] at hx; exact List.all_eq_true.1 List.all_takeWhile x hx
    have hca : Canon a := by
     refine ⟨fun e => by rw [e] at hal; simp at hal; omega, had, ?_⟩
     rintro ⟨z1, z2⟩
     refine hz ⟨by omega, ?_⟩
     cases a with
     | nil => cases z2
     | cons x a =>
      cases z2
      rw [bt_first (T := a ++ (Ls s).drop (q + d)) (by rw [hsp]; rfl)]
      rfl
    have hres2 : ∀ b pt pc, NumForm A a b pt pc → (resL a b pt pc).2 = true ∧ atQ (resR s q).1 q = atQ (resL a b pt pc).1 q := fun b pt pc hf => by
     obtain ⟨f1, f2, f3, f4, f5, f6, f7, f8⟩ := form_eval hf hs
     have e : resR s q = resL a b pt pc := by
      unfold resR
      dsimp only
      rw [hdd] at hz
      rw [f1, f5, f8, if_neg (by decide), if_neg (by rw [hal]; exact hz), f4, f2, f6, f7]
      rfl
     rw [e] at hres ⊢
     exact ⟨hres, rfl⟩
    have hfin : ∃ b pt pc, NumForm A a b pt pc := by
     rw [hdd] at h2
     have hpcs : ∀ m, m ≤ s.size → m2B s m = q + A.length → (Ls s).drop m = if pcB s m = true then [37] else [] := fun m hm h3 => by
      unfold m2B at h3
      split at h3
      ·next h4 =>
       rw [if_pos h4]
       unfold pcB atP at h4
       split at h4
       ·next b hb =>
        have : b = 37 := UInt8.toNat_inj.mp (show b.toNat = 37 by simpa using h4)
        subst this
        rw [drop_at hb, List.drop_of_length_le (by rw [Ls_len]; omega)]
       ·cases h4
      ·next h4 =>
       rw [if_neg h4]
       exact List.drop_of_length_le (by rw [Ls_len]; omega)
     cases hpt : ptB s (q + d) with
     | false =>
      have hm : mB s (q + d) = q + d := by unfold mB; rw [hpt, if_neg (by decide)]
      rw [hm] at h2
      refine ⟨[], false, pcB s (q + d), ?_, hca, fun x hx => absurd hx (List.not_mem_nil (a := x)), by simp⟩
      rw [← hs, hsp, hpcs _ (by omega) h2]
      simp
     | true =>
      have hm : mB s (q + d) = q + d + 1 + runP isDg s (q + d + 1) := by unfold mB; rw [hpt, if_pos rfl]
      have hmle := mB_le (s := s) (q := q + d) (by omega)
      rw [hm] at h2 hmle
      unfold ptB at hpt
      obtain ⟨p1, p2⟩ := (Bool.and_eq_true _ _).mp hpt
      obtain ⟨e, he⟩ : ∃ e, runP isDg s (q + d + 1) = e := ⟨_, rfl⟩
      have hsp2 : (Ls s).drop (q + d + 1) = ((Ls s).drop (q + d + 1)).takeWhile isDg ++ (Ls s).drop (q + d + 1 + e) := by
       conv => lhs; rw [← List.takeWhile_append_dropWhile (p := isDg) (l := (Ls s).drop (q + d + 1))]
       congr 1
       rw [← List.drop_drop (i := e), ← he]
       unfold runP
       conv => rhs; arg 2; rw [← List.takeWhile_append_dropWhile (p := isDg) (l := (Ls s).drop (q + d + 1))]
       rw [List.drop_left]
      have hbl : (((Ls s).drop (q + d + 1)).takeWhile isDg).length = e := he
      generalize hb : ((Ls s).drop (q + d + 1)).takeWhile isDg = b at hsp2 hbl
      have hbd : ∀ x ∈ b, isDg x = true := fun x hx => by rw [← hb] at hx; exact List.all_eq_true.1 List.all_takeWhile x hx
      have h46 : (Ls s).drop (q + d) = 46 :: (Ls s).drop (q + d + 1) := by
       unfold atP at p1
       split at p1
       ·next c hc =>
        have : c = 46 := UInt8.toNat_inj.mp (show c.toNat = 46 by simpa using p1)
        subst this
        exact drop_at hc
       ·cases p1
      have hbne : b ≠ [] := fun e0 => by
       have := (runP_yes p2).1
       rw [e0] at hbl
       simp at hbl
       omega
      refine ⟨b, true, pcB s (q + d + 1 + e), ?_, hca, hbd, by simp [hbne]⟩
      rw [he] at h2 hmle
      rw [← hs, hsp, h46, hsp2, hpcs _ hmle h2]
      simp
    obtain ⟨b, pt, pc, hf⟩ := hfin
    obtain ⟨r1, r2⟩ := hres2 b pt pc hf
    refine ⟨a, b, pt, pc, hf, r1, ?_⟩
    exact r2
 ·cases h
structure Named (A : List UInt8) : Prop where
 wd : ∀ x ∈ A, isWd x = true
 le : A.length ≤ 12
 lt : ∃ c T, A = c :: T ∧ isLt c = true
theorem name_mk {A : List UInt8} (h : Named A) : IsWord A [] ⟨1, 0, bA A, 0, 0⟩ := by
 obtain ⟨c, T, rfl, hc⟩ := h.lt
 refine ⟨by simp, c, rfl, ?_⟩
 have hd : (Ls (bA ((c :: T) ++ []))).drop 0 = (c :: T) ++ [] := rfl
 have hr : runP isWd (bA ((c :: T) ++ [])) 0 = (c :: T).length := run_form hd h.wd (fun x hx => by cases hx)
 have hx := ext_form hd
 unfold wordR
 rw [if_pos hc]
 unfold nameR
 rw [hr, if_pos h.le]
 rw [Nat.zero_add] at hx ⊢
 rw [hx]
 rfl
theorem lt_not_dg {c : UInt8} (h : isLt c = true) : isDg c = false := by
 cases e : isDg c with
 | false => rfl
 | true =>
  have := dg_bounds e
  unfold isLt at h
  simp only [Bool.and_eq_true, decide_eq_true_eq] at h
  omega
theorem dg_not_lt {c : UInt8} (h : isDg c = true) : isLt c = false := by
 cases e : isLt c with
 | false => rfl
 | true => rw [lt_not_dg e] at h; cases h
theorem not_dated {A : List UInt8} {s : ByteArray} {q : Nat} (hs : (Ls s).drop q = A) (h : ∀ x ∈ A, x.toNat ≠ 45) : datedB s q = false := by
 cases e : datedB s q with
 | false => rfl
 | true =>
  have h4 := datedGo_at 10 0 e 4 (by omega) (by omega)
  unfold datedT atP at h4
  rw [if_pos (.inl rfl)] at h4
  split at h4
  ·next b hb =>
   have hb2 : A[4]? = some b := by rw [← hs, List.getElem?_drop]; exact hb
   exact absurd (by simpa using h4) (h b (List.mem_of_getElem? hb2))
  ·cases h4
theorem form_no45 {A a b : List UInt8} {pt pc : Bool} (h : NumForm A a b pt pc) : ∀ x ∈ A, x.toNat ≠ 45 := by
 intro x hx
 rw [h.e] at hx
 have hdg : isDg x = true → x.toNat ≠ 45 := fun e => by have := dg_bounds e; omega
 rcases List.mem_append.1 hx with h1 | h1
 ·exact hdg (h.ca.dg x h1)
 ·rcases List.mem_append.1 h1 with h2 | h2
  ·cases pt with
   | false => simp at h2
   | true =>
    simp only [if_true] at h2
    rcases List.mem_cons.1 h2 with rfl | h3
    ·decide
    ·exact hdg (h.bd x h3)
  ·cases pc with
   | false => simp at h2
   | true =>
    simp at h2
    subst h2
    decide
theorem atQ_zero (t : S57) (h : t.f1 = 0) : atQ t 0 = t := by
 cases t
 simp only [atQ] at *
 subst h
 rfl
theorem resL_zero (a b : List UInt8) (pt pc : Bool) : (resL a b pt pc).1.f1 = 0 := by
 unfold resL ratioR amountR countR
 split
 ·split
  ·rfl
  ·split <;> rfl
 ·split <;> rfl
theorem number_mk {A a b : List UInt8} {pt pc : Bool} (h : NumForm A a b pt pc) (hr : (resL a b pt pc).2 = true) : IsWord A [] (resL a b pt pc).1 := by
 obtain ⟨c, T, hA, hc⟩ : ∃ c T, A = c :: T ∧ isDg c = true := by
  have e := h.e
  have hne := h.ca.ne
  match a, hne with
  | x :: a, _ => exact ⟨x, _, e, h.ca.dg x (by simp)⟩
 have hs : (Ls (bA (A ++ []))).drop 0 = A := List.append_nil A
 refine ⟨by rw [hA]; simp, c, by rw [hA]; rfl, ?_⟩
 unfold wordR
 rw [if_neg (by rw [dg_not_lt hc]; decide), if_pos hc]
 unfold numberR
 rw [if_neg (by rw [not_dated hs (form_no45 h)]; decide)]
 have := num_mk h hs hr
 rw [Nat.zero_add, atQ_zero _ (resL_zero a b pt pc)] at this
 exact this
def amountA (n : Nat) : List UInt8 := decDigits (n / 100) ++ [46, dig (n / 10 % 10), dig (n % 10)]
theorem strip_len (l : List UInt8) : (l.dropWhile (· == 48)).length ≤ l.length := by
 have := congrArg List.length (List.takeWhile_append_dropWhile (p := (· == (48 : UInt8))) (l := l))
 rw [List.length_append] at this
 omega
theorem digitsR_ok {l : List UInt8} (h : l.length ≤ 18) : digitsR l = ((val l : Int), true) := by
 unfold digitsR
 rw [if_neg (by have := strip_len l; omega)]
theorem digitsR_true {l : List UInt8} (h : (digitsR l).2 = true) : digitsR l = ((val l : Int), true) := by
 unfold digitsR at h ⊢
 split
 ·next h1 => rw [if_pos h1] at h; cases h
 ·rfl
theorem count_form (n : Nat) : NumForm (decDigits n) (decDigits n) [] false false := ⟨by simp, (dec_canon n).1, fun x hx => absurd hx (List.not_mem_nil (a := x)), by simp⟩
theorem count_mk {n : Nat} (h : n ≤ 1000000000) : IsWord (decDigits n) [] ⟨3, 0, ⟨#[]⟩, n, 0⟩ := by
 have hl := dec_length (u := n) (k := 10) (by omega) (by decide)
 have e : resL (decDigits n) [] false false = (⟨3, 0, ⟨#[]⟩, n, 0⟩, true) := by
  unfold resL
  rw [if_neg (by decide), if_neg (by decide)]
  unfold countR
  rw [digitsR_ok (by omega), val_dec]
  have : ((n : Int) ≤ 1000000000) := by omega
  simp [this]
 have := number_mk (count_form n) (by rw [e])
 rw [e] at this
 exact this
theorem amount_form (n : Nat) : NumForm (amountA n) (decDigits (n / 100)) [dig (n / 10 % 10), dig (n % 10)] true false := by
 refine ⟨by simp [amountA], (dec_canon _).1, fun x hx => ?_, by simp⟩
 simp only [List.mem_cons, List.not_mem_nil, or_false] at hx
 rcases hx with rfl | rfl <;> exact dig_isDg (Nat.mod_lt _ (by decide))
theorem amount_val (n : Nat) : val (decDigits (n / 100) ++ [dig (n / 10 % 10), dig (n % 10)]) = n := by
 rw [val_app, val_dec]
 unfold val
 rw [valA_cons, valA_cons, dig_toNat (Nat.mod_lt _ (by decide)), dig_toNat (Nat.mod_lt _ (by decide))]
 show n / 100 * 10 ^ 2 + (10 * (10 * 0 + (48 + n / 10 % 10 - 48)) + (48 + n % 10 - 48)) = n
 omega
theorem amount_mk {n : Nat} (h : n ≤ 9999999999999) : IsWord (amountA n) [] ⟨2, 0, ⟨#[]⟩, n, 0⟩ := by
 have hl := dec_length (u := n / 100) (k := 12) (by omega) (by decide)
 have e : resL (decDigits (n / 100)) [dig (n / 10 % 10), dig (n % 10)] true false = (⟨2, 0, ⟨#[]⟩, n, 0⟩, true) := by
  unfold resL
  rw [if_neg (by decide), if_pos rfl]
  unfold amountR
  rw [digitsR_ok (by simp; omega), amount_val]
  have : ((n : Int) ≤ 9999999999999) := by omega
  simp [this]
 have := number_mk (amount_form n) (by rw [e])
 rw [e] at this
 exact this
def behindA (n d : Nat) : List UInt8 := trimRightB (pad 6 (n * 100 % d * 10 ^ 6 / d)) 48
def perA (n d : Nat) : List UInt8 := decDigits (n * 100 / d) ++ ((if behindA n d = [] then [] else 46 :: behindA n d) ++ [37])
structure PerOk (n d : Nat) : Prop where
 n9 : n ≤ 1000000000
 d1 : 1 ≤ d
 d9 : d ≤ 1000000000
 low : Nat.gcd n d = 1
 whole : n * 100 % d * 10 ^ 6 % d = 0
theorem trim_app (l : List UInt8) : ∃ k, l = trimRightB l 48 ++ List.replicate k 48 ∧ (trimRightB l 48).getLast? ≠ some 48 := by
 induction l with
 | nil => exact ⟨0, rfl, by rw [trimR_nil]; simp⟩
 | cons x l ih =>
  obtain ⟨k, h1, h2⟩ := ih
  rw [trimR_cons]
  by_cases ht : trimRightB l 48 = []
  ·rw [if_pos ht]
   rw [ht, List.nil_append] at h1
   by_cases hx : x = 48
   ·rw [if_pos hx]
    refine ⟨k + 1, ?_, by simp⟩
    rw [hx, h1, List.nil_append]
    rfl
   ·rw [if_neg hx]
    refine ⟨k, ?_, by simpa using hx⟩
    rw [h1]
    rfl
  ·rw [if_neg ht]
   refine ⟨k, ?_, ?_⟩
   ·rw [List.cons_append, ← h1]
   ·rw [List.getLast?_cons]
    cases hl : (trimRightB l 48).getLast? with
    | none => rw [List.getLast?_eq_none_iff] at hl; exact absurd hl ht
    | some y => rw [hl] at h2; simpa using h2
theorem val_zeros (k : Nat) : val (List.replicate k 48) = 0 := by
 unfold val
 induction k with
 | zero => rfl
 | succ k ih => rw [List.replicate_succ, valA_cons]; exact ih
theorem trim_pad {k : Nat} {b : List UInt8} (hb : ∀ x ∈ b, isDg x = true) (hl : b.getLast? ≠ some 48) : trimRightB (b ++ List.replicate k 48) 48 = b := by
 have h0 : ∀ k, trimRightB (List.replicate k 48) 48 = [] := by
  intro k
  induction k with
  | zero => rfl
  | succ k ih => rw [List.replicate_succ, trimR_cons, if_pos ih, if_pos rfl]
 induction b with
 | nil => exact h0 k
 | cons x b ih =>
  rw [List.cons_append, trimR_cons]
  have hb' := ih (fun y hy => hb y (by simp [hy]))
  by_cases hbn : b = []
  ·subst hbn
   rw [List.nil_append, if_pos (h0 k), if_neg (fun e => hl (by rw [e]; rfl))]
  ·have := hb' (by rw [List.getLast?_cons] at hl; cases h : b.getLast? with
    | none => simp
    | some y => rw [h] at hl; exact hl)
   rw [this, if_neg hbn]
theorem pad_shift (j k p : Nat) (hp : p < 10 ^ j) : pad (j + k) (p * 10 ^ k) = pad j p ++ List.replicate k 48 := by
 induction k with
 | zero => simp
 | succ k ih =>
  show pad (j + k) (p * 10 ^ (k + 1) / 10) ++ [dig (p * 10 ^ (k + 1) % 10)] = _
  have e1 : p * 10 ^ (k + 1) = 10 * (p * 10 ^ k) := by rw [Nat.pow_succ, Nat.mul_comm (10 ^ k) 10, ← Nat.mul_assoc, Nat.mul_comm p 10, Nat.mul_assoc]
  rw [e1, Nat.mul_div_cancel_left _ (by decide), Nat.mul_mod_right, ih, List.append_assoc]
  congr 1
  rw [show (k + 1) = k + 1 from rfl, List.replicate_succ']
  rfl
theorem lowest {n d V e : Nat} (hd : 0 < d) (he : 0 < e) (hg : Nat.gcd n d = 1) (h : V * d = n * e) : V / max (Nat.gcd V e) 1 = n ∧ e / max (Nat.gcd V e) 1 = d := by
 have hdv : n ∣ V := (Nat.Coprime.dvd_of_dvd_mul_right (show Nat.Coprime n d from hg) ⟨e, h⟩)
 have hde : d ∣ e := (Nat.Coprime.dvd_of_dvd_mul_left (show Nat.Coprime d n from by rw [Nat.Coprime, Nat.gcd_comm]; exact hg) ⟨V, by rw [← h, Nat.mul_comm]⟩)
 obtain ⟨x, rfl⟩ := hde
 have hx : 0 < x := Nat.pos_of_mul_pos_left he
 have hV : V = n * x := by
  have : V * d = n * x * d := by rw [h, Nat.mul_assoc, Nat.mul_comm x d]
  exact Nat.eq_of_mul_eq_mul_right hd this
 subst hV
 rw [Nat.gcd_mul_right, hg, Nat.one_mul, Nat.max_eq_left hx, Nat.mul_div_cancel _ hx, Nat.mul_div_cancel _ hx]
 exact ⟨rfl, rfl⟩
theorem denR_pos (k : Nat) : 0 < denR k := by unfold denR; exact Nat.mul_pos (by decide) (Nat.pow_pos (by decide))
theorem mill {n d : Nat} (hd : 0 < d) (hw : n * 100 % d * 10 ^ 6 % d = 0) : (n * 100 / d * 10 ^ 6 + n * 100 % d * 10 ^ 6 / d) * d = n * 100 * 10 ^ 6 := by
 have h1 := Nat.div_add_mod (n * 100) d
 have h2 := Nat.div_add_mod (n * 100 % d * 10 ^ 6) d
 rw [hw, Nat.add_zero] at h2
 rw [Nat.add_mul, Nat.mul_comm (n * 100 % d * 10 ^ 6 / d) d, h2, Nat.mul_right_comm, ← Nat.add_mul, Nat.mul_comm (n * 100 / d) d, h1]
theorem behind_lt {n d : Nat} (hd : 0 < d) : n * 100 % d * 10 ^ 6 / d < 10 ^ 6 := by
 rw [Nat.div_lt_iff_lt_mul hd, Nat.mul_comm]
 exact Nat.mul_lt_mul_of_pos_left (Nat.mod_lt _ hd) (by decide)
theorem behind_val {n d : Nat} (hd : 0 < d) : (∀ x ∈ behindA n d, isDg x = true) ∧ (behindA n d).getLast? ≠ some 48 ∧ ∃ k, (behindA n d).length + k = 6 ∧ val (behindA n d) * 10 ^ k = n * 100 % d * 10 ^ 6 / d := by
 have hp := behind_lt (n := n) hd
 obtain ⟨k, h1, h2⟩ := trim_app (pad 6 (n * 100 % d * 10 ^ 6 / d))
 have hdg := pad_dg 6 (n * 100 % d * 10 ^ 6 / d)
 have hlen := pad_len 6 (n * 100 % d * 10 ^ 6 / d)
 have hv := val_pad 6 0 _ hp
 unfold behindA
 generalize pad 6 (n * 100 % d * 10 ^ 6 / d) = P at *
 generalize trimRightB P 48 = T at *
 subst h1
 refine ⟨fun x hx => hdg x (by simp [hx]), h2, k, by simpa using hlen, ?_⟩
 have := val_app T (List.replicate k 48)
 rw [val_zeros, Nat.add_zero, List.length_replicate] at this
 rw [← this]
 unfold val
 rw [hv]
 omega
theorem per_form0 {a b : List UInt8} {n d : Nat} (h2 : Canon a) (h1 : ∀ x ∈ b, isDg x = true) (e : perA n d = a ++ ((if b = [] then [] else 46 :: b) ++ [37])) : NumForm (perA n d) a b (decide (b ≠ [])) true := by
 refine ⟨?_, h2, h1, by simp⟩
 rw [e]
 by_cases hb : b = []
 ·subst hb; rfl
 ·rw [if_neg hb, if_pos (decide_eq_true hb), if_pos rfl]
theorem per_form {n d : Nat} (h : PerOk n d) : NumForm (perA n d) (decDigits (n * 100 / d)) (behindA n d) (decide (behindA n d ≠ [])) true :=
 per_form0 (dec_canon (n * 100 / d)).1 (behind_val (n := n) h.d1).1 rfl
theorem mulR {a b c : Nat} (h : 0 < c) (e : a * c = b * c) : a = b := Nat.eq_of_mul_eq_mul_right h e
theorem per_mk {n d : Nat} (h : PerOk n d) : IsWord (perA n d) [] ⟨4, 0, ⟨#[]⟩, n, d⟩ := by
 obtain ⟨b1, b2, k, b3, b4⟩ := behind_val (n := n) h.d1
 have hm := mill h.d1 h.whole
 have hW : n * 100 / d ≤ 100000000000 := Nat.le_trans (Nat.div_le_self _ _) (by have := h.n9; omega)
 have hl := dec_length (u := n * 100 / d) (k := 12) (by omega) (by decide)
 have hf := per_form h
 generalize hB : behindA n d = b at *
 have hV : val (decDigits (n * 100 / d) ++ b) * d = n * denR b.length := by
  rw [val_app, val_dec]
  refine mulR (c := 10 ^ k) (Nat.pow_pos (by decide)) ?_
  have e6 : (10 : Nat) ^ 6 = 10 ^ b.length * 10 ^ k := by rw [← Nat.pow_add, b3]
  rw [Nat.mul_right_comm, Nat.add_mul, b4, Nat.mul_assoc _ (10 ^ b.length), ← e6, hm]
  unfold denR
  rw [Nat.mul_assoc n (100 * 10 ^ b.length), Nat.mul_assoc 100, ← e6, Nat.mul_assoc]
 obtain ⟨l1, l2⟩ := lowest h.d1 (denR_pos b.length) h.low hV
 have e : resL (decDigits (n * 100 / d)) b (decide (b ≠ [])) true = (⟨4, 0, ⟨#[]⟩, n, d⟩, true) := by
  unfold resL
  rw [if_pos rfl]
  unfold ratioR
  rw [if_neg (not_or.mpr ⟨by omega, b2⟩), digitsR_ok (by rw [List.length_append]; omega)]
  have h1 := h.n9
  have h2 := h.d9
  have g1 : ((n : Int) ≤ 1000000000) := by omega
  have g2 : ((d : Int) ≤ 1000000000) := by omega
  rw [if_neg (show ¬ (true = false) by decide), l1, l2]
  simp [g1, g2]
 have := number_mk hf (by rw [e])
 rw [e] at this
 exact this
theorem gcd_low {V e : Nat} (he : 0 < e) : Nat.gcd (V / max (Nat.gcd V e) 1) (e / max (Nat.gcd V e) 1) = 1 ∧ V / max (Nat.gcd V e) 1 * max (Nat.gcd V e) 1 = V ∧ e / max (Nat.gcd V e) 1 * max (Nat.gcd V e) 1 = e := by
 have hg : 0 < Nat.gcd V e := Nat.gcd_pos_of_pos_right _ he
 rw [Nat.max_eq_left hg]
 exact ⟨Nat.gcd_div_gcd_div_gcd_of_pos_right he, Nat.div_mul_cancel (Nat.gcd_dvd_left _ _), Nat.div_mul_cancel (Nat.gcd_dvd_right _ _)⟩
theorem per_inv {a b : List UInt8} {pt : Bool} {A : List UInt8} (hf : NumForm A a b pt true) (hr : (resL a b pt true).2 = true) : ∃ n d, PerOk n d ∧ A = perA n d ∧ (resL a b pt true).1 = ⟨4, 0, ⟨#[]⟩, n, d⟩ := by
 unfold resL at hr ⊢
 rw [if_pos rfl] at hr ⊢
 unfold ratioR at hr ⊢
 split at hr
 ·cases hr
 ·next h1 =>
  obtain ⟨h6, hl⟩ := not_or.mp h1
  rw [if_neg h1]
  split at hr
  ·cases hr
  ·next h2 =>
   rw [if_neg h2]
   have hg := gcd_low (V := val (a ++ b)) (denR_pos b.length)
   have hd0 := denR_pos b.length
   generalize hN : val (a ++ b) / max (Nat.gcd (val (a ++ b)) (denR b.length)) 1 = n at *
   generalize hD : denR b.length / max (Nat.gcd (val (a ++ b)) (denR b.length)) 1 = d at *
   generalize max (Nat.gcd (val (a ++ b)) (denR b.length)) 1 = g at *
   obtain ⟨g1, g2, g3⟩ := hg
   simp only [Bool.and_eq_true, decide_eq_true_eq] at hr
   have hd : 0 < d := Nat.pos_of_ne_zero (fun e => by rw [e, Nat.zero_mul] at g3; omega)
   have hgp : 0 < g := Nat.pos_of_ne_zero (fun e => by rw [e, Nat.mul_zero] at g3; omega)
   have hV : val (a ++ b) * d = n * denR b.length := by rw [← g2, ← g3, Nat.mul_assoc, Nat.mul_comm g d]
   have hbv : val b < 10 ^ b.length := val_lt b hf.bd
   rw [val_app] at hV
   obtain ⟨k, hk⟩ : ∃ k, b.length + k = 6 := ⟨6 - b.length, by omega⟩
   have e6 : (10 : Nat) ^ 6 = 10 ^ b.length * 10 ^ k := by rw [← Nat.pow_add, hk]
   have hkp : 0 < 10 ^ k := Nat.pow_pos (by decide)
   have hM : (val a * 10 ^ 6 + val b * 10 ^ k) * d = n * 100 * 10 ^ 6 := by
    have := congrArg (· * 10 ^ k) hV
    unfold denR at this
    rw [Nat.mul_right_comm, Nat.add_mul, Nat.mul_assoc (val a), ← e6, Nat.mul_assoc n, Nat.mul_assoc 100, ← e6, ← Nat.mul_assoc n] at this
    exact this
   have hlt : val b * 10 ^ k < 10 ^ 6 := by rw [e6]; exact Nat.mul_lt_mul_of_pos_right hbv hkp
   have hq : n * 100 / d = val a := by
    have e1 : n * 100 * 10 ^ 6 / d = val a * 10 ^ 6 + val b * 10 ^ k := by rw [← hM, Nat.mul_div_cancel _ hd]
    have e2 : n * 100 * 10 ^ 6 / d / 10 ^ 6 = val a := by rw [e1, Nat.add_comm, Nat.add_mul_div_right _ _ (by decide), Nat.div_eq_of_lt hlt, Nat.zero_add]
    rw [Nat.div_div_eq_div_mul, Nat.mul_comm d, ← Nat.div_div_eq_div_mul, Nat.mul_div_cancel _ (by decide)] at e2
    exact e2
   have hrem : n * 100 % d * 10 ^ 6 = val b * 10 ^ k * d := by
    have h3 := Nat.div_add_mod (n * 100) d
    rw [hq] at h3
    rw [← h3, Nat.add_mul] at hM
    rw [Nat.add_mul, Nat.mul_comm d (val a), Nat.mul_right_comm (val a) (10 ^ 6) d] at hM
    exact (Nat.add_left_cancel hM).symm
   have hbeh : behindA n d = b := by
    unfold behindA
    rw [hrem, Nat.mul_div_cancel _ hd]
    have : pad 6 (val b * 10 ^ k) = b ++ List.replicate k 48 := by
     rw [← hk, pad_shift _ _ _ hbv, pad_val _ b rfl hf.bd]
    rw [this, trim_pad hf.bd hl]
   refine ⟨n, d, ⟨by omega, hd, by omega, g1, by rw [hrem, Nat.mul_mod_left]⟩, ?_, rfl⟩
   unfold perA
   rw [hq, dec_val _ a rfl hf.ca, hbeh, hf.e]
   cases pt with
   | true => rw [if_pos rfl, if_pos rfl, if_neg (hf.p.1 rfl)]
   | false =>
    have : b = [] := Classical.byContradiction fun hne => by have := hf.p.2 hne; cases this
    rw [if_neg (by decide), if_pos rfl, if_pos this]
theorem amount_inv {a b : List UInt8} {A : List UInt8} (hf : NumForm A a b true false) (hr : (resL a b true false).2 = true) : ∃ n, n ≤ 9999999999999 ∧ A = amountA n ∧ (resL a b true false).1 = ⟨2, 0, ⟨#[]⟩, n, 0⟩ := by
 unfold resL at hr ⊢
 rw [if_neg (by decide), if_pos rfl] at hr ⊢
 unfold amountR at hr ⊢
 simp only [Bool.and_eq_true, decide_eq_true_eq] at hr
 obtain ⟨⟨h1, h2⟩, h3⟩ := hr
 rw [digitsR_true h1] at h3 ⊢
 match b, h2 with
 | [x, y], _ =>
  have hx := dg_bounds (hf.bd x (by simp))
  have hy := dg_bounds (hf.bd y (by simp))
  have hv : val (a ++ [x, y]) = val a * 100 + (10 * (x.toNat - 48) + (y.toNat - 48)) := by
   rw [val_app]
   unfold val
   rw [valA_cons, valA_cons]
   show valA 0 a * 10 ^ 2 + (10 * (10 * 0 + (x.toNat - 48)) + (y.toNat - 48)) = _
   omega
  refine ⟨val (a ++ [x, y]), by omega, ?_, rfl⟩
  unfold amountA
  rw [hv, show (val a * 100 + (10 * (x.toNat - 48) + (y.toNat - 48))) / 100 = val a by omega, show (val a * 100 + (10 * (x.toNat - 48) + (y.toNat - 48))) / 10 % 10 = x.toNat - 48 by omega, show (val a * 100 + (10 * (x.toNat - 48) + (y.toNat - 48))) % 10 = y.toNat - 48 by omega, dig_of (hf.bd x (by simp)), dig_of (hf.bd y (by simp)), dec_val _ a rfl hf.ca, hf.e]
  simp
theorem count_inv {a b : List UInt8} {A : List UInt8} (hf : NumForm A a b false false) (hr : (resL a b false false).2 = true) : ∃ n, n ≤ 1000000000 ∧ A = decDigits n ∧ (resL a b false false).1 = ⟨3, 0, ⟨#[]⟩, n, 0⟩ := by
 unfold resL at hr ⊢
 rw [if_neg (by decide), if_neg (by decide)] at hr ⊢
 unfold countR at hr ⊢
 simp only [Bool.and_eq_true, decide_eq_true_eq] at hr
 obtain ⟨h1, h3⟩ := hr
 rw [digitsR_true h1] at h3 ⊢
 refine ⟨val a, by omega, ?_, rfl⟩
 rw [dec_val _ a rfl hf.ca, hf.e]
 simp
def esc (b : UInt8) : List UInt8 := if b.toNat = 34 ∨ b.toNat = 92 then [92, b] else [b]
def escs : List UInt8 → List UInt8
 | [] => []
 | b :: l => esc b ++ escs l
def quotedA (b : List UInt8) : List UInt8 := 34 :: (escs b ++ [34])
structure TextOk (b : List UInt8) : Prop where
 le : b.length ≤ 40
 pr : ∀ x ∈ b, 32 ≤ x.toNat ∧ x.toNat ≤ 126
theorem strOf_numU (l : List UInt8) : strOfNums (numU l) = bA l := by
 have : (numU l).map (fun n => UInt8.ofNat n.toNat) = l := by
  unfold numU
  rw [List.map_map]
  conv => rhs; rw [← List.map_id l]
  apply List.map_congr_left
  intro x _
  simp
 show (⟨_⟩ : ByteArray) = ⟨_⟩
 rw [this]
theorem txt_mk {s : ByteArray} {q : Nat} (b : List UInt8) : ∀ (d i : Nat) (acc rest : List UInt8), (Ls s).drop i = escs b ++ 34 :: rest → b.length < d → acc.length + b.length ≤ 40 → (∀ x ∈ b, 32 ≤ x.toNat ∧ x.toNat ≤ 126) → txtR s q 0 0 d i acc = (⟨6, q, bA (acc ++ b), 0, 0⟩, true, i + (escs b).length + 1, 0, 0) := by
 induction b with
 | nil =>
  intro d i acc rest hD hd hl hp
  obtain ⟨d, rfl⟩ : ∃ x, d = x + 1 := ⟨d - 1, by omega⟩
  obtain ⟨h1, h2, h3⟩ := drop_cons (c := 34) (D := rest) hD
  unfold txtR
  rw [h1]
  dsimp only
  rw [if_neg (by decide), if_pos (by decide), if_pos (by simpa using hl), strOf_numU, List.append_nil]
  rfl
 | cons x b ih =>
  intro d i acc rest hD hd hl hp
  obtain ⟨d, rfl⟩ : ∃ x, d = x + 1 := ⟨d - 1, by omega⟩
  rw [List.length_cons] at hd hl
  have hx := hp x (by simp)
  have hacc : acc ++ x :: b = (acc ++ [x]) ++ b := by simp
  unfold txtR
  by_cases he : x.toNat = 34 ∨ x.toNat = 92
  ·have e : escs (x :: b) = 92 :: x :: escs b := by show esc x ++ escs b = _; unfold esc; rw [if_pos he]; rfl
   rw [e] at hD ⊢
   obtain ⟨h1, h2, h3⟩ := drop_cons (c := 92) hD
   obtain ⟨h4, h5, h6⟩ := drop_cons (c := x) h2
   rw [h1]
   dsimp only
   rw [if_neg (by decide), if_neg (by decide), if_pos (by decide), h4]
   dsimp only
   rw [if_pos (by omega), ih d (i + 2) (acc ++ [x]) rest h5 (by omega) (by simp; omega) (fun y hy => hp y (by simp [hy])), hacc]
   simp only [List.length_cons]
   rw [show i + 2 + (escs b).length + 1 = i + ((escs b).length + 1 + 1) + 1 by omega]
  ·have e : escs (x :: b) = x :: escs b := by show esc x ++ escs b = _; unfold esc; rw [if_neg he]; rfl
   rw [e] at hD ⊢
   obtain ⟨h1, h2, h3⟩ := drop_cons (c := x) hD
   rw [h1]
   dsimp only
   rw [if_neg (by omega), if_neg (by omega), if_neg (by omega), if_neg (by omega), ih d (i + 1) (acc ++ [x]) rest h2 (by omega) (by simp; omega) (fun y hy => hp y (by simp [hy])), hacc]
   simp only [List.length_cons]
   rw [show i + 1 + (escs b).length + 1 = i + ((escs b).length + 1) + 1 by omega]
theorem escs_len (b : List UInt8) : b.length ≤ (escs b).length := by
 induction b with
 | nil => simp
 | cons x b ih =>
  show _ ≤ (esc x ++ escs b).length
  rw [List.length_append, List.length_cons]
  unfold esc
  split <;> simp <;> omega
theorem txt_mk_word {b : List UInt8} (h : TextOk b) : IsWord (quotedA b) [] ⟨6, 0, bA b, 0, 0⟩ := by
 refine ⟨by simp [quotedA], 34, rfl, ?_⟩
 have hd : (Ls (bA (quotedA b ++ []))).drop 1 = escs b ++ 34 :: [] := by
  show (quotedA b ++ []).drop 1 = _
  rw [List.append_nil]
  rfl
 unfold wordR
 rw [if_neg (by decide), if_neg (by decide), if_pos (by decide)]
 unfold quotedR
 have hsz : (bA (quotedA b ++ [])).size = (escs b).length + 2 := by
  show (quotedA b ++ []).toArray.size = _
  simp [quotedA]
 have := escs_len b
 rw [txt_mk b _ _ _ [] hd (by omega) (by simpa using h.le) h.pr]
 have e : (quotedA b).length = 0 + 1 + (escs b).length + 1 := by simp [quotedA]; omega
 rw [e]
 rfl
theorem txt_inv {s : ByteArray} {q : Nat} {t : S57} {e : Nat} (d : Nat) : ∀ (i : Nat) (acc : List UInt8), acc.length ≤ 1000000 → txtR s q 0 0 d i acc = (t, true, e, 0, 0) → ∃ b rest, (Ls s).drop i = escs b ++ 34 :: rest ∧ (Ls s).drop e = rest ∧ acc.length + b.length ≤ 40 ∧ (∀ x ∈ b, 32 ≤ x.toNat ∧ x.toNat ≤ 126) ∧ t = ⟨6, q, bA (acc ++ b), 0, 0⟩ := by
 induction d with
 | zero => intro i acc _ h; unfold txtR at h; cases h
 | succ d ih =>
  intro i acc ha h
  unfold txtR at h
  split at h
  ·cases h
  ·next c hc =>
   split at h
   ·cases h
   ·next h10 =>
    split at h
    ·next h34 =>
     split at h
     ·next h40 =>
      simp only [Prod.mk.injEq] at h
      obtain ⟨rfl, _, rfl, _⟩ := h
      have : c = 34 := UInt8.toNat_inj.mp (show c.toNat = 34 by omega)
      subst this
      refine ⟨[], _, drop_at hc, rfl, by simpa using h40, fun x hx => absurd hx (List.not_mem_nil (a := x)), ?_⟩
      rw [List.append_nil, strOf_numU]
     ·cases h
    ·next h34 =>
     split at h
     ·next h92 =>
      split at h
      ·cases h
      ·next c2 hc2 =>
       split at h
       ·next hq2 =>
        have hlen : ¬ 1000000 < (acc ++ [c2]).length ∨ 1000000 < (acc ++ [c2]).length := by omega
        by_cases hbig : (acc ++ [c2]).length ≤ 1000000
        ·obtain ⟨b, rest, g1, g2, g3, g4, g5⟩ := ih _ _ hbig h
         have e92 : c = 92 := UInt8.toNat_inj.mp (show c.toNat = 92 by omega)
         subst e92
         refine ⟨c2 :: b, rest, ?_, g2, by simp at g3 ⊢; omega, ?_, by rw [g5]; simp⟩
         ·rw [drop_at hc, drop_at hc2, g1]
          show _ = esc c2 ++ escs b ++ _
          unfold esc
          rw [if_pos (by omega)]
          rfl
         ·intro x hx
          rcases List.mem_cons.1 hx with rfl | hx
          ·omega
          ·exact g4 x hx
        ·exfalso
         have : ∀ (d i : Nat) (acc : List UInt8), 40 < acc.length → txtR s q 0 0 d i acc ≠ (t, true, e, 0, 0) := by
          intro d
          induction d with
          | zero => intro i acc _ h; unfold txtR at h; cases h
          | succ d ih =>
           intro i acc ha h
           unfold txtR at h
           split at h
           ·cases h
           ·split at h
            ·cases h
            ·split at h
             ·split at h
              ·omega
              ·cases h
             ·split at h
              ·split at h
               ·cases h
               ·split at h
                ·exact ih _ _ (by simp; omega) h
                ·cases h
              ·split at h
               ·cases h
               ·exact ih _ _ (by simp; omega) h
         exact this _ _ _ (by omega) h
       ·cases h
     ·next h92 =>
      split at h
      ·cases h
      ·next hr =>
       by_cases hbig : (acc ++ [c]).length ≤ 1000000
       ·obtain ⟨b, rest, g1, g2, g3, g4, g5⟩ := ih _ _ hbig h
        refine ⟨c :: b, rest, ?_, g2, by simp at g3 ⊢; omega, ?_, by rw [g5]; simp⟩
        ·rw [drop_at hc, g1]
         show _ = esc c ++ escs b ++ _
         unfold esc
         rw [if_neg (by omega)]
         rfl
        ·intro x hx
         rcases List.mem_cons.1 hx with rfl | hx
         ·omega
         ·exact g4 x hx
       ·exfalso
        have : ∀ (d i : Nat) (acc : List UInt8), 40 < acc.length → txtR s q 0 0 d i acc ≠ (t, true, e, 0, 0) := by
         intro d
         induction d with
         | zero => intro i acc _ h; unfold txtR at h; cases h
         | succ d ih =>
          intro i acc ha h
          unfold txtR at h
          split at h
          ·cases h
          ·split at h
           ·cases h
           ·split at h
            ·split at h
             ·omega
             ·cases h
            ·split at h
             ·split at h
              ·cases h
              ·split at h
               ·exact ih _ _ (by simp; omega) h
               ·cases h
             ·split at h
              ·cases h
              ·exact ih _ _ (by simp; omega) h
        exact this _ _ _ (by omega) h
def SignOk (A : List UInt8) : Prop := A = [33, 61] ∨ A = [60, 61] ∨ A = [62, 61] ∨ ∃ c, A = [c] ∧ isSg c = true ∧ c.toNat ≠ 33
theorem sg_cases {c : UInt8} (h : isSg c = true) : isLt c = false ∧ isDg c = false ∧ c.toNat ≠ 34 := by
 unfold isSg at h
 simp only [List.contains_eq_mem, List.mem_cons, List.not_mem_nil, or_false, decide_eq_true_eq] at h
 refine ⟨?_, ?_, by omega⟩
 ·unfold isLt; simp; omega
 ·unfold isDg; simp; omega
theorem sign_mk {A : List UInt8} (h : SignOk A) : IsWord A [] ⟨7, 0, bA A, 0, 0⟩ := by
 rcases h with rfl | rfl | rfl | ⟨c, rfl, hc, h33⟩
 ·exact ⟨by decide, 33, rfl, by rfl⟩
 ·exact ⟨by decide, 60, rfl, by rfl⟩
 ·exact ⟨by decide, 62, rfl, by rfl⟩
 ·obtain ⟨h1, h2, h3⟩ := sg_cases hc
  refine ⟨by simp, c, rfl, ?_⟩
  unfold wordR
  rw [if_neg (by rw [h1]; decide), if_neg (by rw [h2]; decide), if_neg (by omega), if_pos hc]
  unfold signR
  have hb : bt (bA ([c] ++ [])) (0 : Nat) = c.toNat := bt_first (s := bA [c]) (q := 0) (T := []) rfl
  have hsz : ¬ (0 + 1 < (bA ([c] ++ [])).size) := by show ¬ (0 + 1 < 1); omega
  rw [if_neg (fun h => hsz h.2.1), hb, if_neg (by omega)]
  have hx := ext_form (s := bA [c]) (i := 0) (u := [c]) (v := []) rfl
  show (_, _, _) = (_, _, _)
  rw [Nat.zero_add] at hx ⊢
  rw [show (bA ([c] ++ [])).extract 0 1 = bA [c] from hx]
  rfl
theorem date_mk {A : List UInt8} (h10 : A.length = 10) (hd : datedB (bA A) 0 = true) (hp : (parseS (bA A)).2.2 = 0) : IsWord A [] ⟨5, 0, ⟨#[]⟩, (parseS (bA A)).1, 0⟩ := by
 have h0 := datedGo_at 10 0 hd 0 (by omega) (by omega)
 unfold datedT at h0
 rw [if_neg (by decide)] at h0
 match A, h10 with
 | c :: T, h10 =>
  have hc : isDg c = true := h0
  refine ⟨by simp, c, rfl, ?_⟩
  rw [List.append_nil]
  unfold wordR
  rw [if_neg (by rw [dg_not_lt hc]; decide), if_pos hc]
  unfold numberR
  rw [if_pos hd]
  unfold dateR
  have hx : (bA (c :: T)).extract 0 (0 + 10) = bA (c :: T) := by
   have := ext_form (s := bA (c :: T)) (i := 0) (u := c :: T) (v := []) (by rw [List.append_nil]; rfl)
   rw [h10] at this
   exact this
  have he : atP isWd (bA (c :: T)) (0 + 10) = false := by
   rw [at_form (v := []) (List.drop_of_length_le (by rw [Ls_len]; show (c :: T).toArray.size ≤ _; simp at h10 ⊢; omega))]
   rfl
  rw [hx, if_neg (not_or.mpr ⟨by rw [hp]; decide, by rw [he]; decide⟩), h10]
  rfl
theorem word_inv {A : List UInt8} {t : S57} (h : IsWord A [] t) :
  (Named A ∧ t = ⟨1, 0, bA A, 0, 0⟩) ∨ (∃ n : Nat, n ≤ 9999999999999 ∧ A = amountA n ∧ t = ⟨2, 0, ⟨#[]⟩, n, 0⟩) ∨ (∃ n : Nat, n ≤ 1000000000 ∧ A = decDigits n ∧ t = ⟨3, 0, ⟨#[]⟩, n, 0⟩) ∨ (∃ n d : Nat, PerOk n d ∧ A = perA n d ∧ t = ⟨4, 0, ⟨#[]⟩, n, d⟩) ∨
  (A.length = 10 ∧ datedB (bA A) 0 = true ∧ (parseS (bA A)).2.2 = 0 ∧ t = ⟨5, 0, ⟨#[]⟩, (parseS (bA A)).1, 0⟩) ∨ (∃ b, TextOk b ∧ A = quotedA b ∧ t = ⟨6, 0, bA b, 0, 0⟩) ∨ (SignOk A ∧ t = ⟨7, 0, bA A, 0, 0⟩) := by
 have hpos := h.pos
 obtain ⟨c, hc, hw⟩ := h.w
 rw [List.append_nil] at hc hw
 have hD : (Ls (bA A)).drop 0 = A := rfl
 have hsz : (bA A).size = A.length := by show A.toArray.size = _; simp
 obtain ⟨T, rfl⟩ : ∃ T, A = c :: T := by
  match A, hpos with
  | x :: T, _ => cases hc; exact ⟨T, rfl⟩
 unfold wordR at hw
 split at hw
 ·next h1 =>
  left
  unfold nameR at hw
  split at hw
  ·next h2 =>
   simp only [Prod.mk.injEq, Nat.zero_add] at hw
   obtain ⟨rfl, _, h3, _, _⟩ := hw
   have hr : ((c :: T).takeWhile isWd).length = (c :: T).length := h3
   have hpre := List.takeWhile_prefix (l := c :: T) isWd
   have he : (c :: T).takeWhile isWd = c :: T := hpre.eq_of_length hr
   refine ⟨⟨fun x hx => ?_, by omega, c, T, rfl, h1⟩, ?_⟩
   ·rw [← he] at hx
    exact List.all_eq_true.1 List.all_takeWhile x hx
   ·have hx := ext_form (s := bA (c :: T)) (i := 0) (u := c :: T) (v := []) (by rw [List.append_nil]; rfl)
    rw [Nat.zero_add] at hx
    rw [h3, hx]
    rfl
  ·cases hw
 ·split at hw
  ·next h1 h2 =>
   unfold numberR at hw
   split at hw
   ·next h3 =>
    unfold dateR at hw
    split at hw
    ·cases hw
    ·next h4 =>
     simp only [Prod.mk.injEq, Nat.zero_add] at hw
     obtain ⟨rfl, _, h5, _, _⟩ := hw
     have hx : (bA (c :: T)).extract 0 (0 + 10) = bA (c :: T) := by
      have := ext_form (s := bA (c :: T)) (i := 0) (u := c :: T) (v := []) (by rw [List.append_nil]; rfl)
      rw [← h5] at this
      exact this
     obtain ⟨h6, _⟩ := not_or.mp h4
     rw [hx] at h6
     rw [Nat.zero_add] at hx
     have h6 : (parseS (bA (c :: T))).2.2 = 0 := by simpa using h6
     right; right; right; right; left
     exact ⟨h5.symm, h3, h6, by rw [hx]; rfl⟩
   ·have hd : atP isDg (bA (c :: T)) 0 = true := h2
    obtain ⟨a, b, pt, pc, hf, hr, ht⟩ := num_inv (s := bA (c :: T)) (q := 0) hD hd (by rw [Nat.zero_add]; exact hw)
    rw [atQ_zero _ (resL_zero a b pt pc)] at ht
    cases pc with
    | true =>
     obtain ⟨n, d, h5, h6, h7⟩ := per_inv hf hr
     right; right; right; left
     exact ⟨n, d, h5, h6, ht.trans h7⟩
    | false =>
     cases pt with
     | true =>
      obtain ⟨n, h5, h6, h7⟩ := amount_inv hf hr
      right; left
      exact ⟨n, h5, h6, ht.trans h7⟩
     | false =>
      obtain ⟨n, h5, h6, h7⟩ := count_inv hf hr
      right; right; left
      exact ⟨n, h5, h6, ht.trans h7⟩
  ·split at hw
   ·next h1 h2 h3 =>
    have h34 : c = 34 := UInt8.toNat_inj.mp (show c.toNat = 34 by omega)
    subst h34
    unfold quotedR at hw
    obtain ⟨b, rest, g1, g2, g3, g4, g5⟩ := txt_inv _ _ _ (by simp) hw
    have hr0 : rest = [] := by rw [← g2]; exact List.drop_of_length_le (by rw [Ls_len]; omega)
    subst hr0
    right; right; right; right; right; left
    refine ⟨b, ⟨by simpa using g3, g4⟩, ?_, g5⟩
    have : (Ls (bA (34 :: T))).drop (0 + 1) = T := rfl
    rw [this] at g1
    rw [g1]
    rfl
   ·split at hw
    ·next h1 h2 h3 h4 =>
     right; right; right; right; right; right
     have hx := ext_form (s := bA (c :: T)) (i := 0) (u := c :: T) (v := []) (by rw [List.append_nil]; rfl)
     rw [Nat.zero_add] at hx
     unfold signR at hw
     have hb : bt (bA (c :: T)) ((0 : Nat) : Int) = c.toNat := bt_first (s := bA (c :: T)) (q := 0) (T := T) rfl
     split at hw
     ·next h5 =>
      simp only [Prod.mk.injEq, Nat.zero_add] at hw
      obtain ⟨rfl, _, h6, _, _⟩ := hw
      obtain ⟨e1, e2, e3⟩ := h5
      match T, h6 with
      | [y], _ =>
       have hb2 : bt (bA (c :: [y])) (((0 : Nat) + 1 : Nat) : Int) = y.toNat := bt_first (s := bA (c :: [y])) (q := 1) (T := []) rfl
       have hy : y = 61 := UInt8.toNat_inj.mp (show y.toNat = 61 by omega)
       subst hy
       refine ⟨?_, by rw [← hx]; rfl⟩
       rcases e1 with e1 | e1 | e1
       ·have : c = 33 := UInt8.toNat_inj.mp (show c.toNat = 33 by omega)
        subst this; exact .inl rfl
       ·have : c = 60 := UInt8.toNat_inj.mp (show c.toNat = 60 by omega)
        subst this; exact .inr (.inl rfl)
       ·have : c = 62 := UInt8.toNat_inj.mp (show c.toNat = 62 by omega)
        subst this; exact .inr (.inr (.inl rfl))
     ·split at hw
      ·cases hw
      ·next h5 h6 =>
       simp only [Prod.mk.injEq, Nat.zero_add] at hw
       obtain ⟨rfl, _, h7, _, _⟩ := hw
       match T, h7 with
       | [], _ => exact ⟨.inr (.inr (.inr ⟨c, rfl, h4, by omega⟩)), by rw [← hx]; rfl⟩
    ·cases hw
end Go.Proofs.YtjlclkenfmbahaaGreatDoor.Gr
end
section
namespace Go.Proofs.YtjlclkenfmbahaaGreatDoor.Gr
open Go.RowKit Go.Proofs.YtjlclkenfmbahaaGreatDoorW.PrintWords Go.Proofs.YtjlclkenfmbahaaGreatDoorW.PrintLast Go.Proofs.YtjlclkenfmbahaaGreatDoor.PA Go.Proofs.YtjlclkenfmbahaaGreatDoor.Dig Go.Lib
open Go.Proofs.YtjlclkenfmbahaaGreatDoor.Pure (amountL perS wamount_p wper_p)
theorem perA_of {n d : Nat} {l : List UInt8} (hd : 0 < d) (h : longdiv d 6 (n * 100 % d) = some l) : n * 100 % d * 10 ^ 6 % d = 0 ∧ l = behindA n d := by
 by_cases hw : n * 100 % d * 10 ^ 6 % d = 0
 ·refine ⟨hw, ?_⟩
  rw [longdiv_pad hd 6 _ (Nat.mod_lt _ hd) hw] at h
  exact (Option.some.inj h).symm
 ·rw [longdiv_none hd 6 _ (Nat.mod_lt _ hd) hw] at h
  cases h
def perT (a b : Int) : ByteArray × Bool :=
 if a < 0 ∨ 1000000000 < a ∨ b < 1 ∨ 1000000000 < b then ((⟨#[]⟩ : ByteArray), false)
 else perS (decDigits (a.toNat * 100 / b.toNat)) (longdiv b.toNat 6 (a.toNat * 100 % b.toNat))
theorem perT_yes {a b : Int} (h : (perT a b).2 = true) : ∃ n d : Nat, a = n ∧ b = d ∧ n ≤ 1000000000 ∧ 1 ≤ d ∧ d ≤ 1000000000 ∧ n * 100 % d * 10 ^ 6 % d = 0 ∧ (perT a b).1 = bA (perA n d) := by
 unfold perT at h ⊢
 split at h
 ·cases h
 ·next hc =>
  rw [if_neg hc]
  have hc2 : 0 ≤ a ∧ a ≤ 1000000000 ∧ 1 ≤ b ∧ b ≤ 1000000000 := by omega
  have hd : 0 < b.toNat := by omega
  cases hl : longdiv b.toNat 6 (a.toNat * 100 % b.toNat) with
  | none => rw [hl] at h; cases h
  | some l =>
   obtain ⟨h1, h2⟩ := perA_of hd hl
   refine ⟨a.toNat, b.toNat, by omega, by omega, by omega, by omega, by omega, h1, ?_⟩
   unfold perA
   rw [← h2]
   cases l with
   | nil => rfl
   | cons x l =>
    rw [if_neg (by simp)]
    show bA _ = bA _
    congr 1
    simp
theorem dec_len20 {u : Nat} (h : u ≤ 100000000000) : (decDigits u).length ≤ 12 := dec_length (k := 12) (by omega) (by decide)
theorem whole_le {n d : Nat} (h : n ≤ 1000000000) : n * 100 / d ≤ 100000000000 := Nat.le_trans (Nat.div_le_self _ _) (by omega)
theorem len_add {a b : List UInt8} (ha : a.length ≤ 12) (hb : b.length ≤ 6) : (a ++ ((if b = [] then [] else 46 :: b) ++ [37])).length ≤ 40 := by
 rw [List.length_append, List.length_append]
 split <;> simp <;> omega
theorem behind_len {n d : Nat} (hd : 0 < d) : (behindA n d).length ≤ 6 := by
 obtain ⟨b1, b2, k, b3, b4⟩ := behind_val (n := n) hd
 exact b3 ▸ Nat.le_add_right _ _
theorem per_len {n d : Nat} (h : PerOk n d) : (perA n d).length ≤ 40 := len_add (dec_len20 (whole_le h.n9)) (behind_len h.d1)
theorem wno (a b : Int) : Ev (fun k => words_Percent.j0 k a b true) ((⟨#[]⟩ : ByteArray), false) := ⟨1, fun k hk => by
 obtain ⟨q, rfl⟩ : ∃ q, k = q + 1 := ⟨k - 1, by omega⟩
 show words_Percent.j0 (q + 1) a b true = _
 simp only [words_Percent.j0, if_true]⟩
theorem percent_p (a b : Int) : Ev (fun k => words_Percent.f k a b) (perT a b) := by
 unfold perT
 by_cases h1 : a < 0
 ·rw [if_pos (.inl h1)]
  exact Ev.congr (fun k => by show words_Percent.f k a b = _; unfold words_Percent.f; rw [if_pos h1]) (wno a b)
 by_cases h2 : a > 1000000000
 ·rw [if_pos (.inr (.inl h2))]
  exact Ev.congr (fun k => by show words_Percent.f k a b = _; unfold words_Percent.f; rw [if_neg h1, if_pos h2]) (wno a b)
 by_cases h3 : b < 1
 ·rw [if_pos (.inr (.inr (.inl h3)))]
  exact Ev.congr (fun k => by show words_Percent.f k a b = _; unfold words_Percent.f; rw [if_neg h1, if_neg h2, if_pos h3]) (wno a b)
 by_cases h4 : b > 1000000000
 ·rw [if_pos (.inr (.inr (.inr h4)))]
  exact Ev.congr (fun k => by show words_Percent.f k a b = _; unfold words_Percent.f; rw [if_neg h1, if_neg h2, if_neg h3, if_pos h4]) (wno a b)
 obtain ⟨n, rfl⟩ : ∃ n : Nat, a = n := ⟨a.toNat, by omega⟩
 obtain ⟨d, rfl⟩ : ∃ d : Nat, b = d := ⟨b.toNat, by omega⟩
 rw [if_neg (by omega), Int.toNat_natCast, Int.toNat_natCast]
 have h5 : ¬ (d : Int) = 0 := by omega
 exact Ev.congr (fun k => by show words_Percent.f k n d = _; unfold words_Percent.f; rw [if_neg h1, if_neg h2, if_neg h3, if_neg h4, if_neg h5]) (wper_p (by omega) (by omega) (by omega))
end Go.Proofs.YtjlclkenfmbahaaGreatDoor.Gr
end
section
namespace Go.Proofs.YtjlclkenfmbahaaGreatDoor.Gr
open Go.RowKit Go.Proofs.YtjlclkenfmbahaaGreatDoorW.PrintWords Go.Proofs.YtjlclkenfmbahaaGreatDoorW.PrintLast Go.Proofs.YtjlclkenfmbahaaGreatDoor.PA Go.Proofs.YtjlclkenfmbahaaGreatDoor.Dig Go.Lib
inductive PrG : Bool → List S57 → List UInt8 → Prop
 | nil : PrG false [] []
 | line {t : S57} {ts : List S57} {D : List UInt8} : atQ t 0 = endT 0 → PrG false ts D → PrG true (t :: ts) (10 :: D)
 | word0 {t : S57} {ts : List S57} {A D : List UInt8} : IsWord A [] (atQ t 0) → PrG true ts D → PrG false (t :: ts) (A ++ D)
 | word1 {t : S57} {ts : List S57} {A D : List UInt8} : IsWord A [] (atQ t 0) → PrG true ts D → PrG true (t :: ts) (32 :: (A ++ D))
theorem pr_of_G {g : Bool} {D : List UInt8} {o : Nat} {us : List S57} (h : ScanG g D o us) : ∃ D', PrG g us D' ∧ D'.length ≤ 2 * D.length + (if g = true then 1 else 0) := by
 induction h with
 | endF o => exact ⟨[], .nil, by simp⟩
 | endL o => exact ⟨[10], .line rfl .nil, by simp⟩
 | @blank l c D o ts hc h ih =>
  obtain ⟨D', h1, h2⟩ := ih
  exact ⟨D', h1, by rw [List.length_cons]; omega⟩
 | @note l c C D o ts hc hC hD h ih =>
  obtain ⟨D', h1, h2⟩ := ih
  exact ⟨D', h1, by rw [List.length_cons, List.length_append]; omega⟩
 | @lineL c D o ts hc h ih =>
  obtain ⟨D', h1, h2⟩ := ih
  refine ⟨10 :: D', .line rfl h1, ?_⟩
  rw [if_neg (by decide)] at h2
  rw [List.length_cons, List.length_cons]
  omega
 | @lineF c D o ts hc h ih =>
  obtain ⟨D', h1, h2⟩ := ih
  exact ⟨D', h1, by rw [List.length_cons]; omega⟩
 | @word l A R t o ts hw h ih =>
  obtain ⟨D', h1, h2⟩ := ih
  have hpos := hw.pos
  have hw2 : IsWord A [] (atQ (atQ t o) 0) := hw.calm (Calm.nil R)
  rw [if_pos rfl] at h2
  cases l with
  | false => exact ⟨A ++ D', .word0 hw2 h1, by rw [List.length_append, List.length_append]; omega⟩
  | true => exact ⟨32 :: (A ++ D'), .word1 hw2 h1, by rw [List.length_cons, List.length_append, List.length_append, if_pos rfl]; omega⟩
theorem pr_len {g : Bool} {ts : List S57} {D : List UInt8} (h : PrG g ts D) : ts.length ≤ D.length := by
 induction h with
 | nil => simp
 | line ht h ih => simp; exact ih
 | word0 hw h ih => have := hw.pos; rw [List.length_cons, List.length_append]; omega
 | word1 hw h ih => have := hw.pos; rw [List.length_cons, List.length_cons, List.length_append]; omega
end Go.Proofs.YtjlclkenfmbahaaGreatDoor.Gr
end
section
namespace Go.Proofs.YtjlclkenfmbahaaGreatDoor.Gr
open Go.RowKit Go.Proofs.YtjlclkenfmbahaaGreatDoorW.PrintWords Go.Proofs.YtjlclkenfmbahaaGreatDoorW.PrintLast Go.Proofs.YtjlclkenfmbahaaGreatDoor.PA
theorem same_refl (l : List S57) (hl : l.length < 1000000) : Ev (fun k => levylaw4_same.f k l l) true := by
 suffices h : ∀ (d i : Nat), l.length = i + d → Ev (fun k => levylaw4_same.l0 k l l (i : Int)) true by
  refine Ev.congr (fun k => ?_) (h l.length 0 (by omega))
  unfold levylaw4_same.f
  rw [if_pos rfl]
  rfl
 intro d
 induction d with
 | zero =>
  intro i hi
  refine ⟨1, fun k hk => ?_⟩
  obtain ⟨n, rfl⟩ : ∃ n, k = n + 1 := ⟨k - 1, by omega⟩
  show levylaw4_same.l0 (n + 1) l l (i : Int) = _
  unfold levylaw4_same.l0
  rw [if_neg (by omega)]
 | succ d ih =>
  intro i hi
  obtain ⟨K, hK⟩ := ih (i + 1) (by omega)
  refine ⟨K + 1, fun k hk => ?_⟩
  obtain ⟨n, rfl⟩ : ∃ n, k = n + 1 := ⟨k - 1, by omega⟩
  have h := hK n (by omega)
  dsimp only at h
  show levylaw4_same.l0 (n + 1) l l (i : Int) = _
  unfold levylaw4_same.l0
  have e1 : wrap64 ((i : Int) + 1) = ((i + 1 : Nat) : Int) := by rw [wrI (by omega) (by omega)]; omega
  rw [e1, h, if_pos (by omega), if_pos (by omega), if_pos (by omega), if_neg (by simp)]
end Go.Proofs.YtjlclkenfmbahaaGreatDoor.Gr
end
