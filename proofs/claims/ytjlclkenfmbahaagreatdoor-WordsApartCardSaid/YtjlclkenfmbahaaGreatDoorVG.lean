/- Several texts of this claim in one, each in a section of its own; what nothing reaches is left out. Conditions: each law's own. -/
import Derived.Test.YtjlclkenfmbahaaGreatDoorVScScan
import Derived.Test.YtjlclkenfmbahaaGreatDoorVPAx0
import Derived.Test.YtjlclkenfmbahaaGreatDoorVL3
set_option linter.unusedVariables false
set_option linter.unusedSimpArgs false
set_option linter.unusedSectionVars false
section
namespace Go.Proofs.YtjlclkenfmbahaaGreatDoor.Gr
open Go.RowKit Go.Proofs.YtjlclkenfmbahaaGreatDoorW.PrintWords Go.Proofs.YtjlclkenfmbahaaGreatDoorW.PrintLast Go.Proofs.YtjlclkenfmbahaaGreatDoor.PA
structure Fine (q : Nat) (r : S57 × Bool × Nat × Int × Int) : Prop where
 ok : r.2.1 = true → r.1.f1 = (q : Int) ∧ q < r.2.2.1 ∧ r.2.2.2.1 = 0 ∧ r.2.2.2.2 = 0
 no : r.2.1 = false → r.2.2.2.1 ≠ 0
theorem Fine.yes {q : Nat} {t : S57} {p : Nat} (h1 : t.f1 = (q : Int)) (h2 : q < p) : Fine q (t, true, p, 0, 0) := ⟨fun _ => ⟨h1, h2, rfl, rfl⟩, fun h => by cases h⟩
theorem Fine.bad {q : Nat} {t : S57} {p : Nat} {e a : Int} (h : e ≠ 0) : Fine q (t, false, p, e, a) := ⟨fun h => (by cases h), fun _ => h⟩
theorem txt_fine (s : ByteArray) (p : Nat) (d : Nat) : ∀ (i : Nat) (acc : List UInt8), p ≤ i → Fine p (txtR s p 0 0 d i acc) := by
 induction d with
 | zero => intro i acc h; exact Fine.bad (by decide)
 | succ d ih =>
  intro i acc h
  unfold txtR
  split
  ·exact Fine.bad (by decide)
  ·split
   ·exact Fine.bad (by decide)
   ·split
    ·split
     ·exact Fine.yes rfl (by omega)
     ·exact Fine.bad (by decide)
    ·split
     ·split
      ·exact Fine.bad (by decide)
      ·split
       ·exact ih _ _ (by omega)
       ·exact Fine.bad (by decide)
     ·split
      ·exact Fine.bad (by decide)
      ·exact ih _ _ (by omega)
theorem le_mB (s : ByteArray) (q : Nat) : q ≤ mB s q := by
 unfold mB
 split <;> omega
theorem le_m2B (s : ByteArray) (q : Nat) : q ≤ m2B s q := by
 unfold m2B
 split <;> omega
theorem word_fine {s : ByteArray} {q : Nat} {c : UInt8} (hc : (Ls s)[q]? = some c) : Fine q (wordR s q c 0 0) := by
 unfold wordR
 split
 ·next hL =>
  have : runP isWd s q = runP isWd s (q + 1) + 1 := (runP_yes (by unfold atP; rw [hc]; show (isLt c || isDg c || c.toNat == 95) = true; rw [hL]; rfl)).1
  unfold nameR
  split
  ·exact Fine.yes rfl (by omega)
  ·exact Fine.bad (by decide)
 ·split
  ·next hD =>
   have : runP isDg s q = runP isDg s (q + 1) + 1 := (runP_yes (by unfold atP; rw [hc]; exact hD)).1
   unfold numberR
   split
   ·unfold dateR
    split
    ·exact Fine.bad (by decide)
    ·exact Fine.yes rfl (by omega)
   ·have h1 := le_mB s (q + runP isDg s q)
    have h2 := le_m2B s (mB s (q + runP isDg s q))
    unfold numR
    split
    ·exact Fine.yes rfl (by omega)
    ·exact Fine.bad (by decide)
  ·split
   ·exact txt_fine s q _ _ _ (by omega)
   ·split
    ·unfold signR
     split
     ·exact Fine.yes rfl (by omega)
     ·split
      ·exact Fine.bad (by decide)
      ·exact Fine.yes rfl (by omega)
    ·exact Fine.bad (by decide)
theorem skip_at {s : ByteArray} (l : Bool) (n : Nat) : ∀ p, s.size < p + n → p ≤ s.size → p ≤ skipB s l n p ∧ ∀ c, (Ls s)[skipB s l n p]? = some c → ¬ ((c.toNat : Int) = 32 ∨ (c.toNat : Int) = 9) ∧ ¬ (c.toNat : Int) = 35 ∧ ((c.toNat : Int) = 10 → l = true) := by
 induction n with
 | zero => intro p h1 h2; omega
 | succ n ih =>
  intro p h1 h2
  unfold skipB
  split
  ·next hb =>
   refine ⟨Nat.le_refl _, fun c hc => ?_⟩
   rw [hb] at hc
   cases hc
  ·next c hc =>
   have hlt := (bt_of s hc).2
   split
   ·have := ih (p + 1) (by omega) (by omega)
    exact ⟨by omega, this.2⟩
   ·next a1 =>
    split
    ·next a2 =>
     have hr := (runP_yes (p := fun b => b.toNat != 10) (s := s) (i := p) (by unfold atP; rw [hc]; exact bne_iff_ne.mpr (by omega))).1
     have hle := runP_le (fun b => b.toNat != 10) s p (by omega)
     have := ih (p + runP (fun b => b.toNat != 10) s p) (by omega) hle
     exact ⟨by omega, this.2⟩
    ·next a2 =>
     split
     ·next a3 =>
      cases l with
      | true =>
       refine ⟨Nat.le_refl _, fun c2 hc2 => ?_⟩
       rw [if_pos rfl, hc] at hc2
       cases hc2
       exact ⟨a1, a2, fun _ => rfl⟩
      | false =>
       rw [if_neg (by decide)]
       have := ih (p + 1) (by omega) (by omega)
       exact ⟨by omega, this.2⟩
     ·next a3 =>
      refine ⟨Nat.le_refl _, fun c2 hc2 => ?_⟩
      rw [hc] at hc2
      cases hc2
      exact ⟨a1, a2, fun h => absurd h a3⟩
def plain (b : UInt8) : Bool := b.toNat != 32 && b.toNat != 9 && b.toNat != 35 && b.toNat != 10
def Calm (R' R : List UInt8) : Prop := R'.takeWhile plain <+: R
theorem Calm.refl (R : List UInt8) : Calm R R := List.takeWhile_prefix _
theorem Calm.nil (R : List UInt8) : Calm [] R := List.nil_prefix
theorem Calm.get {R' R : List UInt8} (h : Calm R' R) : ∀ i : Nat, (∀ j : Nat, j ≤ i → ∃ b, R'[j]? = some b ∧ plain b = true) → R[i]? = R'[i]? := by
 intro i hi
 have hl : i < (R'.takeWhile plain).length := by
  unfold Calm at h
  clear h
  induction R' generalizing i with
  | nil => obtain ⟨b, hb, _⟩ := hi 0 (by omega); cases hb
  | cons x xs ih =>
   obtain ⟨b, hb, hp⟩ := hi 0 (by omega)
   cases hb
   rw [List.takeWhile_cons, if_pos hp]
   cases i with
   | zero => simp
   | succ i =>
    have := ih i (fun j hj => by have := hi (j + 1) (by omega); simpa using this)
    simp only [List.length_cons]
    omega
 have e1 : (R'.takeWhile plain)[i]? = R'[i]? := by
  obtain ⟨t, ht⟩ := List.takeWhile_prefix (l := R') plain
  conv => rhs; rw [← ht]
  rw [List.getElem?_append_left hl]
 obtain ⟨t, ht⟩ := h
 rw [← e1, ← ht, List.getElem?_append_left hl]
section
structure Mv (s s' : ByteArray) (q q' : Nat) (A R R' : List UInt8) : Prop where
 h : (Ls s).drop q = A ++ R
 h' : (Ls s').drop q' = A ++ R'
 c : Calm R' R
variable {s s' : ByteArray} {q q' : Nat} {A R R' : List UInt8} (M : Mv s s' q q' A R R')
include M
theorem Mv.at_ (i : Nat) : (Ls s)[q + i]? = (A ++ R)[i]? := by rw [← M.h, List.getElem?_drop]
theorem Mv.at_' (i : Nat) : (Ls s')[q' + i]? = (A ++ R')[i]? := by rw [← M.h', List.getElem?_drop]
theorem Mv.inn {i : Nat} (hi : i < A.length) : (Ls s')[q' + i]? = (Ls s)[q + i]? := by
 rw [M.at_, M.at_', List.getElem?_append_left hi, List.getElem?_append_left hi]
theorem Mv.out {i : Nat} (h : ∀ j, A.length ≤ j → j ≤ i → ∃ b, (Ls s')[q' + j]? = some b ∧ plain b = true) : (Ls s')[q' + i]? = (Ls s)[q + i]? := by
 by_cases hi : i < A.length
 ·exact M.inn hi
 ·have hi : A.length ≤ i := by omega
  rw [M.at_, M.at_', List.getElem?_append_right hi, List.getElem?_append_right hi]
  refine (M.c.get _ fun j hj => ?_).symm
  obtain ⟨b, hb, hp⟩ := h (A.length + j) (by omega) (by omega)
  rw [M.at_', List.getElem?_append_right (by omega), Nat.add_sub_cancel_left] at hb
  exact ⟨b, hb, hp⟩
theorem Mv.atP_in {p : UInt8 → Bool} {i : Nat} (hi : i < A.length) : atP p s' (q' + i) = atP p s (q + i) := by unfold atP; rw [M.inn hi]
theorem Mv.atP_out {p : UInt8 → Bool} (hp : ∀ b, p b = true → plain b = true) {i : Nat} (hi : i ≤ A.length) (h : atP p s (q + i) = false) : atP p s' (q' + i) = false := by
 cases e : atP p s' (q' + i) with
 | false => rfl
 | true =>
  have : (Ls s')[q' + i]? = (Ls s)[q + i]? := M.out fun j h1 h2 => by
   obtain rfl : j = i := by omega
   unfold atP at e
   split at e
   ·next b hb => exact ⟨b, hb, hp b e⟩
   ·cases e
  unfold atP at e h
  rw [this, h] at e
  cases e
theorem Mv.runs {p : UInt8 → Bool} (hp : ∀ b, p b = true → plain b = true) {i : Nat} (h : i + runP p s (q + i) ≤ A.length) : runP p s' (q' + i) = runP p s (q + i) := by
 generalize hd : runP p s (q + i) = d at h
 induction d generalizing i with
 | zero =>
  have h0 : atP p s (q + i) = false := by
   cases e : atP p s (q + i) with
   | false => rfl
   | true => have := (runP_yes e).1; omega
  exact runP_no (M.atP_out hp (by omega) h0)
 | succ d ih =>
  have h1 : atP p s (q + i) = true := by
   cases e : atP p s (q + i) with
   | true => rfl
   | false => rw [runP_no e] at hd; cases hd
  have h2 := (runP_yes h1).1
  have h3 : atP p s' (q' + i) = true := by rw [M.atP_in (by omega)]; exact h1
  have h4 := ih (i := i + 1) (by rw [← Nat.add_assoc]; omega) (by omega)
  rw [← Nat.add_assoc] at h4
  rw [(runP_yes h3).1, h4]
theorem Mv.ext {i n : Nat} (h : i + n ≤ A.length) : s'.extract (q' + i) (q' + i + n) = s.extract (q + i) (q + i + n) := by
 have e : ∀ (t : ByteArray) (x : Nat) (T : List UInt8), (Ls t).drop x = A ++ T → Ls (t.extract (x + i) (x + i + n)) = (A.drop i).take n := fun t x T ht => by
  show (t.extract (x + i) (x + i + n)).data.toList = _
  rw [ByteArray.data_extract, Array.toList_extract, List.extract_eq_take_drop, Nat.add_sub_cancel_left]
  show ((Ls t).drop (x + i)).take n = _
  rw [← List.drop_drop, ht, List.drop_append_of_le_length (by omega), List.take_append_of_le_length (by rw [List.length_drop]; omega)]
 have e1 := e s q R M.h
 have e2 := e s' q' R' M.h'
 rw [← e1] at e2
 show (⟨_⟩ : ByteArray) = ⟨_⟩
 exact ByteArray.ext (Array.toList_inj.mp e2)
theorem Mv.size : q + A.length ≤ s.size ∨ A = [] := by
 by_cases hA : A = []
 ·exact .inr hA
 ·left
  have := congrArg List.length M.h
  rw [List.length_drop, Ls_len, List.length_append] at this
  have : 0 < A.length := List.length_pos_iff.2 hA
  omega
theorem Mv.size' : q' + A.length ≤ s'.size ∨ A = [] := by
 by_cases hA : A = []
 ·exact .inr hA
 ·left
  have := congrArg List.length M.h'
  rw [List.length_drop, Ls_len, List.length_append] at this
  have : 0 < A.length := List.length_pos_iff.2 hA
  omega
end
theorem plain_of {b : UInt8} (h : b.toNat ≠ 32 ∧ b.toNat ≠ 9 ∧ b.toNat ≠ 35 ∧ b.toNat ≠ 10) : plain b = true := by
 unfold plain
 simp [h]
theorem plain_wd {b : UInt8} (h : isWd b = true) : plain b = true := by
 apply plain_of
 unfold isWd isLt isDg at h
 simp only [Bool.or_eq_true, Bool.and_eq_true, decide_eq_true_eq, beq_iff_eq] at h
 omega
theorem dg_wd {b : UInt8} (h : isDg b = true) : isWd b = true := by unfold isWd; rw [h]; simp
theorem lu_wd {b : UInt8} (h : isLu b = true) : isWd b = true := by
 unfold isLu at h
 unfold isWd
 simp only [Bool.or_eq_true] at h ⊢
 rcases h with h | h
 ·exact .inl (.inl h)
 ·exact .inr h
theorem plain_eq {n : Nat} (h : n ≠ 32 ∧ n ≠ 9 ∧ n ≠ 35 ∧ n ≠ 10) (b : UInt8) (hb : (b.toNat == n) = true) : plain b = true := plain_of (by rw [beq_iff_eq] at hb; omega)
theorem bt_eqv {s s' : ByteArray} {i j : Nat} (h : (Ls s')[j]? = (Ls s)[i]?) : bt s' (j : Int) = bt s (i : Int) := by
 by_cases hi : i < s.size
 ·obtain ⟨b, hb⟩ := byte_some s hi
  rw [(bt_of s hb).1, (bt_of s' (h.trans hb)).1]
 ·have e := byte_none s hi
  have hj : ¬ j < s'.size := fun hj => by
   obtain ⟨b, hb⟩ := byte_some s' hj
   rw [h, e] at hb
   cases hb
  unfold bt
  rw [Int.toNat_natCast, Int.toNat_natCast, dif_neg hi, dif_neg hj]
def atQ (t : S57) (q : Nat) : S57 := ⟨t.f0, q, t.f2, t.f3, t.f4⟩
section
variable {s s' : ByteArray} {q q' : Nat} {A R R' : List UInt8} (M : Mv s s' q q' A R R') (hA : 0 < A.length)
include M hA
theorem name_mv {t : S57} (h : nameR s q 0 0 = (t, true, q + A.length, 0, 0)) : nameR s' q' 0 0 = (atQ t q', true, q' + A.length, 0, 0) := by
 unfold nameR at h ⊢
 split at h
 ·next h1 =>
  simp only [Prod.mk.injEq] at h
  obtain ⟨rfl, _, h2, _, _⟩ := h
  have hr : runP isWd s' (q' + 0) = runP isWd s (q + 0) := M.runs (p := isWd) (fun b => plain_wd) (by rw [Nat.add_zero]; omega)
  have hx := M.ext (i := 0) (n := A.length) (by omega)
  simp only [Nat.add_zero] at hr hx
  have h3 : runP isWd s q = A.length := by omega
  rw [hr, if_pos h1, h3, hx]
  rfl
 ·cases h
theorem dated_in (h : datedB s q = true) (hn : A.length = 10) : datedB s' q' = true := by
 have hgo := datedGo_at 10 0 h
 have : ∀ d i, i + d = 10 → datedGo s' q' d i = true := by
  intro d
  induction d with
  | zero => intro i hi; rfl
  | succ d ih =>
   intro i hi
   unfold datedGo
   have h1 := hgo i (by omega) (by omega)
   have h2 : datedT s' q' i = true := by
    unfold datedT at h1 ⊢
    rw [M.atP_in (by omega), M.atP_in (by omega)]
    exact h1
   rw [if_pos h2]
   exact ih _ (by omega)
 exact this 10 0 rfl
theorem dated_out (h : datedB s q = false) : datedB s' q' = false := by
 cases e : datedB s' q' with
 | false => rfl
 | true =>
  have hgo := datedGo_at 10 0 e
  have hb : ∀ i, i < 10 → ∃ b, (Ls s')[q' + i]? = some b ∧ plain b = true := fun i hi => by
   have := hgo i (by omega) (by omega)
   unfold datedT atP at this
   split at this
   ·split at this
    ·next b hb => exact ⟨b, hb, plain_eq (by decide) b this⟩
    ·cases this
   ·split at this
    ·next b hb => exact ⟨b, hb, plain_wd (dg_wd this)⟩
    ·cases this
  have hs : ∀ i, i < 10 → (Ls s')[q' + i]? = (Ls s)[q + i]? := fun i hi => M.out fun j _ hj => hb j (by omega)
  have : ∀ d i, i + d = 10 → datedGo s q d i = true := by
   intro d
   induction d with
   | zero => intro i hi; rfl
   | succ d ih =>
    intro i hi
    unfold datedGo
    have h1 := hgo i (by omega) (by omega)
    have h2 : datedT s q i = true := by
     unfold datedT atP at h1 ⊢
     rw [hs i (by omega)] at h1
     exact h1
    rw [if_pos h2]
    exact ih _ (by omega)
  rw [show datedB s q = true from this 10 0 rfl] at h
  cases h
theorem date_mv {t : S57} (h : dateR s q 0 0 = (t, true, q + A.length, 0, 0)) : A.length = 10 ∧ dateR s' q' 0 0 = (atQ t q', true, q' + A.length, 0, 0) := by
 unfold dateR at h ⊢
 split at h
 ·cases h
 ·next h1 =>
  simp only [Prod.mk.injEq] at h
  obtain ⟨rfl, _, h2, _, _⟩ := h
  have hn : A.length = 10 := by omega
  have hx := M.ext (i := 0) (n := 10) (by omega)
  simp only [Nat.add_zero] at hx
  obtain ⟨h3, h4⟩ := not_or.mp h1
  have h5 : atP isWd s' (q' + 10) = false := by
   rw [← hn]
   refine M.atP_out (p := isWd) (fun b => plain_wd) (Nat.le_refl _) ?_
   rw [hn]
   simpa using h4
  rw [hx, if_neg (not_or.mpr ⟨h3, by rw [h5]; decide⟩), hn]
  exact ⟨rfl, rfl⟩
theorem ptB_mv {i : Nat} (hi : i ≤ A.length) (h : mB s (q + i) ≤ q + A.length) (h2 : m2B s (mB s (q + i)) = q + A.length) : ptB s' (q' + i) = ptB s (q + i) := by
 by_cases hp : ptB s (q + i) = true
 ·have hp2 := hp
  unfold ptB at hp2
  have h3 := (Bool.and_eq_true _ _).mp hp2
  have h4 := (runP_yes h3.2).1
  unfold mB at h
  rw [if_pos hp] at h
  have e1 := M.atP_in (p := fun b => b.toNat == 46) (i := i) (by omega)
  have e2 := M.atP_in (p := isDg) (i := i + 1) (by omega)
  unfold ptB
  rw [e1, Nat.add_assoc q' i 1, Nat.add_assoc q i 1, e2]
 ·have hp : ptB s (q + i) = false := by simpa using hp
  rw [hp]
  unfold mB at h2
  rw [hp, if_neg (by decide)] at h2
  by_cases hlt : i < A.length
  ·
   have hpc : pcB s (q + i) = true := by
    unfold m2B at h2
    split at h2
    ·assumption
    ·omega
   have : atP (fun b => b.toNat == 46) s (q + i) = false := by
    unfold pcB atP at hpc
    unfold atP
    split
    ·next b hb =>
     rw [hb] at hpc
     have : b.toNat = 37 := by simpa using hpc
     simp [this]
    ·rfl
   unfold ptB
   rw [M.atP_in hlt, this, Bool.false_and]
  ·cases e : ptB s' (q' + i) with
   | false => rfl
   | true =>
    unfold ptB at e hp
    obtain ⟨e1, e2⟩ := (Bool.and_eq_true _ _).mp e
    have hb : ∀ j, j ≤ 1 → ∃ b, (Ls s')[q' + i + j]? = some b ∧ plain b = true := fun j hj => by
     match j, hj with
     | 0, _ =>
      unfold atP at e1
      split at e1
      ·next b hb => exact ⟨b, hb, plain_eq (by decide) b e1⟩
      ·cases e1
     | 1, _ =>
      unfold atP at e2
      split at e2
      ·next b hb => exact ⟨b, hb, plain_wd (dg_wd e2)⟩
      ·cases e2
    have hs : ∀ j, j ≤ 1 → (Ls s')[q' + (i + j)]? = (Ls s)[q + (i + j)]? := fun j hj => M.out fun k h1 h2 => by
     obtain ⟨x, rfl⟩ : ∃ x, k = i + x := ⟨k - i, by omega⟩
     rw [← Nat.add_assoc]
     exact hb x (by omega)
    have s0 := hs 0 (by omega)
    have s1 := hs 1 (by omega)
    rw [Nat.add_zero] at s0
    rw [← Nat.add_assoc, ← Nat.add_assoc] at s1
    unfold atP at e1 e2 hp
    rw [s0] at e1
    rw [s1] at e2
    rw [e1, e2] at hp
    cases hp
theorem num_mv {t : S57} (h : numR s q 0 0 = (t, true, q + A.length, 0, 0)) : numR s' q' 0 0 = (atQ t q', true, q' + A.length, 0, 0) := by
 unfold numR at h
 split at h
 ·next h1 =>
  simp only [Prod.mk.injEq] at h
  obtain ⟨rfl, _, h2, _, _⟩ := h
  have hm := le_m2B s (mB s (q + runP isDg s q))
  have hq := le_mB s (q + runP isDg s q)
  generalize hd : runP isDg s q = d at *
  have hr : runP isDg s' q' = d := by
   have := M.runs (p := isDg) (fun b hb => plain_wd (dg_wd hb)) (i := 0) (by rw [Nat.add_zero, hd]; omega)
   rw [Nat.add_zero, Nat.add_zero, hd] at this
   exact this
  have hpt := ptB_mv M hA (i := d) (by omega) (by omega) h2
  obtain ⟨m, hm1⟩ : ∃ m, mB s (q + d) = q + m := ⟨mB s (q + d) - q, by omega⟩
  have hm2 : mB s' (q' + d) = q' + m ∧ partB s' (q' + d) = partB s (q + d) := by
   have hle : q + m ≤ q + A.length := by omega
   unfold mB at hm1
   unfold mB partB
   rw [hpt]
   split at hm1
   ·next hp =>
    have e1 := M.runs (p := isDg) (fun b hb => plain_wd (dg_wd hb)) (i := d + 1) (by rw [← Nat.add_assoc]; omega)
    rw [← Nat.add_assoc, ← Nat.add_assoc] at e1
    have e2 := M.ext (i := d + 1) (n := runP isDg s (q + d + 1)) (by omega)
    rw [← Nat.add_assoc, ← Nat.add_assoc] at e2
    rw [if_pos hp, if_pos hp, if_pos hp, e1, e2]
    exact ⟨by omega, rfl⟩
   ·next hp =>
    rw [if_neg hp, if_neg hp, if_neg hp]
    exact ⟨by omega, rfl⟩
  rw [hm1] at h2 hm
  have hpc : pcB s' (q' + m) = pcB s (q + m) := by
   unfold pcB
   by_cases hlt : m < A.length
   ·exact M.atP_in hlt
   ·have h3 : pcB s (q + m) = false := by
     unfold m2B at h2
     split at h2
     ·omega
     ·next h4 => simpa using h4
    unfold pcB at h3
    rw [h3]
    exact M.atP_out (fun b hb => plain_eq (by decide) b hb) (by omega) h3
  have hm3 : m2B s' (q' + m) = q' + A.length := by
   unfold m2B at h2 ⊢
   rw [hpc]
   split at h2
   ·next h4 => rw [if_pos h4]; omega
   ·next h4 => rw [if_neg h4]; omega
  have hres : resR s' q' = resR s q := by
   have hlu : atP isLu s (q + A.length) = false := by
    cases e : atP isLu s (q + A.length) with
    | false => rfl
    | true =>
     unfold resR at h1
     dsimp only at h1
     rw [hd, hm1, h2, if_pos e] at h1
     cases h1
   have hlu' := M.atP_out (p := isLu) (fun b hb => plain_wd (lu_wd hb)) (Nat.le_refl _) hlu
   have hb0 : bt s' (q' : Int) = bt s (q : Int) := bt_eqv (M.inn (i := 0) hA)
   have hx := M.ext (i := 0) (n := d) (by omega)
   simp only [Nat.add_zero] at hx
   unfold resR
   dsimp only
   rw [hr, hd, hm2.1, hm1, hm3, h2, hlu, hlu', hb0, hpc, hpt, hx, hm2.2]
  unfold numR
  rw [hres, if_pos h1, hr, hm2.1, hm3]
  rfl
 ·cases h
theorem txt_mv {t : S57} (d : Nat) : ∀ (i d' : Nat) (acc : List UInt8), txtR s q 0 0 d (q + i) acc = (t, true, q + A.length, 0, 0) → A.length ≤ i + d' → i < A.length → txtR s' q' 0 0 d' (q' + i) acc = (atQ t q', true, q' + A.length, 0, 0) := by
 induction d with
 | zero => intro i d' acc h _ _; unfold txtR at h; cases h
 | succ d ih =>
  intro i d' acc h hd hi
  obtain ⟨d'', rfl⟩ : ∃ x, d' = x + 1 := ⟨d' - 1, by omega⟩
  unfold txtR at h ⊢
  rw [M.inn hi]
  split at h
  ·cases h
  ·next c hc =>
   split at h
   ·cases h
   ·next h10 =>
    rw [if_neg h10]
    split at h
    ·next h34 =>
     rw [if_pos h34]
     split at h
     ·next h40 =>
      rw [if_pos h40]
      simp only [Prod.mk.injEq] at h
      obtain ⟨rfl, _, h2, _, _⟩ := h
      have : q' + i + 1 = q' + A.length := by omega
      rw [this]
      rfl
     ·cases h
    ·next h34 =>
     rw [if_neg h34]
     have hlt : ∀ (j d : Nat) (acc : List UInt8), txtR s q 0 0 d j acc = (t, true, q + A.length, 0, 0) → j < q + A.length := by
      intro j d
      induction d generalizing j with
      | zero => intro acc h; unfold txtR at h; cases h
      | succ d ih =>
       intro acc h
       unfold txtR at h
       split at h
       ·cases h
       ·split at h
        ·cases h
        ·split at h
         ·split at h
          ·simp only [Prod.mk.injEq] at h
           omega
          ·cases h
         ·split at h
          ·split at h
           ·cases h
           ·split at h
            ·have := ih _ _ h; omega
            ·cases h
          ·split at h
           ·cases h
           ·have := ih _ _ h; omega
     split at h
     ·next h92 =>
      rw [if_pos h92]
      split at h
      ·cases h
      ·next c2 hc2 =>
       split at h
       ·next hq2 =>
        have := hlt _ _ _ h
        have e := M.inn (i := i + 1) (by omega)
        rw [← Nat.add_assoc, ← Nat.add_assoc] at e
        rw [e, hc2]
        dsimp only
        rw [if_pos hq2, Nat.add_assoc q' i 2]
        exact ih (i + 2) d'' _ (by rw [← Nat.add_assoc]; exact h) (by omega) (by omega)
       ·cases h
     ·next h92 =>
      rw [if_neg h92]
      split at h
      ·cases h
      ·next hr =>
       have := hlt _ _ _ h
       rw [if_neg hr, Nat.add_assoc q' i 1]
       exact ih (i + 1) d'' _ (by rw [← Nat.add_assoc]; exact h) (by omega) (by omega)
theorem quoted_mv {t : S57} (h : quotedR s q 0 0 = (t, true, q + A.length, 0, 0)) (h1 : 1 < A.length) : quotedR s' q' 0 0 = (atQ t q', true, q' + A.length, 0, 0) := by
 unfold quotedR at h ⊢
 refine txt_mv M hA _ 1 _ _ h ?_ h1
 rcases M.size' with h2 | rfl
 ·omega
 ·cases hA
theorem sign_mv {t : S57} (h : signR s q 0 0 = (t, true, q + A.length, 0, 0)) : signR s' q' 0 0 = (atQ t q', true, q' + A.length, 0, 0) := by
 have hsz : q + A.length ≤ s.size := by rcases M.size with h2 | rfl; exact h2; cases hA
 have hsz' : q' + A.length ≤ s'.size := by rcases M.size' with h2 | rfl; exact h2; cases hA
 have hb0 : bt s' (q' : Int) = bt s (q : Int) := bt_eqv (M.inn (i := 0) hA)
 unfold signR at h ⊢
 rw [hb0]
 split at h
 ·next h1 =>
  simp only [Prod.mk.injEq] at h
  obtain ⟨rfl, _, h2, _, _⟩ := h
  have hb1 : bt s' ((q' + 1 : Nat) : Int) = bt s ((q + 1 : Nat) : Int) := bt_eqv (M.inn (i := 1) (by omega))
  have hx := M.ext (i := 0) (n := 2) (by omega)
  simp only [Nat.add_zero] at hx
  rw [hb1, if_pos ⟨h1.1, by omega, h1.2.2⟩, hx, show q' + 2 = q' + A.length by omega]
  rfl
 ·next h1 =>
  split at h
  ·cases h
  ·next h33 =>
   simp only [Prod.mk.injEq] at h
   obtain ⟨rfl, _, h2, _, _⟩ := h
   have hx := M.ext (i := 0) (n := 1) (by omega)
   simp only [Nat.add_zero] at hx
   have hneg : ¬((bt s (q : Int) = 33 ∨ bt s (q : Int) = 60 ∨ bt s (q : Int) = 62) ∧ q' + 1 < s'.size ∧ bt s' ((q' + 1 : Nat) : Int) = 61) := by
    rintro ⟨h3, h4, h5⟩
    obtain ⟨b, hb⟩ := byte_some s' h4
    have hb61 : b.toNat = 61 := by rw [(bt_of s' hb).1] at h5; omega
    have e := M.out (i := 1) fun j h6 h7 => by
     obtain rfl : j = 1 := by omega
     exact ⟨b, hb, plain_of (by omega)⟩
    refine h1 ⟨h3, ?_, ?_⟩
    ·rw [hb] at e
     exact (bt_of s e.symm).2
    ·rw [← bt_eqv e]
     exact h5
   rw [if_neg hneg, if_neg h33, hx, show q' + 1 = q' + A.length by omega]
   rfl
theorem word_mv {t : S57} {c : UInt8} (hc : (Ls s)[q]? = some c) (h : wordR s q c 0 0 = (t, true, q + A.length, 0, 0)) : (Ls s')[q']? = some c ∧ wordR s' q' c 0 0 = (atQ t q', true, q' + A.length, 0, 0) := by
 refine ⟨(M.inn (i := 0) hA).trans hc, ?_⟩
 unfold wordR at h ⊢
 split at h
 ·next h1 => rw [if_pos h1]; exact name_mv M hA h
 ·next h1 =>
  rw [if_neg h1]
  split at h
  ·next h2 =>
   rw [if_pos h2]
   unfold numberR at h ⊢
   split at h
   ·next h3 =>
    obtain ⟨h4, h5⟩ := date_mv M hA h
    rw [if_pos (dated_in M hA h3 h4)]
    exact h5
   ·next h3 =>
    have h3 : datedB s q = false := by simpa using h3
    rw [if_neg (by rw [dated_out M hA h3]; decide)]
    exact num_mv M hA h
  ·next h2 =>
   rw [if_neg h2]
   split at h
   ·next h3 =>
    rw [if_pos h3]
    refine quoted_mv M hA h ?_
    have := (txt_fine s q (s.size + 1) (q + 1) [] (by omega))
    by_cases h1 : 1 < A.length
    ·exact h1
    ·exfalso
     unfold quotedR at h
     have hlt : ∀ (d j : Nat) (acc : List UInt8), txtR s q 0 0 d j acc = (t, true, q + A.length, 0, 0) → j < q + A.length := by
      intro d
      induction d with
      | zero => intro j acc h; unfold txtR at h; cases h
      | succ d ih =>
       intro j acc h
       unfold txtR at h
       split at h
       ·cases h
       ·split at h
        ·cases h
        ·split at h
         ·split at h
          ·simp only [Prod.mk.injEq] at h
           omega
          ·cases h
         ·split at h
          ·split at h
           ·cases h
           ·split at h
            ·have := ih _ _ h; omega
            ·cases h
          ·split at h
           ·cases h
           ·have := ih _ _ h; omega
     have := hlt _ _ _ h
     omega
   ·next h3 =>
    rw [if_neg h3]
    split at h
    ·next h4 => rw [if_pos h4]; exact sign_mv M hA h
    ·cases h
end
structure IsWord (A R : List UInt8) (t : S57) : Prop where
 pos : 0 < A.length
 w : ∃ c, (A ++ R)[0]? = some c ∧ wordR (bA (A ++ R)) 0 c 0 0 = (t, true, A.length, 0, 0)
theorem mv_self {s : ByteArray} {q : Nat} {A R R' : List UInt8} (h : (Ls s).drop q = A ++ R) (hc : Calm R' R) : Mv s (bA (A ++ R')) q 0 A R R' := ⟨h, rfl, hc⟩
theorem IsWord.of {s : ByteArray} {q : Nat} {A R : List UInt8} {t : S57} {c : UInt8} (h : (Ls s).drop q = A ++ R) (hA : 0 < A.length) (hc : (Ls s)[q]? = some c) (hw : wordR s q c 0 0 = (t, true, q + A.length, 0, 0)) : IsWord A R (atQ t 0) := by
 obtain ⟨h1, h2⟩ := word_mv (mv_self h (Calm.refl R)) hA hc hw
 rw [Nat.zero_add] at h2
 exact ⟨hA, c, h1, h2⟩
theorem IsWord.at_ {A R R' : List UInt8} {t : S57} (h : IsWord A R t) (hc : Calm R' R) {s : ByteArray} {q : Nat} (hs : (Ls s).drop q = A ++ R') : ∃ c, (Ls s)[q]? = some c ∧ wordR s q c 0 0 = (atQ t q, true, q + A.length, 0, 0) := by
 obtain ⟨c, h1, h2⟩ := h.w
 have M : Mv (bA (A ++ R)) s 0 q A R R' := ⟨rfl, hs, hc⟩
 exact ⟨c, word_mv M h.pos h1 (by rw [Nat.zero_add]; exact h2)⟩
theorem word_plain {s : ByteArray} {q : Nat} {c : UInt8} {r : Nat × Int × Int} {t : S57} (h : wordR s q c 0 0 = (t, true, r)) : plain c = true := by
 apply plain_of
 unfold wordR at h
 split at h
 ·next h1 => unfold isLt at h1; simp only [Bool.and_eq_true, decide_eq_true_eq] at h1; omega
 ·split at h
  ·next h1 => unfold isDg at h1; simp only [Bool.and_eq_true, decide_eq_true_eq] at h1; omega
  ·split at h
   ·next h1 => omega
   ·split at h
    ·next h1 =>
     unfold isSg at h1
     simp only [List.contains_eq_mem, List.mem_cons, List.not_mem_nil, or_false, decide_eq_true_eq] at h1
     omega
    ·cases h
theorem IsWord.first {A R : List UInt8} {t : S57} (h : IsWord A R t) : ∃ c T, A = c :: T ∧ plain c = true := by
 obtain ⟨c, h1, h2⟩ := h.w
 have := h.pos
 match A, this with
 | a :: T, _ =>
  cases h1
  exact ⟨_, _, rfl, word_plain h2⟩
def sh (k : Nat) (t : S57) : S57 := ⟨t.f0, t.f1 + k, t.f2, t.f3, t.f4⟩
theorem same_refl (l : List S57) (hl : l.length < 1000000) : Ev (fun k => levylaw4_same.f k l l) true := by
 suffices h : ∀ (d i : Nat), l.length = i + d → Ev (fun k => levylaw4_same.l0 k l l (i : Int)) true by
  refine Ev.congr (fun k => ?_) (h l.length 0 (by omega))
  unfold levylaw4_same.f
  rw [if_pos rfl]
  rfl
 intro d
 induction d with
 | zero =>
  intro i hi
  refine ⟨1, fun k hk => ?_⟩
  obtain ⟨n, rfl⟩ : ∃ n, k = n + 1 := ⟨k - 1, by omega⟩
  show levylaw4_same.l0 (n + 1) l l (i : Int) = _
  unfold levylaw4_same.l0
  rw [if_neg (by omega)]
 | succ d ih =>
  intro i hi
  obtain ⟨K, hK⟩ := ih (i + 1) (by omega)
  refine ⟨K + 1, fun k hk => ?_⟩
  obtain ⟨n, rfl⟩ : ∃ n, k = n + 1 := ⟨k - 1, by omega⟩
  have h := hK n (by omega)
  dsimp only at h
  show levylaw4_same.l0 (n + 1) l l (i : Int) = _
  unfold levylaw4_same.l0
  have e1 : wrap64 ((i : Int) + 1) = ((i + 1 : Nat) : Int) := by rw [wrI (by omega) (by omega)]; omega
  rw [e1, h, if_pos (by omega), if_pos (by omega), if_pos (by omega), if_neg (by simp)]
end Go.Proofs.YtjlclkenfmbahaaGreatDoor.Gr
end
