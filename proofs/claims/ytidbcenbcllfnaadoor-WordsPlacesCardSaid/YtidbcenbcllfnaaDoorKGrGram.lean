/- A text without faults, word by word (ScanG), is what Scan takes. No condition. -/
import Derived.Test.YtidbcenbcllfnaaDoorKGrMove
import Derived.Test.YtidbcenbcllfnaaDoorKPAx0
namespace Go.Proofs.YtidbcenbcllfnaaDoor.Gr
open Go.RowKit Go.Proofs.YtidbcenbcllfnaaDoorW.PrintWords Go.Proofs.YtidbcenbcllfnaaDoorW.PrintLast Go.Proofs.YtidbcenbcllfnaaDoor.PA
set_option linter.unusedVariables false
set_option linter.unusedSectionVars false
set_option linter.unusedSimpArgs false
abbrev endT (o : Nat) : S33 := ⟨8, o, ⟨#[]⟩, 0, 0⟩
/-- A is a word, R behind it. -/
structure IsWord (A R : List UInt8) (t : S33) : Prop where
  pos : 0 < A.length
  w : ∃ c, (A ++ R)[0]? = some c ∧ wordR (bA (A ++ R)) 0 c 0 0 = (t, true, A.length, 0, 0)
theorem mv_self {s : ByteArray} {q : Nat} {A R R' : List UInt8} (h : (Ls s).drop q = A ++ R) (hc : Calm R' R) : Mv s (bA (A ++ R')) q 0 A R R' := ⟨h, rfl, hc⟩
theorem IsWord.of {s : ByteArray} {q : Nat} {A R : List UInt8} {t : S33} {c : UInt8} (h : (Ls s).drop q = A ++ R) (hA : 0 < A.length) (hc : (Ls s)[q]? = some c) (hw : wordR s q c 0 0 = (t, true, q + A.length, 0, 0)) : IsWord A R (atQ t 0) := by
  obtain ⟨h1, h2⟩ := word_mv (mv_self h (Calm.refl R)) hA hc hw
  rw [Nat.zero_add] at h2
  exact ⟨hA, c, h1, h2⟩
theorem IsWord.at_ {A R R' : List UInt8} {t : S33} (h : IsWord A R t) (hc : Calm R' R) {s : ByteArray} {q : Nat} (hs : (Ls s).drop q = A ++ R') : ∃ c, (Ls s)[q]? = some c ∧ wordR s q c 0 0 = (atQ t q, true, q + A.length, 0, 0) := by
  obtain ⟨c, h1, h2⟩ := h.w
  have M : Mv (bA (A ++ R)) s 0 q A R R' := ⟨rfl, hs, hc⟩
  exact ⟨c, word_mv M h.pos h1 (by rw [Nat.zero_add]; exact h2)⟩
theorem IsWord.calm {A R R' : List UInt8} {t : S33} (h : IsWord A R t) (hc : Calm R' R) : IsWord A R' (atQ t 0) := by
  obtain ⟨c, h1, h2⟩ := h.at_ hc (s := bA (A ++ R')) (q := 0) rfl
  rw [Nat.zero_add] at h2
  exact ⟨h.pos, c, h1, h2⟩
theorem word_plain {s : ByteArray} {q : Nat} {c : UInt8} {r : Nat × Int × Int} {t : S33} (h : wordR s q c 0 0 = (t, true, r)) : plain c = true := by
  apply plain_of
  unfold wordR at h
  split at h
  · next h1 => unfold isLt at h1; simp only [Bool.and_eq_true, decide_eq_true_eq] at h1; omega
  · split at h
    · next h1 => unfold isDg at h1; simp only [Bool.and_eq_true, decide_eq_true_eq] at h1; omega
    · split at h
      · next h1 => omega
      · split at h
        · next h1 =>
          unfold isSg at h1
          simp only [List.contains_eq_mem, List.mem_cons, List.not_mem_nil, or_false, decide_eq_true_eq] at h1
          omega
        · cases h
theorem IsWord.first {A R : List UInt8} {t : S33} (h : IsWord A R t) : ∃ c T, A = c :: T ∧ plain c = true := by
  obtain ⟨c, h1, h2⟩ := h.w
  have := h.pos
  match A, this with
  | a :: T, _ =>
    cases h1
    exact ⟨_, _, rfl, word_plain h2⟩

/-- A text without faults, word by word: the line's state, what is left, its place, the tokens. -/
inductive ScanG : Bool → List UInt8 → Nat → List S33 → Prop
  | endF (o : Nat) : ScanG false [] o []
  | endL (o : Nat) : ScanG true [] o [endT o]
  | blank {l : Bool} {c : UInt8} {D : List UInt8} {o : Nat} {ts : List S33} : (c.toNat = 32 ∨ c.toNat = 9) → ScanG l D (o + 1) ts → ScanG l (c :: D) o ts
  | note {l : Bool} {c : UInt8} {C D : List UInt8} {o : Nat} {ts : List S33} : c.toNat = 35 → (∀ x ∈ C, x.toNat ≠ 10) → (∀ x, D[0]? = some x → x.toNat = 10) → ScanG l D (o + 1 + C.length) ts → ScanG l (c :: (C ++ D)) o ts
  | lineL {c : UInt8} {D : List UInt8} {o : Nat} {ts : List S33} : c.toNat = 10 → ScanG false D (o + 1) ts → ScanG true (c :: D) o (endT o :: ts)
  | lineF {c : UInt8} {D : List UInt8} {o : Nat} {ts : List S33} : c.toNat = 10 → ScanG false D (o + 1) ts → ScanG false (c :: D) o ts
  | word {l : Bool} {A R : List UInt8} {t : S33} {o : Nat} {ts : List S33} : IsWord A R t → ScanG true R (o + A.length) ts → ScanG l (A ++ R) o (atQ t o :: ts)

theorem atQ_atQ (t : S33) (a b : Nat) : atQ (atQ t a) b = atQ t b := rfl
/-- Blanks are gone over, however many steps are allowed. -/
theorem skip_fuel {s : ByteArray} {l : Bool} (n : Nat) : ∀ (m p : Nat), s.size < p + n → s.size < p + m → p ≤ s.size → skipB s l n p = skipB s l m p := by
  induction n with
  | zero => intro m p h1 h2 h3; omega
  | succ n ih =>
    intro m p h1 h2 h3
    obtain ⟨m, rfl⟩ : ∃ x, m = x + 1 := ⟨m - 1, by omega⟩
    unfold skipB
    split
    · rfl
    · next c hc =>
      have hlt := byte_lt hc
      rw [ih m (p + 1) (by omega) (by omega) (by omega)]
      split
      · rfl
      · split
        · next h35 =>
          have hr := (runP_yes (p := fun b => b.toNat != 10) (s := s) (i := p) (by unfold atP; rw [hc]; exact bne_iff_ne.mpr (by omega))).1
          have hle := runP_le (fun b => b.toNat != 10) s p (by omega)
          exact ih m _ (by omega) (by omega) hle
        · rfl
theorem runG_same {NX : Nat → Bool → Nx} {p p' : Nat} {l : Bool} (h : NX p l = NX p' l) (n : Nat) : runG NX n p l = runG NX n p' l := by
  cases n with
  | zero => rfl
  | succ n => unfold runG; rw [h]
theorem drop_cons {s : ByteArray} {p : Nat} {c : UInt8} {D : List UInt8} (h : (Ls s).drop p = c :: D) : (Ls s)[p]? = some c ∧ (Ls s).drop (p + 1) = D ∧ p < s.size := by
  have h1 : (Ls s)[p]? = some c := by rw [← Nat.add_zero p, ← List.getElem?_drop, h]; rfl
  refine ⟨h1, ?_, byte_lt h1⟩
  rw [← List.drop_drop, h]
  rfl
theorem nx_of {s : ByteArray} {p q : Nat} {l : Bool} (h : skipB s l (s.size + 1) p = skipB s l (s.size + 1) q) : NXs s p l = NXs s q l := by unfold NXs nextR; rw [h]
theorem nx_blank {s : ByteArray} {p : Nat} {l : Bool} {c : UInt8} {D : List UInt8} (h : (Ls s).drop p = c :: D) (hc : c.toNat = 32 ∨ c.toNat = 9) : NXs s p l = NXs s (p + 1) l := by
  obtain ⟨h1, h2, h3⟩ := drop_cons h
  refine nx_of ?_
  conv => lhs; unfold skipB
  rw [h1]
  dsimp only
  rw [if_pos (by omega)]
  exact skip_fuel _ _ _ (by omega) (by omega) (by omega)
theorem nx_line {s : ByteArray} {p : Nat} {c : UInt8} {D : List UInt8} (h : (Ls s).drop p = c :: D) (hc : c.toNat = 10) : NXs s p false = NXs s (p + 1) false := by
  obtain ⟨h1, h2, h3⟩ := drop_cons h
  refine nx_of ?_
  conv => lhs; unfold skipB
  rw [h1]
  dsimp only
  rw [if_neg (by omega), if_neg (by omega), if_pos (by omega), if_neg (by decide)]
  exact skip_fuel _ _ _ (by omega) (by omega) (by omega)
theorem note_run {s : ByteArray} {p : Nat} {c : UInt8} {C D : List UInt8} (h : (Ls s).drop p = c :: (C ++ D)) (hc : c.toNat = 35) (hC : ∀ x ∈ C, x.toNat ≠ 10) (hD : ∀ x, D[0]? = some x → x.toNat = 10) : runP (fun b => b.toNat != 10) s p = 1 + C.length := by
  unfold runP
  rw [h, List.takeWhile_cons, if_pos (by simp [hc]), List.takeWhile_append_of_pos (fun x hx => by simpa using hC x hx)]
  have : D.takeWhile (fun b => b.toNat != 10) = [] := by
    cases D with
    | nil => rfl
    | cons d D => rw [List.takeWhile_cons, if_neg (by have := hD d rfl; simp [this])]
  rw [this, List.append_nil, List.length_cons, Nat.add_comm]
theorem nx_note {s : ByteArray} {p : Nat} {l : Bool} {c : UInt8} {C D : List UInt8} (h : (Ls s).drop p = c :: (C ++ D)) (hc : c.toNat = 35) (hC : ∀ x ∈ C, x.toNat ≠ 10) (hD : ∀ x, D[0]? = some x → x.toNat = 10) : NXs s p l = NXs s (p + 1 + C.length) l ∧ p + 1 + C.length ≤ s.size ∧ (Ls s).drop (p + 1 + C.length) = D := by
  obtain ⟨h1, h2, h3⟩ := drop_cons h
  have hr := note_run h hc hC hD
  have hle := runP_le (fun b => b.toNat != 10) s p (by omega)
  refine ⟨nx_of ?_, by omega, ?_⟩
  · conv => lhs; unfold skipB
    rw [h1]
    dsimp only
    rw [if_neg (by omega), if_pos (by omega), hr, ← Nat.add_assoc]
    exact skip_fuel _ _ _ (by omega) (by omega) (by omega)
  · rw [← List.drop_drop, h2, List.drop_left]
theorem skip_plain {s : ByteArray} {p : Nat} {l : Bool} {c : UInt8} (h1 : (Ls s)[p]? = some c) (hc : plain c = true) (n : Nat) : skipB s l n p = p := by
  unfold plain at hc
  simp only [Bool.and_eq_true, bne_iff_ne] at hc
  cases n with
  | zero => rfl
  | succ n =>
    unfold skipB
    rw [h1]
    dsimp only
    rw [if_neg (by omega), if_neg (by omega), if_neg (by omega)]
theorem nx_word {s : ByteArray} {p : Nat} {l : Bool} {c : UInt8} {t : S33} {p' : Nat} (h1 : (Ls s)[p]? = some c) (hw : wordR s p c 0 0 = (t, true, p', 0, 0)) : NXs s p l = (t, true, p', true, 0, 0) := by
  have hp := word_plain hw
  unfold NXs nextR
  rw [skip_plain h1 hp]
  unfold nextAt
  rw [h1]
  dsimp only
  unfold plain at hp
  simp only [Bool.and_eq_true, bne_iff_ne] at hp
  rw [if_neg (by omega), hw]
theorem nx_end {s : ByteArray} {p : Nat} {l : Bool} (h : (Ls s)[p]? = none) : NXs s p l = lineR l p 0 0 := by
  have : skipB s l (s.size + 1) p = p := by unfold skipB; rw [h]
  unfold NXs nextR nextAt
  rw [this, h]
theorem nx_lineL {s : ByteArray} {p : Nat} {c : UInt8} (h1 : (Ls s)[p]? = some c) (hc : c.toNat = 10) : NXs s p true = lineR true p 0 0 := by
  have : skipB s true (s.size + 1) p = p := by
    unfold skipB
    rw [h1]
    dsimp only
    rw [if_neg (by omega), if_neg (by omega), if_pos (by omega), if_pos rfl]
  unfold NXs nextR nextAt
  rw [this, h1]
  dsimp only
  rw [if_pos (by omega)]
theorem drop_nil {s : ByteArray} {p : Nat} (h : (Ls s).drop p = []) : (Ls s)[p]? = none := by
  rw [← Nat.add_zero p, ← List.getElem?_drop, h]
  rfl
theorem runG_more {NX : Nat → Bool → Nx} {n p p' : Nat} {l l' : Bool} {t : S33} {ts : List S33} {r : Nat × Bool × Int × Int} (h : NX p l = (t, true, p', l', 0, 0)) (hr : runG NX n p' l' = some (ts, r)) : runG NX (n + 1) p l = some (t :: ts, r) := by
  unfold runG
  rw [h]
  dsimp only
  rw [if_pos rfl, if_pos ⟨rfl, rfl⟩, hr]
  rfl
/-- What is said word by word is what the scanner gives. -/
theorem scan_of_G {s : ByteArray} {l : Bool} {D : List UInt8} {o : Nat} {ts : List S33} (h : ScanG l D o ts) : (Ls s).drop o = D → o ≤ s.size → ∀ n, 2 * (s.size - o) + (if l = true then 1 else 0) < n → ∃ r : Nat × Bool × Int × Int, runG (NXs s) n o l = some (ts, r) ∧ r.2.2.1 = 0 := by
  induction h with
  | endF o =>
    intro hD ho n hn
    obtain ⟨n, rfl⟩ : ∃ x, n = x + 1 := ⟨n - 1, by omega⟩
    have h := nx_end (l := false) (drop_nil hD)
    refine ⟨(o, false, 0, 0), ?_, rfl⟩
    unfold runG
    rw [h]
    rfl
  | endL o =>
    intro hD ho n hn
    rw [if_pos rfl] at hn
    obtain ⟨n, rfl⟩ : ∃ x, n = x + 2 := ⟨n - 2, by omega⟩
    have h := nx_end (l := true) (drop_nil hD)
    have h2 := nx_end (l := false) (drop_nil hD)
    refine ⟨(o, false, 0, 0), runG_more h ?_, rfl⟩
    unfold runG
    rw [h2]
    rfl
  | blank hc h ih =>
    intro hD ho n hn
    obtain ⟨h1, h2, h3⟩ := drop_cons hD
    rw [runG_same (nx_blank hD hc)]
    exact ih h2 (by omega) n (by omega)
  | note hc hC hN h ih =>
    intro hD ho n hn
    obtain ⟨h1, h2, h3⟩ := nx_note (s := s) hD hc hC hN
    rw [runG_same h1]
    exact ih h3 h2 n (by omega)
  | @lineL c D o ts hc h ih =>
    intro hD ho n hn
    rw [if_pos rfl] at hn
    obtain ⟨h1, h2, h3⟩ := drop_cons hD
    obtain ⟨n, rfl⟩ : ∃ x, n = x + 1 := ⟨n - 1, by omega⟩
    obtain ⟨r, hr, h0⟩ := ih h2 (by omega) n (by rw [if_neg (by decide)]; omega)
    refine ⟨r, runG_more (nx_lineL h1 hc) ?_, h0⟩
    rw [runG_same (nx_line hD hc)]
    exact hr
  | lineF hc h ih =>
    intro hD ho n hn
    obtain ⟨h1, h2, h3⟩ := drop_cons hD
    rw [runG_same (nx_line hD hc)]
    exact ih h2 (by omega) n (by omega)
  | @word l A R t o ts hw h ih =>
    intro hD ho n hn
    have hpos := hw.pos
    obtain ⟨c, h1, h2⟩ := hw.at_ (Calm.refl R) hD
    have hlen := congrArg List.length hD
    rw [List.length_drop, Ls_len, List.length_append] at hlen
    obtain ⟨n, rfl⟩ : ∃ x, n = x + 1 := ⟨n - 1, by omega⟩
    obtain ⟨r, hr, h0⟩ := ih (by rw [← List.drop_drop, hD, List.drop_left]) (by omega) n (by rw [if_pos rfl]; omega)
    exact ⟨r, runG_more (nx_word h1 h2) hr, h0⟩

/-! ### and back -/
theorem drop_at {s : ByteArray} {p : Nat} {c : UInt8} (h : (Ls s)[p]? = some c) : (Ls s).drop p = c :: (Ls s).drop (p + 1) := by
  obtain ⟨hl, e⟩ := List.getElem?_eq_some_iff.1 h
  rw [List.drop_eq_getElem_cons hl, e]
theorem drop_none {s : ByteArray} {p : Nat} (h : (Ls s)[p]? = none) : (Ls s).drop p = [] := List.drop_of_length_le (List.getElem?_eq_none_iff.1 h)
theorem skip_G {s : ByteArray} {l : Bool} {ts : List S33} (n : Nat) : ∀ p, p ≤ s.size → ScanG l ((Ls s).drop (skipB s l n p)) (skipB s l n p) ts → ScanG l ((Ls s).drop p) p ts := by
  induction n with
  | zero => intro p _ h; exact h
  | succ n ih =>
    intro p hp h
    unfold skipB at h
    split at h
    · exact h
    · next c hc =>
      have hlt := byte_lt hc
      split at h
      · next h1 =>
        rw [drop_at hc]
        exact .blank (by omega) (ih _ (by omega) h)
      · split at h
        · next h1 h35 =>
          have hle := runP_le (fun b => b.toNat != 10) s p (by omega)
          have h2 := ih _ hle h
          have hall : ∀ x ∈ ((Ls s).drop p).takeWhile (fun b => b.toNat != 10), x.toNat ≠ 10 := fun x hx => by
            have := List.all_eq_true.1 (List.all_takeWhile (l := (Ls s).drop p) (p := fun b => b.toNat != 10)) x hx
            simpa using this
          have hsplit := (List.takeWhile_append_dropWhile (p := fun b : UInt8 => b.toNat != 10) (l := (Ls s).drop p))
          have hdw : ((Ls s).drop p).dropWhile (fun b => b.toNat != 10) = (Ls s).drop (p + runP (fun b => b.toNat != 10) s p) := by
            rw [← List.drop_drop]
            unfold runP
            generalize (Ls s).drop p = L at hsplit ⊢
            conv => rhs; rw [← hsplit]
            exact (List.drop_left' (by rw [hsplit])).symm
          have hfirst : ∀ x, (((Ls s).drop p).dropWhile (fun b => b.toNat != 10))[0]? = some x → x.toNat = 10 := fun x hx => by
            have := List.head?_dropWhile_not (fun b : UInt8 => b.toNat != 10) ((Ls s).drop p)
            rw [List.head?_eq_getElem?, hx] at this
            simpa using this
          have hr : runP (fun b => b.toNat != 10) s p = (((Ls s).drop p).takeWhile (fun b => b.toNat != 10)).length := rfl
          rw [drop_at hc] at hsplit hall hdw hfirst hr ⊢
          rw [List.takeWhile_cons, if_pos (by simp; omega)] at hsplit hall hr
          rw [List.length_cons] at hr
          rw [List.cons_append] at hsplit
          rw [← hsplit]
          refine .note (by omega) (fun x hx => hall x (List.mem_cons_of_mem _ hx)) hfirst ?_
          rw [hdw]
          have e : p + 1 + (((Ls s).drop (p + 1)).takeWhile (fun b => b.toNat != 10)).length = p + runP (fun b => b.toNat != 10) s p := by omega
          rw [e]
          exact h2
        · split at h
          · next h1 h35 h10 =>
            cases l with
            | true => exact h
            | false =>
              rw [if_neg (by decide)] at h
              rw [drop_at hc]
              exact .lineF (by omega) (ih _ (by omega) h)
          · exact h
theorem G_nil {D : List UInt8} {o : Nat} {ts : List S33} (h : ScanG false D o ts) (hD : D = []) : ts = [] := by
  cases h with
  | endF => rfl
  | blank => cases hD
  | note => cases hD
  | lineF => cases hD
  | word hw => have := hw.pos; rw [(List.append_eq_nil_iff.1 hD).1] at this; cases this
theorem G_line {D D2 : List UInt8} {c : UInt8} {o : Nat} {ts : List S33} (h : ScanG false D2 o ts) (hD : D2 = c :: D) (hc : c.toNat = 10) : ScanG false D (o + 1) ts := by
  cases h with
  | endF => cases hD
  | blank h1 => cases hD; omega
  | note h1 => cases hD; omega
  | lineF _ h => cases hD; exact h
  | word hw =>
    obtain ⟨d, T, rfl, hp⟩ := hw.first
    cases hD
    unfold plain at hp
    simp only [Bool.and_eq_true, bne_iff_ne] at hp
    omega
theorem runG_inv {NX : Nat → Bool → Nx} {n p p' : Nat} {l l' : Bool} {t : S33} {ts : List S33} {r : Nat × Bool × Int × Int} (h : NX p l = (t, true, p', l', 0, 0)) (hr : runG NX (n + 1) p l = some (ts, r)) : ∃ ts', ts = t :: ts' ∧ runG NX n p' l' = some (ts', r) := by
  unfold runG at hr
  simp only [h] at hr
  rw [if_pos trivial, if_pos ⟨trivial, trivial⟩] at hr
  obtain ⟨⟨ts', r'⟩, h1, h2⟩ := Option.bind_eq_some_iff.1 hr
  cases h2
  exact ⟨ts', rfl, h1⟩
theorem runG_stop {NX : Nat → Bool → Nx} {n p : Nat} {l : Bool} {t : S33} {ts : List S33} {r r' : Nat × Bool × Int × Int} (h : NX p l = (t, false, r')) (hr : runG NX (n + 1) p l = some (ts, r)) : ts = [] ∧ r = r' := by
  unfold runG at hr
  simp only [h] at hr
  rw [if_neg (by decide)] at hr
  cases hr
  exact ⟨rfl, rfl⟩
theorem G_of_scan {s : ByteArray} (n : Nat) : ∀ (p : Nat) (l : Bool) (ts : List S33) (r : Nat × Bool × Int × Int), p ≤ s.size → runG (NXs s) n p l = some (ts, r) → r.2.2.1 = 0 → ScanG l ((Ls s).drop p) p ts := by
  induction n with
  | zero => intro p l ts r _ h; cases h
  | succ n ih =>
    intro p l ts r hp h h0
    obtain ⟨hge, hat⟩ := skip_at (s := s) l (s.size + 1) p (by omega) hp
    have hle := skip_le (s := s) l (s.size + 1) p hp
    have hN : NXs s p l = nextAt s (skipB s l (s.size + 1) p) l 0 0 := rfl
    refine skip_G (s.size + 1) p hp ?_
    generalize skipB s l (s.size + 1) p = q at *
    unfold nextAt at hN
    cases hb : (Ls s)[q]? with
    | none =>
      rw [hb] at hN
      dsimp only at hN
      cases l with
      | false =>
        have hN : NXs s p false = (⟨0, 0, ⟨#[]⟩, 0, 0⟩, false, q, false, 0, 0) := hN
        obtain ⟨rfl, rfl⟩ := runG_stop hN h
        rw [drop_none hb]
        exact .endF q
      | true =>
        have hN : NXs s p true = (endT q, true, q, false, 0, 0) := hN
        obtain ⟨ts', rfl, h1⟩ := runG_inv hN h
        have h3 := ih q false ts' r (by omega) h1 h0
        have := G_nil h3 (drop_none hb)
        subst this
        rw [drop_none hb]
        exact .endL q
    | some c =>
      obtain ⟨a1, a2, a3⟩ := hat c hb
      have hlt := byte_lt hb
      rw [hb] at hN
      dsimp only at hN
      by_cases h10 : (c.toNat : Int) = 10
      · obtain rfl := a3 h10
        rw [if_pos h10] at hN
        have hN : NXs s p true = (endT q, true, q, false, 0, 0) := hN
        obtain ⟨ts', rfl, h1⟩ := runG_inv hN h
        have h3 := ih q false ts' r (by omega) h1 h0
        rw [drop_at hb] at h3 ⊢
        exact .lineL (by omega) (G_line h3 rfl (by omega))
      · rw [if_neg h10] at hN
        have hF := word_fine hb
        have hwl := word_le (s := s) (p := q) c 0 0 hlt
        generalize hw : wordR s q c 0 0 = w at *
        obtain ⟨t, ok, p', e3, e4⟩ := w
        cases ok with
        | false =>
          have := hF.no rfl
          have hN : NXs s p l = (t, false, p', true, e3, e4) := hN
          obtain ⟨rfl, rfl⟩ := runG_stop hN h
          exact absurd h0 this
        | true =>
          obtain ⟨f1, f2, f3, f4⟩ := hF.ok rfl
          have f1 : t.f1 = (q : Int) := f1
          have f2 : q < p' := f2
          obtain rfl : e3 = 0 := f3
          obtain rfl : e4 = 0 := f4
          have hwl : p' ≤ s.size := hwl
          have hN : NXs s p l = (t, true, p', true, 0, 0) := hN
          obtain ⟨ts', rfl, h1⟩ := runG_inv hN h
          have h3 := ih p' true ts' r (by omega) h1 h0
          have hsplit : (Ls s).drop q = ((Ls s).drop q).take (p' - q) ++ (Ls s).drop p' := by
            conv => lhs; rw [← List.take_append_drop (p' - q) ((Ls s).drop q)]
            rw [List.drop_drop, show q + (p' - q) = p' by omega]
          have hlen : (((Ls s).drop q).take (p' - q)).length = p' - q := by
            rw [List.length_take, List.length_drop, Ls_len]; omega
          have hI := IsWord.of hsplit (by omega) hb (t := t) (by rw [hlen, show q + (p' - q) = p' by omega]; exact hw)
          have e : t = atQ (atQ t 0) q := by
            cases t
            simp only [atQ] at *
            rw [f1]
          rw [hsplit, e]
          refine .word hI ?_
          rw [hlen, show q + (p' - q) = p' by omega]
          exact h3
/-- What Scan takes, said word by word. -/
theorem scan_iff (s : ByteArray) (ts : List S33) (x : Int) (hx : ∃ r, words_Scan.f s = some r) : words_Scan.f s = some (ts, x, 0) ↔ s.size ≤ 8000 ∧ x = 0 ∧ ScanG false (Ls s) 0 ts := by
  constructor
  · intro h
    unfold words_Scan.f at h
    split at h
    · cases h
    · next hs =>
      obtain ⟨q, hq, h2⟩ := Option.bind_eq_some_iff.1 h
      simp only [Option.some.injEq, Prod.mk.injEq] at h2
      obtain ⟨h3, h4, h5⟩ := h2
      rw [if_pos h5] at h3 h4
      refine ⟨by omega, h4.symm, ?_⟩
      have := G_of_scan (s := s) _ 0 false q.1 q.2 (by omega) hq h5
      rw [h3] at this
      exact this
  · rintro ⟨hs, rfl, hG⟩
    obtain ⟨r, hr, h0⟩ := scan_of_G (s := s) hG rfl (by omega) (2 * s.size + 2) (by rw [if_neg (by decide)]; omega)
    unfold words_Scan.f
    rw [if_neg (by omega), hr]
    simp only [Option.bind_some]
    rw [if_pos h0, if_pos h0, h0]
end Go.Proofs.YtidbcenbcllfnaaDoor.Gr
