/- Several texts of this claim in one, each in a section of its own; what nothing reaches is left out. Conditions: each law's own. -/
import Derived.Test.YtgcgpeeokdnplaaDoorBG
import Derived.KernelRfl
import Derived.Test.YtgcgpeeokdnplaaDoorBPAx0
import Derived.Test.YtgcgpeeokdnplaaDoorBL
import Derived.Test.YtgcgpeeokdnplaaDoorBPAx4
import Derived.Test.YtgcgpeeokdnplaaDoorBHWr
import Derived.Test.YtgcgpeeokdnplaaDoorBPAx33
import Derived.Deep.Slices
import Derived.ChangeArms
import Derived.Carry
section
/- The chapter's example is scanned as the chapter says. No condition. -/
namespace Go.Proofs.YtgcgpeeokdnplaaDoor.Gr
open Go.RowKit Go.Proofs.YtgcgpeeokdnplaaDoorW.PrintWords Go.Proofs.YtgcgpeeokdnplaaDoorW.PrintLast Go.Proofs.YtgcgpeeokdnplaaDoor.PA
set_option linter.unusedVariables false
/-- The example's text. -/
abbrev exT : ByteArray := ⟨#[116, 97, 120, 32, 61, 32, 55, 46, 50, 53, 37, 32, 42, 32, 112, 97, 121, 32, 45, 32, 49, 50, 46, 48, 48, 32, 35, 32, 110, 101, 116]⟩
/-- Its words. -/
abbrev exW : List S30 := [⟨1, 0, ⟨#[116, 97, 120]⟩, 0, 0⟩, ⟨7, 4, ⟨#[61]⟩, 0, 0⟩, ⟨4, 6, ⟨#[]⟩, 29, 400⟩, ⟨7, 12, ⟨#[42]⟩, 0, 0⟩, ⟨1, 14, ⟨#[112, 97, 121]⟩, 0, 0⟩, ⟨7, 18, ⟨#[45]⟩, 0, 0⟩, ⟨2, 20, ⟨#[]⟩, 1200, 0⟩, ⟨8, 31, ⟨#[]⟩, 0, 0⟩]
theorem ex_scan : words_Scan.f exT = some (exW, 0, 0) := by kernel_rfl
theorem ex_bad : words_Scan.f ⟨#[97, 32, 33]⟩ = some ([], 2, 41) := by kernel_rfl
theorem known_ev : ∃ K, ∀ k, K ≤ k → levylaw4_known.f k = some true := by
  obtain ⟨K, hK⟩ := same_refl exW (by show 8 < 1000000; omega)
  refine ⟨K, fun k hk => ?_⟩
  have h := hK k hk
  dsimp only at h
  unfold levylaw4_known.f levylaw4_num.f
  have e1 := ex_scan
  have e2 := ex_bad
  unfold exT at e1
  rw [e1, Option.bind_some, e2, Option.bind_some, Option.bind_some, if_pos rfl, if_pos rfl]
  show (levylaw4_same.f k exW exW).bind _ = _
  rw [h]
  rfl
end Go.Proofs.YtgcgpeeokdnplaaDoor.Gr
end
section
/- Dates: a day's text is read as that day, and every date that is read is the text of its day. Conditions: each law's own. -/
namespace Go.Proofs.YtgcgpeeokdnplaaDoor.Gr
open Go.RowKit Go.Proofs.YtgcgpeeokdnplaaDoorW.PrintWords Go.Proofs.YtgcgpeeokdnplaaDoorW.PrintLast Go.Proofs.YtgcgpeeokdnplaaDoor.PA Go.Proofs.YtgcgpeeokdnplaaDoor.Days
set_option linter.unusedVariables false
set_option linter.unusedSectionVars false
theorem parse_ok {s : ByteArray} (hs : s.size = 10) (h : (parseS s).2.2 = 0) : ∀ j, j < 10 → okAt s j = true := by
  have key : ∀ n, n ≤ 10 → ∀ j, j < n → okAt s j = true := by
    intro n
    induction n with
    | zero => intro _ j hj; omega
    | succ n ih =>
      intro hn j hj
      have h0 := ih (by omega)
      by_cases hjn : j < n
      · exact h0 j hjn
      · obtain rfl : j = n := by omega
        cases e : okAt s j with
        | true => rfl
        | false =>
          rw [parse_bad (by omega) (by omega) h0 e] at h
          cases h
  exact key 10 (Nat.le_refl _)
theorem okAt_dated {s : ByteArray} {j : Nat} (hj : j < 10) (h : j < s.size) : okAt s j = datedT s 0 j := by
  obtain ⟨b, hb⟩ := byte_some s h
  have e := (bt_of s hb).1
  unfold okAt datedT dash atP
  rw [Nat.zero_add, hb, e]
  have b45 : ((b.toNat : Int) == 45) = (b.toNat == 45) := by
    rw [Bool.eq_iff_iff, beq_iff_eq, beq_iff_eq]
    omega
  by_cases h4 : j = 4
  · subst h4
    simp only [beq_self_eq_true, Bool.true_or, if_true, true_or]
    exact b45
  · by_cases h7 : j = 7
    · subst h7
      simp only [beq_self_eq_true, Bool.or_true, if_true, or_true]
      exact b45
    · have e1 : (j == 4 || j == 7) = false := by simp [h4, h7]
      rw [e1, if_neg (by decide), if_neg (by omega)]
      unfold isDg
      have h1 : (48 ≤ (b.toNat : Int)) ↔ 48 ≤ b.toNat := by omega
      have h2 : ((b.toNat : Int) ≤ 57) ↔ b.toNat ≤ 57 := by omega
      simp only [h1, h2]
theorem dated_of {s : ByteArray} (hs : s.size = 10) (h : ∀ j, j < 10 → okAt s j = true) : datedB s 0 = true := by
  have : ∀ d i, i + d = 10 → datedGo s 0 d i = true := by
    intro d
    induction d with
    | zero => intro i _; rfl
    | succ d ih =>
      intro i hi
      unfold datedGo
      rw [if_pos (by rw [← okAt_dated (by omega) (by omega)]; exact h i (by omega))]
      exact ih _ (by omega)
  exact this 10 0 rfl
/-- A day's text is read as that day. -/
theorem day_mk {n : Int} (h : 0 ≤ n ∧ n ≤ 109572) : (dayT n).size = 10 ∧ datedB (dayT n) 0 = true ∧ (parseS (dayT n)).1 = n ∧ (parseS (dayT n)).2.2 = 0 := by
  obtain ⟨q, hq⟩ := Cal.mon_exists h.1 h.2
  have hq36 := hq.1
  have hl := hq.len
  have hlow := hq.2.1
  have hlb := Cal.len_bd q
  have hp := parse_text (y := (dateS n q).1) (m := (dateS n q).2.1) (d := (dateS n q).2.2) (by unfold dateS; simp only; omega) (by unfold dateS; simp only; omega) (by unfold dateS; simp only; omega) (by unfold dateS; simp only; omega) (by unfold dateS; simp only; omega) (by unfold dateS; simp only; omega)
  have hn : numS (dateS n q).1 (dateS n q).2.1 (dateS n q).2.2 = (n, 0) := by
    have := numS_ok (q := q) hq36 (d := n - Cal.B q + 1) (by omega) (by omega)
    unfold dateS
    dsimp only
    rw [this]
    congr 1
    omega
  rw [hn, if_pos rfl] at hp
  have hs : (dayT n).size = 10 := by unfold dayT; rw [strOfNums_size]; rfl
  have e : parseS (dayT n) = (n, 10, 0) := by
    unfold dayT
    rw [monOf_eq hq]
    exact hp
  rw [e]
  refine ⟨hs, ?_, rfl, rfl⟩
  exact dated_of hs (parse_ok hs (by rw [e]))
end Go.Proofs.YtgcgpeeokdnplaaDoor.Gr
end
section
/- words.written and the words: what it writes is a word, and every word is written as it stood. Conditions: each law's own. -/
namespace Go.Proofs.YtgcgpeeokdnplaaDoor.Gr
open Go.RowKit Go.Proofs.YtgcgpeeokdnplaaDoorW.PrintWords Go.Proofs.YtgcgpeeokdnplaaDoorW.PrintLast Go.Proofs.YtgcgpeeokdnplaaDoor.PA Go.Proofs.YtgcgpeeokdnplaaDoor.Dig Go.Lib
open Go.Proofs.YtgcgpeeokdnplaaDoor.Pure (amountL qs)
set_option linter.unusedVariables false
set_option linter.unusedSectionVars false
set_option linter.unusedSimpArgs false
theorem word_len {A : List UInt8} {t : S30} (h : IsWord A [] t) : A.length ≤ 200 := by
  rcases word_inv h with ⟨h1, _⟩ | ⟨n, h1, rfl, _⟩ | ⟨n, h1, rfl, _⟩ | ⟨n, d, h1, rfl, _⟩ | ⟨h1, _⟩ | ⟨b, h1, rfl, _⟩ | ⟨h1, _⟩
  · have := h1.le; omega
  · have := dec_len20 (u := n / 100) (by omega)
    unfold amountA
    rw [List.length_append]
    simp
    omega
  · have := dec_length (u := n) (k := 10) (by omega) (by decide)
    omega
  · have := per_len h1
    omega
  · omega
  · have : ∀ l : List UInt8, (escs l).length ≤ 2 * l.length := by
      intro l
      induction l with
      | nil => exact Nat.le_refl _
      | cons x l ih =>
        show (esc x ++ escs l).length ≤ _
        rw [List.length_append, List.length_cons]
        unfold esc
        split <;> simp <;> omega
    have h2 := this b
    have h3 := h1.le
    unfold quotedA
    rw [List.length_cons, List.length_append]
    simp
    omega
  · rcases h1 with rfl | rfl | rfl | ⟨c, rfl, _⟩ <;> simp
theorem qs_yes {l : List UInt8} : ∀ acc : List UInt8, (∀ x ∈ l, 32 ≤ x.toNat ∧ x.toNat ≤ 126) → qs l acc = (B (acc ++ (escs l ++ [34])), true) := by
  induction l with
  | nil => intro acc _; show (B (acc ++ [34]), true) = _; rfl
  | cons b l ih =>
    intro acc h
    have hb := h b (by simp)
    show (if b.toNat < 32 ∨ 126 < b.toNat then _ else qs l (acc ++ Pure.esc b)) = _
    rw [if_neg (by omega), ih _ (fun x hx => h x (by simp [hx]))]
    show (B ((acc ++ esc b) ++ (escs l ++ [34])), true) = (B (acc ++ ((esc b ++ escs l) ++ [34])), true)
    simp
theorem qs_inv {l : List UInt8} : ∀ acc : List UInt8, (qs l acc).2 = true → ∀ x ∈ l, 32 ≤ x.toNat ∧ x.toNat ≤ 126 := by
  induction l with
  | nil => intro acc _ x hx; cases hx
  | cons b l ih =>
    intro acc h
    have e : qs (b :: l) acc = (if b.toNat < 32 ∨ 126 < b.toNat then ((⟨#[]⟩ : ByteArray), false) else qs l (acc ++ Pure.esc b)) := rfl
    rw [e] at h
    split at h
    · cases h
    · intro x hx
      rcases List.mem_cons.1 hx with rfl | hx
      · omega
      · exact ih _ h x hx
theorem quote_yes {b : List UInt8} (h : TextOk b) : quoteT (bA b) = (bA (quotedA b), true) := by
  unfold quoteT
  have hs : (bA b).size = b.length := bA_size b
  have := h.le
  rw [if_neg (by omega)]
  show qs b [34] = _
  rw [qs_yes _ h.pr]
  rfl
theorem quote_inv {s : ByteArray} (h : (quoteT s).2 = true) : TextOk (Ls s) := by
  unfold quoteT at h
  split at h
  · cases h
  · next h1 => exact ⟨by rw [Ls_len]; omega, qs_inv _ h⟩
theorem named_iff {s : ByteArray} : namedB s = true ↔ Named (Ls s) := by
  unfold namedB
  constructor
  · intro h
    simp only [Bool.and_eq_true, decide_eq_true_eq] at h
    obtain ⟨h1, h2, h3, h4⟩ := h
    refine ⟨fun x hx => List.all_eq_true.1 h1 x hx, by rw [Ls_len]; exact h3, ?_⟩
    unfold atP at h4
    split at h4
    · next b hb =>
      have := drop_at hb
      rw [List.drop_zero] at this
      exact ⟨b, _, this, h4⟩
    · cases h4
  · intro h
    obtain ⟨c, T, hc, hl⟩ := h.lt
    have h1 : (Ls s).all isWd = true := List.all_eq_true.2 h.wd
    have h2 : (Ls s).length = s.size := Ls_len s
    have h3 := h.le
    have h4 : 1 ≤ s.size := by rw [← h2, hc]; simp
    have h5 : atP isLt s 0 = true := by unfold atP; rw [hc]; exact hl
    rw [h1, h5, decide_eq_true h4, decide_eq_true (by omega)]
    rfl
theorem signed_iff {s : ByteArray} : signedB s = true ↔ SignOk (Ls s) := by
  unfold signedB SignOk
  rw [toList_Ls]
  constructor
  · intro h
    simp only [Bool.or_eq_true, Bool.and_eq_true, decide_eq_true_eq, Bool.not_eq_true', decide_eq_false_iff_not] at h
    rcases h with h | h | h | ⟨h1, h2, h3⟩
    · exact .inl h
    · exact .inr (.inl h)
    · exact .inr (.inr (.inl h))
    · right; right; right
      unfold atP at h3
      split at h3
      · next b hb =>
        have h4 := drop_at hb
        rw [List.drop_zero, List.drop_of_length_le (by rw [Ls_len]; omega)] at h4
        refine ⟨b, h4, h3, fun h33 => h2 ?_⟩
        rw [h4, show b = 33 from UInt8.toNat_inj.mp h33]
      · cases h3
  · rintro (h | h | h | ⟨c, hc, hs, h33⟩)
    · rw [h]; rfl
    · rw [h]; rfl
    · rw [h]; rfl
    · have hl : s.size = 1 := by rw [← Ls_len, hc]; rfl
      have h5 : atP isSg s 0 = true := by unfold atP; rw [hc]; exact hs
      have h6 : ¬ ([c] = [33]) := fun e => h33 (by cases e; rfl)
      rw [h5, hc, decide_eq_true hl, decide_eq_false h6]
      simp
theorem low_iff {n d : Nat} (hd : 1 ≤ d) : ((((max (Nat.gcd n d) 1 : Nat) : Int) == 1) = true) ↔ Nat.gcd n d = 1 := by
  have hg : 0 < Nat.gcd n d := Nat.gcd_pos_of_pos_right _ hd
  rw [Nat.max_eq_left hg, beq_iff_eq]
  omega
theorem empty_iff {s : ByteArray} : s.toList.isEmpty = true ↔ s = ⟨#[]⟩ := by rw [toList_isEmpty]; exact decide_eq_true_iff
/-- What is written is a word. -/
theorem wr_word {t : S30} (h8 : t.f0 ≠ 8) (h : (wrR t).2 = true) : IsWord (Ls (wrR t).1) [] (atQ t 0) := by
  obtain ⟨f0, f1, f2, f3, f4⟩ := t
  unfold wrR at h ⊢
  dsimp only at h h8 ⊢
  unfold atQ
  dsimp only
  by_cases e1 : f0 = 1
  · subst e1
    rw [if_pos rfl] at h ⊢
    simp only [Bool.and_eq_true, beq_iff_eq] at h
    obtain ⟨h1, rfl, rfl⟩ := h
    exact name_mk (named_iff.1 h1)
  rw [if_neg e1] at h ⊢
  by_cases e2 : f0 = 2
  · subst e2
    rw [if_pos rfl] at h ⊢
    simp only [Bool.and_eq_true, decide_eq_true_eq, beq_iff_eq] at h
    obtain ⟨⟨h1, h2⟩, h3, rfl⟩ := h
    obtain rfl := empty_iff.1 h3
    obtain ⟨n, rfl⟩ : ∃ n : Nat, f3 = n := ⟨f3.toNat, by omega⟩
    have : Ls (B (amountL (decide ((n : Int) < 0)) (n : Int).natAbs)) = amountA n := by
      rw [decide_eq_false (by omega)]
      rfl
    dsimp only
    rw [this]
    exact amount_mk (by omega)
  rw [if_neg e2] at h ⊢
  by_cases e3 : f0 = 3
  · subst e3
    rw [if_pos rfl] at h ⊢
    simp only [Bool.and_eq_true, decide_eq_true_eq, beq_iff_eq] at h
    obtain ⟨⟨h1, h2⟩, h3, rfl⟩ := h
    obtain rfl := empty_iff.1 h3
    obtain ⟨n, rfl⟩ : ∃ n : Nat, f3 = n := ⟨f3.toNat, by omega⟩
    have : Ls (⟨(Lib.itoa (n : Int)).toArray⟩ : ByteArray) = decDigits n := by rw [itoa_nonneg]
    dsimp only
    rw [this]
    exact count_mk (by omega)
  rw [if_neg e3] at h ⊢
  by_cases e4 : f0 = 4
  · subst e4
    rw [if_pos rfl] at h ⊢
    simp only [Bool.and_eq_true] at h
    obtain ⟨⟨h1, h2⟩, h3⟩ := h
    obtain rfl := empty_iff.1 h3
    obtain ⟨n, d, rfl, rfl, hn, hd, hd9, hw, ht⟩ := perT_yes h1
    rw [Int.toNat_natCast, Int.toNat_natCast] at h2
    dsimp only
    rw [ht]
    exact per_mk ⟨hn, hd, hd9, (low_iff hd).1 h2, hw⟩
  rw [if_neg e4] at h ⊢
  by_cases e5 : f0 = 5
  · subst e5
    rw [if_pos rfl] at h ⊢
    dsimp only at h ⊢
    split at h
    · cases h
    · next hd =>
      rw [if_neg hd]
      simp only [Bool.and_eq_true, beq_iff_eq] at h
      obtain ⟨h1, rfl⟩ := h
      obtain rfl := empty_iff.1 h1
      obtain ⟨d1, d2, d3, d4⟩ := day_mk (n := f3) (by omega)
      have := date_mk (A := Ls (dayT f3)) (by rw [Ls_len]; exact d1) d2 d4
      rw [bA_Ls, d3] at this
      exact this
  rw [if_neg e5] at h ⊢
  by_cases e6 : f0 = 6
  · subst e6
    rw [if_pos rfl] at h ⊢
    simp only [Bool.and_eq_true, beq_iff_eq] at h
    obtain ⟨h1, rfl, rfl⟩ := h
    have hq := quote_inv h1
    have := quote_yes hq
    rw [bA_Ls] at this
    dsimp only
    rw [this]
    have h2 := txt_mk_word hq
    rw [bA_Ls] at h2
    exact h2
  rw [if_neg e6] at h ⊢
  by_cases e7 : f0 = 7
  · subst e7
    rw [if_pos rfl] at h ⊢
    simp only [Bool.and_eq_true, beq_iff_eq] at h
    obtain ⟨h1, rfl, rfl⟩ := h
    exact sign_mk (signed_iff.1 h1)
  rw [if_neg e7, if_neg h8] at h
  cases h
theorem wr_line {t : S30} (h8 : t.f0 = 8) : (wrR t).1 = ⟨#[10]⟩ ∧ ((wrR t).2 = true ↔ atQ t 0 = endT 0) := by
  obtain ⟨f0, f1, f2, f3, f4⟩ := t
  dsimp only at h8
  subst h8
  unfold wrR
  dsimp only
  rw [if_neg (by decide), if_neg (by decide), if_neg (by decide), if_neg (by decide), if_neg (by decide), if_neg (by decide), if_neg (by decide), if_pos rfl]
  refine ⟨rfl, ?_⟩
  simp only [Bool.and_eq_true, beq_iff_eq, empty_iff]
  constructor
  · rintro ⟨rfl, rfl, rfl⟩
    rfl
  · intro e
    simp only [atQ, endT] at e
    cases e
    exact ⟨rfl, rfl, rfl⟩
/-! ### lists -/
theorem of_prGo (ts : List S30) : ∀ (g : Bool) (acc acc' : List UInt8), prGo g acc ts = some (some (acc', false)) → ∃ D, acc' = acc ++ D ∧ PrG g ts D := by
  induction ts with
  | nil =>
    intro g acc acc' h
    cases h
    exact ⟨[], (List.append_nil _).symm, .nil⟩
  | cons t ts ih =>
    intro g acc acc' h
    obtain ⟨hin, ⟨_, h2⟩ | ⟨h1, h2, h3, h4, h5⟩⟩ := prGo_cons h
    · cases h2
    · obtain ⟨D, hD, hP⟩ := ih _ _ _ h5
      by_cases h8 : t.f0 = 8
      · have n8 : (t.f0 != 8) = false := bne_eq_false_iff_eq.mpr h8
        obtain rfl := h2 h8
        obtain ⟨l1, l2⟩ := wr_line h8
        rw [n8] at hP
        rw [if_neg (fun h => h.2 h8), List.nil_append, l1] at hD
        refine ⟨10 :: D, ?_, .line (l2.1 h1) hP⟩
        rw [hD]
        show (acc ++ [10]) ++ D = _
        simp
      · have n8 : (t.f0 != 8) = true := bne_iff_ne.mpr h8
        have hw := wr_word h8 h1
        rw [n8] at hP
        cases g with
        | false =>
          rw [if_neg (fun h => by cases h.1), List.nil_append] at hD
          exact ⟨_, by rw [hD, List.append_assoc], .word0 hw hP⟩
        | true =>
          rw [if_pos ⟨rfl, h8⟩] at hD
          exact ⟨_, by rw [hD]; simp, .word1 hw hP⟩
theorem prGo_total (ts : List S30) : ∀ (g : Bool) (acc : List UInt8), (∀ t ∈ ts, tokIn t = true) → acc.length + 1001 * ts.length ≤ 1000000000 → ∃ R, prGo g acc ts = some R := by
  induction ts with
  | nil => intro g acc _ _; exact ⟨_, rfl⟩
  | cons t ts ih =>
    intro g acc hin hl
    rw [List.length_cons] at hl
    unfold prGo
    rw [if_pos (hin t (by simp))]
    by_cases hb : (wrR t).2 = false ∨ (t.f0 = 8 ∧ g = false)
    · rw [if_pos hb]; exact ⟨_, rfl⟩
    · rw [if_neg hb]
      obtain ⟨h1, _⟩ := not_or.mp hb
      have h1 : (wrR t).2 = true := by simpa using h1
      have hlen : (Ls (wrR t).1).length ≤ 1000 := by
        by_cases h8 : t.f0 = 8
        · rw [(wr_line h8).1]
          show 1 ≤ 1000
          omega
        · have := word_len (wr_word h8 h1)
          omega
      rw [if_pos ⟨hlen, by omega⟩]
      refine ih _ _ (fun u hu => hin u (by simp [hu])) ?_
      rw [List.length_append, List.length_append]
      split <;> simp only [List.length_cons, List.length_nil] <;> omega
/-- What Print says where it takes the list. -/
theorem print_ok {l : List S30} {s : ByteArray} (h : words_Print.f l = some (s, 0)) : s.size ≤ 8000 ∧ PrG false l (Ls s) := by
  unfold words_Print.f at h
  obtain ⟨R, hR, hr⟩ := Option.map_eq_some_iff.1 h
  split at hR
  · match R, hr with
    | none, hr => cases hr
    | some (acc, g), hr =>
      dsimp only at hr
      split at hr
      · cases hr
      · next hg =>
        obtain ⟨h1, h2⟩ := not_or.mp hg
        cases g with
        | true => exact absurd rfl h1
        | false =>
          simp only [Prod.mk.injEq] at hr
          obtain ⟨rfl, _⟩ := hr
          obtain ⟨D, rfl, hP⟩ := of_prGo _ _ _ _ hR
          refine ⟨by rw [bA_size]; omega, ?_⟩
          rw [Ls_bA]
          exact hP
  · cases hR
theorem print_err {l : List S30} {s : ByteArray} {e : Int} (h : words_Print.f l = some (s, e)) (he : e ≠ 0) : s = ⟨#[]⟩ := by
  unfold words_Print.f at h
  obtain ⟨R, hR, hr⟩ := Option.map_eq_some_iff.1 h
  match R, hr with
  | none, hr => cases hr; rfl
  | some (acc, g), hr =>
    dsimp only at hr
    split at hr
    · cases hr; rfl
    · cases hr; exact absurd rfl he
end Go.Proofs.YtgcgpeeokdnplaaDoor.Gr
end
section
/- WordsBack, the plain law: any list of tokens that Print takes is scanned as it was. Conditions: the list is such as Go's can be, of at most 65536 tokens or the law says nothing. -/
namespace Go.Proofs.YtgcgpeeokdnplaaDoor.Gr
open Go.RowKit Go.Proofs.YtgcgpeeokdnplaaDoorW.PrintWords Go.Proofs.YtgcgpeeokdnplaaDoorW.PrintLast Go.Proofs.YtgcgpeeokdnplaaDoor.PA
set_option linter.unusedVariables false
theorem bare_p (l : List S30) (hl : l.length ≤ 1000000) : Ev (fun k => levylaw4_bare.f k l) (l.map bareT) := by
  suffices h : ∀ d i, l.length = i + d → Ev (fun k => levylaw4_bare.l0 k l ((l.take i).map bareT) (i : Int)) (l.map bareT) by
    exact Ev.congr (fun k => rfl) (h l.length 0 (by omega))
  intro d
  induction d with
  | zero =>
    intro i hi
    refine ⟨1, fun k hk => ?_⟩
    obtain ⟨n, rfl⟩ : ∃ n, k = n + 1 := ⟨k - 1, by omega⟩
    show levylaw4_bare.l0 (n + 1) l _ (i : Int) = _
    simp only [levylaw4_bare.l0]
    rw [if_neg (by omega), List.take_of_length_le (by omega)]
  | succ d ih =>
    intro i hi
    obtain ⟨K, hK⟩ := ih (i + 1) (by omega)
    refine ⟨K + 1, fun k hk => ?_⟩
    obtain ⟨n, rfl⟩ : ∃ n, k = n + 1 := ⟨k - 1, by omega⟩
    have h := hK n (by omega)
    dsimp only at h
    show levylaw4_bare.l0 (n + 1) l _ (i : Int) = _
    obtain ⟨t, ht⟩ : ∃ t, l[i]? = some t := ⟨_, List.getElem?_eq_getElem (by omega)⟩
    have htk : l.take (i + 1) = l.take i ++ [t] := by rw [List.take_add_one, ht]; rfl
    have e1 : wrap64 ((i : Int) + 1) = ((i + 1 : Nat) : Int) := by rw [wrI (by omega) (by omega)]; omega
    simp only [levylaw4_bare.l0]
    rw [rd_of ht, e1]
    clear e1
    rw [htk, List.map_append] at h
    rw [if_pos (by omega), if_pos (by omega), if_pos (by rw [List.length_map, List.length_take]; omega)]
    exact h
theorem back_p (l : List S30) (hin : ∀ t ∈ l, tokIn t = true) : ∃ k, levylaw4_WordsBack.f k l = some true := by
  obtain ⟨K0, hK0⟩ := known_ev
  have hnum : ∀ x, levylaw4_num.f x = some x := fun x => rfl
  unfold levylaw4_WordsBack.f
  by_cases hl : (l.length : Int) > 65536
  · exact ⟨K0, by rw [hK0 K0 (Nat.le_refl _), Option.bind_some, if_pos rfl, if_pos hl]⟩
  · obtain ⟨R, hR⟩ := prGo_total l false [] hin (by simp; omega)
    obtain ⟨⟨s, e⟩, hp⟩ : ∃ r, words_Print.f l = some r := by
      unfold words_Print.f
      rw [if_pos (by omega), hR]
      exact ⟨_, rfl⟩
    by_cases he : e = 0
    · subst he
      obtain ⟨h1, hP⟩ := print_ok hp
      obtain ⟨us, hG, hb⟩ := G_of_pr hP 0
      have hsc := scan_mk h1 hG
      have hlu := G_len hG
      rw [if_neg (by decide), Ls_len] at hlu
      obtain ⟨K1, hK1⟩ := bare_p l (by omega)
      obtain ⟨K2, hK2⟩ := bare_p us (by omega)
      obtain ⟨K3, hK3⟩ := same_refl (l.map bareT) (by rw [List.length_map]; omega)
      refine ⟨K0 + K1 + K2 + K3, ?_⟩
      have k1 := hK1 (K0 + K1 + K2 + K3) (by omega)
      have k2 := hK2 (K0 + K1 + K2 + K3) (by omega)
      have k3 := hK3 (K0 + K1 + K2 + K3) (by omega)
      dsimp only at k1 k2 k3
      rw [hb] at k2
      rw [hK0 _ (by omega), Option.bind_some, if_pos rfl, if_neg hl, hp, Option.bind_some, hnum, Option.bind_some, if_pos rfl]
      dsimp only
      rw [hsc, Option.bind_some, hnum, Option.bind_some, if_pos rfl, if_pos rfl, k1, Option.bind_some, k2, Option.bind_some, k3, Option.bind_some]
    · have hs := print_err hp he
      subst hs
      refine ⟨K0, ?_⟩
      rw [hK0 _ (by omega), Option.bind_some, if_pos rfl, if_neg hl, hp, Option.bind_some, hnum, Option.bind_some, if_neg he]
      dsimp only
      rw [nil_toList]
      rfl
end Go.Proofs.YtgcgpeeokdnplaaDoor.Gr
end
section
/- A list of tokens that came in: what its cells hold. No condition. -/
namespace Go.Proofs.YtgcgpeeokdnplaaDoor.Gr
open Go.RowKit Go.ChangeShapes Go.WideShapes Go.Proofs.YtgcgpeeokdnplaaDoorW.PrintWords Go.Proofs.YtgcgpeeokdnplaaDoorW.PrintLast Go.Proofs.YtgcgpeeokdnplaaDoor.PA
set_option linter.unusedVariables false
set_option linter.unusedSimpArgs false
instance : Inhabited S30 := ⟨⟨0, 0, ⟨#[]⟩, 0, 0⟩⟩
theorem five {α : Type} : ∀ (l : List α), l.length = 5 → ∃ v0 v1 v2 v3 v4, l = [v0, v1, v2, v3, v4]
  | [v0, v1, v2, v3, v4], _ => ⟨v0, v1, v2, v3, v4, rfl⟩
theorem tok_of {H : Type} {enc : TypeId × Value → H} {W : World} {base : Nat} {spare : Nat → Bool} {held : Bool} {fuel : Nat} {cs : List Value} {x : DataW H × List MemPlace} (h : DataW.trod enc Tryd.prog W base spare held fuel 30 cs = some x) :
    ∃ t : S30, cs = [.int .i64 t.f0, .int .i64 t.f1, .string t.f2, .int .i64 t.f3, .int .i64 t.f4] ∧ tokIn t = true := by
  obtain ⟨xs, n, _, _, hl, hxl, hf⟩ := DataW.trod_struct Tryd.underlying30 h
  have hc : Tryd.prog.cellsOf 30 = 5 := by kernel_rfl
  have c2 : Tryd.prog.cellsOf 2 = 1 := by kernel_rfl
  have c3 : Tryd.prog.cellsOf 3 = 1 := by kernel_rfl
  have c9 : Tryd.prog.cellsOf 9 = 1 := by kernel_rfl
  rw [hc] at hl
  have hxl : xs.length = 5 := hxl
  obtain ⟨y0, y1, y2, y3, y4, rfl⟩ := five xs hxl
  obtain ⟨v0, v1, v2, v3, v4, rfl⟩ := five cs hl
  have g0 : DataW.trod enc Tryd.prog W base spare held n 3 [v0] = some y0 := by
    have g : DataW.trod enc Tryd.prog W base spare held n 3 ((([v0, v1, v2, v3, v4] : List Value).drop 0).take (Tryd.prog.cellsOf 3)) = some y0 := hf 0 _ rfl
    rw [c3] at g
    exact g
  have g1 : DataW.trod enc Tryd.prog W base spare held n 3 [v1] = some y1 := by
    have g : DataW.trod enc Tryd.prog W base spare held n 3 ((([v0, v1, v2, v3, v4] : List Value).drop 1).take (Tryd.prog.cellsOf 3)) = some y1 := hf 1 _ rfl
    rw [c3] at g
    exact g
  have g2 : DataW.trod enc Tryd.prog W base spare held n 9 [v2] = some y2 := by
    have g : DataW.trod enc Tryd.prog W base spare held n 9 ((([v0, v1, v2, v3, v4] : List Value).drop 2).take (Tryd.prog.cellsOf 9)) = some y2 := hf 2 _ rfl
    rw [c9] at g
    exact g
  have g3 : DataW.trod enc Tryd.prog W base spare held n 2 [v3] = some y3 := by
    have g : DataW.trod enc Tryd.prog W base spare held n 2 ((([v0, v1, v2, v3, v4] : List Value).drop 3).take (Tryd.prog.cellsOf 2)) = some y3 := hf 3 _ rfl
    rw [c2] at g
    exact g
  have g4 : DataW.trod enc Tryd.prog W base spare held n 2 [v4] = some y4 := by
    have g : DataW.trod enc Tryd.prog W base spare held n 2 ((([v0, v1, v2, v3, v4] : List Value).drop 4).take (Tryd.prog.cellsOf 2)) = some y4 := hf 4 _ rfl
    rw [c2] at g
    exact g
  obtain ⟨n0, e0, _, _⟩ := DataW.trod_int Tryd.underlying3 (x := y0) g0
  obtain ⟨n1, e1, _, _⟩ := DataW.trod_int Tryd.underlying3 (x := y1) g1
  obtain ⟨s2, e2, _, w2⟩ := DataW.trod_string Tryd.underlying9 (x := y2) g2
  obtain ⟨n3, e3, _, w3⟩ := DataW.trod_int Tryd.underlying2 (x := y3) g3
  obtain ⟨n4, e4, _, w4⟩ := DataW.trod_int Tryd.underlying2 (x := y4) g4
  simp at e0 e1 e2 e3 e4
  subst e0 e1 e2 e3 e4
  refine ⟨⟨n0, n1, s2, n3, n4⟩, rfl, ?_⟩
  have bd : ∀ {x : Int}, (Lit.int .i64 x).wf = true → -9223372036854775808 ≤ x ∧ x ≤ 9223372036854775807 := fun h => by
    simpa [Lit.wf, IntKind.min, IntKind.max, IntKind.signed, IntKind.bits] using h
  have b3 := bd w3
  have b4 := bd w4
  have b2 : s2.size ≤ 9223372036854775807 := by unfold maxLen at w2; omega
  unfold tokIn
  dsimp only
  rw [decide_eq_true b2, decide_eq_true b3.1, decide_eq_true b3.2, decide_eq_true b4.1, decide_eq_true b4.2]
  rfl
theorem open_toks {H : Type} {enc : TypeId × Value → H} {W : World} {base : Nat} {spare : Nat → Bool} {held : Bool} {a : Option Addr} {len cap : Nat} {d : DataW H} {ps : List MemPlace} (h : DataW.Trod enc Tryd.prog W base spare held 23 (.slice a len cap) d ps) :
    ∃ zs : List S30, zs.length = len ∧ Kd.C k30 W a len zs ∧ (∀ t ∈ zs, tokIn t = true) ∧ len ≤ cap := by
  obtain ⟨fuel, hf⟩ := h
  rcases Go.Deep.open_slice Tryd.underlying23 hf with ⟨hcs, _⟩ | ⟨x, l, c, m, n, D, Pl, hcs, _, hl, hm, hmm, _, hx⟩
  · simp [Value.cells] at hcs
    obtain ⟨rfl, rfl, rfl⟩ := hcs
    exact ⟨[], rfl, Kd.C_nil _ _, fun t ht => absurd ht (List.not_mem_nil (a := t)), Nat.le_refl _⟩
  · simp [Value.cells] at hcs
    obtain ⟨rfl, rfl, rfl⟩ := hcs
    have hc : Tryd.prog.cellsOf 30 = 5 := by kernel_rfl
    rw [hc] at hx
    have hlm : len ≤ m := by rw [hmm]; split <;> omega
    have each : ∀ i, i < len → ∃ t : S30, W.cells? base (x.add (i * 5)) 5 = some [.int .i64 t.f0, .int .i64 t.f1, .string t.f2, .int .i64 t.f3, .int .i64 t.f4] ∧ tokIn t = true := fun i hi => by
      obtain ⟨cs, h1, h2⟩ := hx i (by omega)
      obtain ⟨t, rfl, ht⟩ := tok_of h2
      exact ⟨t, h1, ht⟩
    obtain ⟨q, hq⟩ := Go.Deep.choose_lt each
    have hmx : len ≤ 9223372036854775807 := by
      have e : maxLen = 9223372036854775807 := by unfold maxLen; rfl
      omega
    refine ⟨(List.range len).map q, by simp, ⟨by simp, hmx, fun hpos => ⟨x, rfl, fun j p hp => ?_⟩⟩, fun t ht => ?_, hl⟩
    · have hj : j < len := by
        have := (List.getElem?_eq_some_iff.1 hp).1
        simpa using this
      have hpj : q j = p := by simpa [hj] using hp
      subst hpj
      obtain ⟨_, _, hcell⟩ := World.cells?_some (hq j hj).1
      refine ⟨_, rfl, k30_mk W (q j), fun i u hu => ?_⟩
      have hi : i < 5 := (List.getElem?_eq_some_iff.1 hu).1
      have := hcell i hi
      rw [Go.Deep.add_add] at this
      exact this.trans hu
    · obtain ⟨j, hj, rfl⟩ := List.mem_map.1 ht
      exact (hq j (List.mem_range.1 hj)).2
/-- WordsBack, walked: at every list that comes in. -/
theorem back_walk (zs : List S30) (a : Option Addr) (cap : Nat) (W : World) (hT : Tabs W) (hC : Kd.C k30 W a zs.length zs) (hin : ∀ t ∈ zs, tokIn t = true) (hcap : zs.length ≤ cap) :
    Calls Tryd.prog 5 #[.slice a zs.length cap] W fun e w' => e = .returned (.bool true) ∧ Below W.heap.size W w' := by
  obtain ⟨k, hk⟩ := back_p zs hin
  exact levylaw4_WordsBack.calls k a cap zs true W hT hC hcap hk
end Go.Proofs.YtgcgpeeokdnplaaDoor.Gr
end
