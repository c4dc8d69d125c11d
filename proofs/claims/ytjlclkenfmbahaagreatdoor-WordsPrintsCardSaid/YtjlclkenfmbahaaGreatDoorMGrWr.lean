/- words.written and the words: what it writes is a word, and every word is written as it stood. Conditions: each law's own. -/
import Derived.Test.YtjlclkenfmbahaaGreatDoorMGrDay
import Derived.Test.YtjlclkenfmbahaaGreatDoorMPAx0
namespace Go.Proofs.YtjlclkenfmbahaaGreatDoor.Gr
open Go.RowKit Go.Proofs.YtjlclkenfmbahaaGreatDoorW.PrintWords Go.Proofs.YtjlclkenfmbahaaGreatDoorW.PrintLast Go.Proofs.YtjlclkenfmbahaaGreatDoor.PA Go.Proofs.YtjlclkenfmbahaaGreatDoor.Dig Go.Lib
open Go.Proofs.YtjlclkenfmbahaaGreatDoor.Pure (amountL qs)
set_option linter.unusedVariables false
set_option linter.unusedSectionVars false
set_option linter.unusedSimpArgs false
theorem word_len {A : List UInt8} {t : S57} (h : IsWord A [] t) : A.length ≤ 200 := by
 rcases word_inv h with ⟨h1, _⟩ | ⟨n, h1, rfl, _⟩ | ⟨n, h1, rfl, _⟩ | ⟨n, d, h1, rfl, _⟩ | ⟨h1, _⟩ | ⟨b, h1, rfl, _⟩ | ⟨h1, _⟩
 ·have := h1.le; omega
 ·have := dec_len20 (u := n / 100) (by omega)
  unfold amountA
  rw [List.length_append]
  simp
  omega
 ·have := dec_length (u := n) (k := 10) (by omega) (by decide)
  omega
 ·have := per_len h1
  omega
 ·omega
 ·have : ∀ l : List UInt8, (escs l).length ≤ 2 * l.length := by
   intro l
   induction l with
   | nil => exact Nat.le_refl _
   | cons x l ih =>
    show (esc x ++ escs l).length ≤ _
    rw [List.length_append, List.length_cons]
    unfold esc
    split <;> simp <;> omega
  have h2 := this b
  have h3 := h1.le
  unfold quotedA
  rw [List.length_cons, List.length_append]
  simp
  omega
 ·rcases h1 with rfl | rfl | rfl | ⟨c, rfl, _⟩ <;> simp
theorem qs_yes {l : List UInt8} : ∀ acc : List UInt8, (∀ x ∈ l, 32 ≤ x.toNat ∧ x.toNat ≤ 126) → qs l acc = (B (acc ++ (escs l ++ [34])), true) := by
 induction l with
 | nil => intro acc _; show (B (acc ++ [34]), true) = _; rfl
 | cons b l ih =>
  intro acc h
  have hb := h b (by simp)
  show (if b.toNat < 32 ∨ 126 < b.toNat then _ else qs l (acc ++ Pure.esc b)) = _
  rw [if_neg (by omega), ih _ (fun x hx => h x (by simp [hx]))]
  show (B ((acc ++ esc b) ++ (escs l ++ [34])), true) = (B (acc ++ ((esc b ++ escs l) ++ [34])), true)
  simp
theorem qs_inv {l : List UInt8} : ∀ acc : List UInt8, (qs l acc).2 = true → ∀ x ∈ l, 32 ≤ x.toNat ∧ x.toNat ≤ 126 := by
 induction l with
 | nil => intro acc _ x hx; cases hx
 | cons b l ih =>
  intro acc h
  have e : qs (b :: l) acc = (if b.toNat < 32 ∨ 126 < b.toNat then ((⟨#[]⟩ : ByteArray), false) else qs l (acc ++ Pure.esc b)) := rfl
  rw [e] at h
  split at h
  ·cases h
  ·intro x hx
   rcases List.mem_cons.1 hx with rfl | hx
   ·omega
   ·exact ih _ h x hx
theorem quote_yes {b : List UInt8} (h : TextOk b) : quoteT (bA b) = (bA (quotedA b), true) := by
 unfold quoteT
 have hs : (bA b).size = b.length := bA_size b
 have := h.le
 rw [if_neg (by omega)]
 show qs b [34] = _
 rw [qs_yes _ h.pr]
 rfl
theorem quote_inv {s : ByteArray} (h : (quoteT s).2 = true) : TextOk (Ls s) := by
 unfold quoteT at h
 split at h
 ·cases h
 ·next h1 => exact ⟨by rw [Ls_len]; omega, qs_inv _ h⟩
theorem named_iff {s : ByteArray} : namedB s = true ↔ Named (Ls s) := by
 unfold namedB
 constructor
 ·intro h
  simp only [Bool.and_eq_true, decide_eq_true_eq] at h
  obtain ⟨h1, h2, h3, h4⟩ := h
  refine ⟨fun x hx => List.all_eq_true.1 h1 x hx, by rw [Ls_len]; exact h3, ?_⟩
  unfold atP at h4
  split at h4
  ·next b hb =>
   have := drop_at hb
   rw [List.drop_zero] at this
   exact ⟨b, _, this, h4⟩
  ·cases h4
 ·intro h
  obtain ⟨c, T, hc, hl⟩ := h.lt
  have h1 : (Ls s).all isWd = true := List.all_eq_true.2 h.wd
  have h2 : (Ls s).length = s.size := Ls_len s
  have h3 := h.le
  have h4 : 1 ≤ s.size := by rw [← h2, hc]; simp
  have h5 : atP isLt s 0 = true := by unfold atP; rw [hc]; exact hl
  rw [h1, h5, decide_eq_true h4, decide_eq_true (by omega)]
  rfl
theorem signed_iff {s : ByteArray} : signedB s = true ↔ SignOk (Ls s) := by
 unfold signedB SignOk
 rw [toList_Ls]
 constructor
 ·intro h
  simp only [Bool.or_eq_true, Bool.and_eq_true, decide_eq_true_eq, Bool.not_eq_true', decide_eq_false_iff_not] at h
  rcases h with h | h | h | ⟨h1, h2, h3⟩
  ·exact .inl h
  ·exact .inr (.inl h)
  ·exact .inr (.inr (.inl h))
  ·right; right; right
   unfold atP at h3
   split at h3
   ·next b hb =>
    have h4 := drop_at hb
    rw [List.drop_zero, List.drop_of_length_le (by rw [Ls_len]; omega)] at h4
    refine ⟨b, h4, h3, fun h33 => h2 ?_⟩
    rw [h4, show b = 33 from UInt8.toNat_inj.mp h33]
   ·cases h3
 ·rintro (h | h | h | ⟨c, hc, hs, h33⟩)
  ·rw [h]; rfl
  ·rw [h]; rfl
  ·rw [h]; rfl
  ·have hl : s.size = 1 := by rw [← Ls_len, hc]; rfl
   have h5 : atP isSg s 0 = true := by unfold atP; rw [hc]; exact hs
   have h6 : ¬ ([c] = [33]) := fun e => h33 (by cases e; rfl)
   rw [h5, hc, decide_eq_true hl, decide_eq_false h6]
   simp
theorem low_iff {n d : Nat} (hd : 1 ≤ d) : ((((max (Nat.gcd n d) 1 : Nat) : Int) == 1) = true) ↔ Nat.gcd n d = 1 := by
 have hg : 0 < Nat.gcd n d := Nat.gcd_pos_of_pos_right _ hd
 rw [Nat.max_eq_left hg, beq_iff_eq]
 omega
theorem empty_iff {s : ByteArray} : s.toList.isEmpty = true ↔ s = ⟨#[]⟩ := by rw [toList_isEmpty]; exact decide_eq_true_iff
theorem wr_word {t : S57} (h8 : t.f0 ≠ 8) (h : (wrR t).2 = true) : IsWord (Ls (wrR t).1) [] (atQ t 0) := by
 obtain ⟨f0, f1, f2, f3, f4⟩ := t
 unfold wrR at h ⊢
 dsimp only at h h8 ⊢
 unfold atQ
 dsimp only
 by_cases e1 : f0 = 1
 ·subst e1
  rw [if_pos rfl] at h ⊢
  simp only [Bool.and_eq_true, beq_iff_eq] at h
  obtain ⟨h1, rfl, rfl⟩ := h
  exact name_mk (named_iff.1 h1)
 rw [if_neg e1] at h ⊢
 by_cases e2 : f0 = 2
 ·subst e2
  rw [if_pos rfl] at h ⊢
  simp only [Bool.and_eq_true, decide_eq_true_eq, beq_iff_eq] at h
  obtain ⟨⟨h1, h2⟩, h3, rfl⟩ := h
  obtain rfl := empty_iff.1 h3
  obtain ⟨n, rfl⟩ : ∃ n : Nat, f3 = n := ⟨f3.toNat, by omega⟩
  have : Ls (B (amountL (decide ((n : Int) < 0)) (n : Int).natAbs)) = amountA n := by
   rw [decide_eq_false (by omega)]
   rfl
  dsimp only
  rw [this]
  exact amount_mk (by omega)
 rw [if_neg e2] at h ⊢
 by_cases e3 : f0 = 3
 ·subst e3
  rw [if_pos rfl] at h ⊢
  simp only [Bool.and_eq_true, decide_eq_true_eq, beq_iff_eq] at h
  obtain ⟨⟨h1, h2⟩, h3, rfl⟩ := h
  obtain rfl := empty_iff.1 h3
  obtain ⟨n, rfl⟩ : ∃ n : Nat, f3 = n := ⟨f3.toNat, by omega⟩
  have : Ls (⟨(Lib.itoa (n : Int)).toArray⟩ : ByteArray) = decDigits n := by rw [itoa_nonneg]
  dsimp only
  rw [this]
  exact count_mk (by omega)
 rw [if_neg e3] at h ⊢
 by_cases e4 : f0 = 4
 ·subst e4
  rw [if_pos rfl] at h ⊢
  simp only [Bool.and_eq_true] at h
  obtain ⟨⟨h1, h2⟩, h3⟩ := h
  obtain rfl := empty_iff.1 h3
  obtain ⟨n, d, rfl, rfl, hn, hd, hd9, hw, ht⟩ := perT_yes h1
  rw [Int.toNat_natCast, Int.toNat_natCast] at h2
  dsimp only
  rw [ht]
  exact per_mk ⟨hn, hd, hd9, (low_iff hd).1 h2, hw⟩
 rw [if_neg e4] at h ⊢
 by_cases e5 : f0 = 5
 ·subst e5
  rw [if_pos rfl] at h ⊢
  dsimp only at h ⊢
  split at h
  ·cases h
  ·next hd =>
   rw [if_neg hd]
   simp only [Bool.and_eq_true, beq_iff_eq] at h
   obtain ⟨h1, rfl⟩ := h
   obtain rfl := empty_iff.1 h1
   obtain ⟨d1, d2, d3, d4⟩ := day_mk (n := f3) (by omega)
   have := date_mk (A := Ls (dayT f3)) (by rw [Ls_len]; exact d1) d2 d4
   rw [bA_Ls, d3] at this
   exact this
 rw [if_neg e5] at h ⊢
 by_cases e6 : f0 = 6
 ·subst e6
  rw [if_pos rfl] at h ⊢
  simp only [Bool.and_eq_true, beq_iff_eq] at h
  obtain ⟨h1, rfl, rfl⟩ := h
  have hq := quote_inv h1
  have := quote_yes hq
  rw [bA_Ls] at this
  dsimp only
  rw [this]
  have h2 := txt_mk_word hq
  rw [bA_Ls] at h2
  exact h2
 rw [if_neg e6] at h ⊢
 by_cases e7 : f0 = 7
 ·subst e7
  rw [if_pos rfl] at h ⊢
  simp only [Bool.and_eq_true, beq_iff_eq] at h
  obtain ⟨h1, rfl, rfl⟩ := h
  exact sign_mk (signed_iff.1 h1)
 rw [if_neg e7, if_neg h8] at h
 cases h
theorem per_wr1 {n d : Nat} (n9 : n ≤ 1000000000) (d1 : 1 ≤ d) (d9 : d ≤ 1000000000) (hw : n * 100 % d * 10 ^ 6 % d = 0) : (perT n d).2 = true := by
 have hc : ¬ ((n : Int) < 0 ∨ 1000000000 < (n : Int) ∨ (d : Int) < 1 ∨ 1000000000 < (d : Int)) := by clear hw; omega
 unfold perT
 rw [if_neg hc, Int.toNat_natCast, Int.toNat_natCast, longdiv_pad d1 6 _ (Nat.mod_lt _ d1) hw]
 generalize trimRightB _ 48 = T
 cases T with
 | nil => rfl
 | cons x T => rfl
theorem per_wr {n d : Nat} (h : PerOk n d) : perT n d = (bA (perA n d), true) := by
 have h5 := per_wr1 h.n9 h.d1 h.d9 h.whole
 obtain ⟨n', d', e1, e2, -, -, -, -, h6⟩ := perT_yes h5
 obtain rfl : n' = n := (Int.natCast_inj.mp e1).symm
 obtain rfl : d' = d := (Int.natCast_inj.mp e2).symm
 exact Prod.ext h6 h5
theorem word_wr {A : List UInt8} {t : S57} (h : IsWord A [] (atQ t 0)) : wrR t = (bA A, true) ∧ tokIn t = true := by
 obtain ⟨f0, f1, f2, f3, f4⟩ := t
 have hlen := word_len h
 have key : ∀ {g0 g3 g4 : Int} {g2 : ByteArray}, (atQ (⟨f0, f1, f2, f3, f4⟩ : S57) 0) = ⟨g0, 0, g2, g3, g4⟩ → f0 = g0 ∧ f2 = g2 ∧ f3 = g3 ∧ f4 = g4 := fun e => by
  simp only [atQ] at e
  cases e
  exact ⟨rfl, rfl, rfl, rfl⟩
 rcases word_inv h with ⟨h1, h2⟩ | ⟨n, h1, rfl, h2⟩ | ⟨n, h1, rfl, h2⟩ | ⟨n, d, h1, rfl, h2⟩ | ⟨h0, h1, h3, h2⟩ | ⟨b, h1, rfl, h2⟩ | ⟨h1, h2⟩
 ·obtain ⟨rfl, rfl, rfl, rfl⟩ := key h2
  have e := (named_iff (s := bA A)).2 h1
  have hs : (bA A).size = A.length := bA_size A
  refine ⟨?_, ?_⟩
  ·unfold wrR
   dsimp only
   rw [if_pos rfl, e]
   rfl
  ·unfold tokIn
   simp only [hs]
   rw [decide_eq_true (by omega)]
   rfl
 ·obtain ⟨rfl, rfl, rfl, rfl⟩ := key h2
  refine ⟨?_, ?_⟩
  ·unfold wrR
   dsimp only
   rw [if_neg (by decide), if_pos rfl, decide_eq_false (by omega), decide_eq_true (by omega), decide_eq_true (by omega), empty_iff.2 rfl]
   rfl
  ·unfold tokIn
   dsimp only
   rw [decide_eq_true (show (-9223372036854775808 : Int) ≤ n by omega), decide_eq_true (show (n : Int) ≤ 9223372036854775807 by omega)]
   rfl
 ·obtain ⟨rfl, rfl, rfl, rfl⟩ := key h2
  refine ⟨?_, ?_⟩
  ·unfold wrR
   dsimp only
   rw [if_neg (by decide), if_neg (by decide), if_pos rfl, decide_eq_true (by omega), decide_eq_true (by omega), empty_iff.2 rfl, itoa_nonneg]
   rfl
  ·unfold tokIn
   dsimp only
   rw [decide_eq_true (show (-9223372036854775808 : Int) ≤ n by omega), decide_eq_true (show (n : Int) ≤ 9223372036854775807 by omega)]
   rfl
 ·obtain ⟨rfl, rfl, rfl, rfl⟩ := key h2
  have n9 := h1.n9
  have d9 := h1.d9
  have d1 := h1.d1
  have hp := per_wr h1
  refine ⟨?_, ?_⟩
  ·unfold wrR
   dsimp only
   rw [if_neg (by decide), if_neg (by decide), if_neg (by decide), if_pos rfl, hp, Int.toNat_natCast, Int.toNat_natCast, (low_iff d1).2 h1.low, empty_iff.2 rfl]
   rfl
  ·clear hp h2 h hlen
   unfold tokIn
   dsimp only
   rw [decide_eq_true (show (-9223372036854775808 : Int) ≤ n by omega), decide_eq_true (show (n : Int) ≤ 9223372036854775807 by omega), decide_eq_true (show (-9223372036854775808 : Int) ≤ d by omega), decide_eq_true (show (d : Int) ≤ 9223372036854775807 by omega)]
   rfl
 ·obtain ⟨rfl, rfl, rfl, rfl⟩ := key h2
  have hs : (bA A).size = 10 := by rw [bA_size]; exact h0
  obtain ⟨r1, r2, r3⟩ := day_inv hs h1 h3
  refine ⟨?_, ?_⟩
  ·unfold wrR
   dsimp only
   rw [if_neg (by decide), if_neg (by decide), if_neg (by decide), if_neg (by decide), if_pos rfl, if_neg (by omega), if_neg (by omega), r3, empty_iff.2 rfl]
   rfl
  ·unfold tokIn
   dsimp only
   rw [decide_eq_true (show (-9223372036854775808 : Int) ≤ (parseS (bA A)).1 by omega), decide_eq_true (show (parseS (bA A)).1 ≤ 9223372036854775807 by omega)]
   rfl
 ·obtain ⟨rfl, rfl, rfl, rfl⟩ := key h2
  have hq := quote_yes h1
  have hb := h1.le
  have hs : (bA b).size = b.length := bA_size b
  refine ⟨?_, ?_⟩
  ·unfold wrR
   dsimp only
   rw [if_neg (by decide), if_neg (by decide), if_neg (by decide), if_neg (by decide), if_neg (by decide), if_pos rfl, hq]
   rfl
  ·unfold tokIn
   simp only [hs]
   rw [decide_eq_true (by omega)]
   rfl
 ·obtain ⟨rfl, rfl, rfl, rfl⟩ := key h2
  have e := (signed_iff (s := bA A)).2 h1
  have hs : (bA A).size = A.length := bA_size A
  refine ⟨?_, ?_⟩
  ·unfold wrR
   dsimp only
   rw [if_neg (by decide), if_neg (by decide), if_neg (by decide), if_neg (by decide), if_neg (by decide), if_neg (by decide), if_pos rfl, e]
   rfl
  ·unfold tokIn
   simp only [hs]
   rw [decide_eq_true (by omega)]
   rfl
theorem wr_line {t : S57} (h8 : t.f0 = 8) : (wrR t).1 = ⟨#[10]⟩ ∧ ((wrR t).2 = true ↔ atQ t 0 = endT 0) := by
 obtain ⟨f0, f1, f2, f3, f4⟩ := t
 dsimp only at h8
 subst h8
 unfold wrR
 dsimp only
 rw [if_neg (by decide), if_neg (by decide), if_neg (by decide), if_neg (by decide), if_neg (by decide), if_neg (by decide), if_neg (by decide), if_pos rfl]
 refine ⟨rfl, ?_⟩
 simp only [Bool.and_eq_true, beq_iff_eq, empty_iff]
 constructor
 ·rintro ⟨rfl, rfl, rfl⟩
  rfl
 ·intro e
  simp only [atQ, endT] at e
  cases e
  exact ⟨rfl, rfl, rfl⟩
theorem of_prGo (ts : List S57) : ∀ (g : Bool) (acc acc' : List UInt8), prGo g acc ts = some (some (acc', false)) → ∃ D, acc' = acc ++ D ∧ PrG g ts D := by
 induction ts with
 | nil =>
  intro g acc acc' h
  cases h
  exact ⟨[], (List.append_nil _).symm, .nil⟩
 | cons t ts ih =>
  intro g acc acc' h
  obtain ⟨hin, ⟨_, h2⟩ | ⟨h1, h2, h3, h4, h5⟩⟩ := prGo_cons h
  ·cases h2
  ·obtain ⟨D, hD, hP⟩ := ih _ _ _ h5
   by_cases h8 : t.f0 = 8
   ·have n8 : (t.f0 != 8) = false := bne_eq_false_iff_eq.mpr h8
    obtain rfl := h2 h8
    obtain ⟨l1, l2⟩ := wr_line h8
    rw [n8] at hP
    rw [if_neg (fun h => h.2 h8), List.nil_append, l1] at hD
    refine ⟨10 :: D, ?_, .line (l2.1 h1) hP⟩
    rw [hD]
    show (acc ++ [10]) ++ D = _
    simp
   ·have n8 : (t.f0 != 8) = true := bne_iff_ne.mpr h8
    have hw := wr_word h8 h1
    rw [n8] at hP
    cases g with
    | false =>
     rw [if_neg (fun h => by cases h.1), List.nil_append] at hD
     exact ⟨_, by rw [hD, List.append_assoc], .word0 hw hP⟩
    | true =>
     rw [if_pos ⟨rfl, h8⟩] at hD
     exact ⟨_, by rw [hD]; simp, .word1 hw hP⟩
theorem prGo_total (ts : List S57) : ∀ (g : Bool) (acc : List UInt8), (∀ t ∈ ts, tokIn t = true) → acc.length + 1001 * ts.length ≤ 1000000000 → ∃ R, prGo g acc ts = some R := by
 induction ts with
 | nil => intro g acc _ _; exact ⟨_, rfl⟩
 | cons t ts ih =>
  intro g acc hin hl
  rw [List.length_cons] at hl
  unfold prGo
  rw [if_pos (hin t (by simp))]
  by_cases hb : (wrR t).2 = false ∨ (t.f0 = 8 ∧ g = false)
  ·rw [if_pos hb]; exact ⟨_, rfl⟩
  ·rw [if_neg hb]
   obtain ⟨h1, _⟩ := not_or.mp hb
   have h1 : (wrR t).2 = true := by simpa using h1
   have hlen : (Ls (wrR t).1).length ≤ 1000 := by
    by_cases h8 : t.f0 = 8
    ·rw [(wr_line h8).1]
     show 1 ≤ 1000
     omega
    ·have := word_len (wr_word h8 h1)
     omega
   rw [if_pos ⟨hlen, by omega⟩]
   refine ih _ _ (fun u hu => hin u (by simp [hu])) ?_
   rw [List.length_append, List.length_append]
   split <;> simp only [List.length_cons, List.length_nil] <;> omega
end Go.Proofs.YtjlclkenfmbahaaGreatDoor.Gr
