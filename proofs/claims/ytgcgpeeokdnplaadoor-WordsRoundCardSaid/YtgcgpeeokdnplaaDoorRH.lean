/- Several texts of this claim in one, each in a section of its own; what nothing reaches is left out. Conditions: each law's own. -/
import Derived.Test.YtgcgpeeokdnplaaDoorRG
import Derived.KernelRfl
import Derived.Test.YtgcgpeeokdnplaaDoorRPAx0
import Derived.Test.YtgcgpeeokdnplaaDoorRL
import Derived.Test.YtgcgpeeokdnplaaDoorRPAx4
import Derived.Test.YtgcgpeeokdnplaaDoorRHWr
import Derived.Test.YtgcgpeeokdnplaaDoorRPAx33
import Derived.Test.YtgcgpeeokdnplaaDoorRPAx32
section
/- The chapter's example is scanned as the chapter says. No condition. -/
namespace Go.Proofs.YtgcgpeeokdnplaaDoor.Gr
open Go.RowKit Go.Proofs.YtgcgpeeokdnplaaDoorW.PrintWords Go.Proofs.YtgcgpeeokdnplaaDoorW.PrintLast Go.Proofs.YtgcgpeeokdnplaaDoor.PA
set_option linter.unusedVariables false
/-- The example's text. -/
abbrev exT : ByteArray := ⟨#[116, 97, 120, 32, 61, 32, 55, 46, 50, 53, 37, 32, 42, 32, 112, 97, 121, 32, 45, 32, 49, 50, 46, 48, 48, 32, 35, 32, 110, 101, 116]⟩
/-- Its words. -/
abbrev exW : List S30 := [⟨1, 0, ⟨#[116, 97, 120]⟩, 0, 0⟩, ⟨7, 4, ⟨#[61]⟩, 0, 0⟩, ⟨4, 6, ⟨#[]⟩, 29, 400⟩, ⟨7, 12, ⟨#[42]⟩, 0, 0⟩, ⟨1, 14, ⟨#[112, 97, 121]⟩, 0, 0⟩, ⟨7, 18, ⟨#[45]⟩, 0, 0⟩, ⟨2, 20, ⟨#[]⟩, 1200, 0⟩, ⟨8, 31, ⟨#[]⟩, 0, 0⟩]
theorem ex_scan : words_Scan.f exT = some (exW, 0, 0) := by kernel_rfl
theorem ex_bad : words_Scan.f ⟨#[97, 32, 33]⟩ = some ([], 2, 41) := by kernel_rfl
theorem known_ev : ∃ K, ∀ k, K ≤ k → levylaw4_known.f k = some true := by
  obtain ⟨K, hK⟩ := same_refl exW (by show 8 < 1000000; omega)
  refine ⟨K, fun k hk => ?_⟩
  have h := hK k hk
  dsimp only at h
  unfold levylaw4_known.f levylaw4_num.f
  have e1 := ex_scan
  have e2 := ex_bad
  unfold exT at e1
  rw [e1, Option.bind_some, e2, Option.bind_some, Option.bind_some, if_pos rfl, if_pos rfl]
  show (levylaw4_same.f k exW exW).bind _ = _
  rw [h]
  rfl
end Go.Proofs.YtgcgpeeokdnplaaDoor.Gr
end
section
/- Dates: a day's text is read as that day, and every date that is read is the text of its day. Conditions: each law's own. -/
namespace Go.Proofs.YtgcgpeeokdnplaaDoor.Gr
open Go.RowKit Go.Proofs.YtgcgpeeokdnplaaDoorW.PrintWords Go.Proofs.YtgcgpeeokdnplaaDoorW.PrintLast Go.Proofs.YtgcgpeeokdnplaaDoor.PA Go.Proofs.YtgcgpeeokdnplaaDoor.Days
set_option linter.unusedVariables false
set_option linter.unusedSectionVars false
theorem okAt_dated {s : ByteArray} {j : Nat} (hj : j < 10) (h : j < s.size) : okAt s j = datedT s 0 j := by
  obtain ⟨b, hb⟩ := byte_some s h
  have e := (bt_of s hb).1
  unfold okAt datedT dash atP
  rw [Nat.zero_add, hb, e]
  have b45 : ((b.toNat : Int) == 45) = (b.toNat == 45) := by
    rw [Bool.eq_iff_iff, beq_iff_eq, beq_iff_eq]
    omega
  by_cases h4 : j = 4
  · subst h4
    simp only [beq_self_eq_true, Bool.true_or, if_true, true_or]
    exact b45
  · by_cases h7 : j = 7
    · subst h7
      simp only [beq_self_eq_true, Bool.or_true, if_true, or_true]
      exact b45
    · have e1 : (j == 4 || j == 7) = false := by simp [h4, h7]
      rw [e1, if_neg (by decide), if_neg (by omega)]
      unfold isDg
      have h1 : (48 ≤ (b.toNat : Int)) ↔ 48 ≤ b.toNat := by omega
      have h2 : ((b.toNat : Int) ≤ 57) ↔ b.toNat ≤ 57 := by omega
      simp only [h1, h2]
theorem ok_of {s : ByteArray} (hs : s.size = 10) (h : datedB s 0 = true) : ∀ j, j < 10 → okAt s j = true := fun j hj => by
  rw [okAt_dated hj (by omega)]
  exact datedGo_at 10 0 h j (by omega) (by omega)
/-- Ten bytes of a date's form are some date's text. -/
theorem text_of {s : ByteArray} (hs : s.size = 10) (h : ∀ j, j < 10 → okAt s j = true) : ∃ y m d : Int, 0 ≤ y ∧ y ≤ 9999 ∧ 0 ≤ m ∧ m ≤ 99 ∧ 0 ≤ d ∧ d ≤ 99 ∧ s = strOfNums (textL y m d) := by
  have hl : (Ls s).length = 10 := by rw [Ls_len]; exact hs
  obtain ⟨c0, c1, c2, c3, c4, c5, c6, c7, c8, c9, hc⟩ : ∃ c0 c1 c2 c3 c4 c5 c6 c7 c8 c9, Ls s = [c0, c1, c2, c3, c4, c5, c6, c7, c8, c9] := by
    match hL : Ls s, hl with
    | [c0, c1, c2, c3, c4, c5, c6, c7, c8, c9], _ => exact ⟨c0, c1, c2, c3, c4, c5, c6, c7, c8, c9, rfl⟩
  have hb : ∀ j c, (Ls s)[j]? = some c → bt s (j : Nat) = (c.toNat : Int) := fun j c hj => (bt_of s hj).1
  rw [hc] at hb
  have b0 := hb 0 c0 rfl
  have b1 := hb 1 c1 rfl
  have b2 := hb 2 c2 rfl
  have b3 := hb 3 c3 rfl
  have b4 := hb 4 c4 rfl
  have b5 := hb 5 c5 rfl
  have b6 := hb 6 c6 rfl
  have b7 := hb 7 c7 rfl
  have b8 := hb 8 c8 rfl
  have b9 := hb 9 c9 rfl
  have dg : ∀ (j : Nat) (c : UInt8), j < 10 → dash j = false → bt s (j : Nat) = (c.toNat : Int) → 48 ≤ c.toNat ∧ c.toNat ≤ 57 := by
    intro j c hj hd hbj
    have := h j hj
    rw [okAt_digit hd, hbj] at this
    simp only [Bool.and_eq_true, decide_eq_true_eq] at this
    omega
  have ds : ∀ (j : Nat) (c : UInt8), j < 10 → dash j = true → bt s (j : Nat) = (c.toNat : Int) → c = 45 := by
    intro j c hj hd hbj
    have := h j hj
    rw [okAt_dash hd, hbj] at this
    have h45 : c.toNat = 45 := by
      have := beq_iff_eq.1 this
      omega
    exact UInt8.toNat_inj.mp h45
  have d0 := dg 0 c0 (by decide) rfl b0
  have d1 := dg 1 c1 (by decide) rfl b1
  have d2 := dg 2 c2 (by decide) rfl b2
  have d3 := dg 3 c3 (by decide) rfl b3
  have d4 := ds 4 c4 (by decide) rfl b4
  have d5 := dg 5 c5 (by decide) rfl b5
  have d6 := dg 6 c6 (by decide) rfl b6
  have d7 := ds 7 c7 (by decide) rfl b7
  have d8 := dg 8 c8 (by decide) rfl b8
  have d9 := dg 9 c9 (by decide) rfl b9
  subst d4 d7
  clear b0 b1 b2 b3 b4 b5 b6 b7 b8 b9 hb dg ds h
  refine ⟨1000 * ((c0.toNat : Int) - 48) + 100 * ((c1.toNat : Int) - 48) + 10 * ((c2.toNat : Int) - 48) + ((c3.toNat : Int) - 48), 10 * ((c5.toNat : Int) - 48) + ((c6.toNat : Int) - 48), 10 * ((c8.toNat : Int) - 48) + ((c9.toNat : Int) - 48), by omega, by omega, by omega, by omega, by omega, by omega, ?_⟩
  have fin : ∀ (c : UInt8) (z : Int), z = c.toNat → UInt8.ofNat z.toNat = c := fun c z hz => by
    subst hz
    rw [Int.toNat_natCast]
    simp
  have e : Ls s = (textL (1000 * ((c0.toNat : Int) - 48) + 100 * ((c1.toNat : Int) - 48) + 10 * ((c2.toNat : Int) - 48) + ((c3.toNat : Int) - 48)) (10 * ((c5.toNat : Int) - 48) + ((c6.toNat : Int) - 48)) (10 * ((c8.toNat : Int) - 48) + ((c9.toNat : Int) - 48))).map fun n => UInt8.ofNat n.toNat := by
    rw [hc]
    unfold textL
    simp only [List.map_cons, List.map_nil]
    simp only [List.cons.injEq, and_true]
    exact ⟨(fin c0 _ (by omega)).symm, (fin c1 _ (by omega)).symm, (fin c2 _ (by omega)).symm, (fin c3 _ (by omega)).symm, rfl, (fin c5 _ (by omega)).symm, (fin c6 _ (by omega)).symm, rfl, (fin c8 _ (by omega)).symm, (fin c9 _ (by omega)).symm⟩
  exact Ls_inj e
/-- Every date that is read is its day's text. -/
theorem day_inv {s : ByteArray} (hs : s.size = 10) (hd : datedB s 0 = true) (hp : (parseS s).2.2 = 0) : 0 ≤ (parseS s).1 ∧ (parseS s).1 ≤ 109572 ∧ dayT (parseS s).1 = s := by
  obtain ⟨y, m, d, y0, y1, m0, m1, d0, d1, hsd⟩ := text_of hs (ok_of hs hd)
  have ht := parse_text y0 y1 m0 m1 d0 d1
  rw [← hsd] at ht
  have h0 : (numS y m d).2 = 0 := by
    by_cases h : (numS y m d).2 = 0
    · exact h
    · rw [if_neg h] at ht
      rw [ht] at hp
      exact hp
  rw [if_pos h0] at ht
  rw [ht]
  dsimp only
  unfold numS at h0 ⊢
  split at h0
  · cases h0
  · next h1 =>
    rw [if_neg h1]
    split at h0
    · cases h0
    · next h2 =>
      rw [if_neg h2]
      dsimp only
      obtain ⟨h3, h4⟩ := not_or.mp h1
      obtain ⟨h5, h6⟩ := not_or.mp h2
      obtain ⟨hm1, hm2⟩ := month_of (y := y) (m := m) (d := d) (by omega) (by omega)
      obtain ⟨q, hq⟩ : ∃ q, q = 12 * (y - 1900).toNat + (m - 1).toNat := ⟨_, rfl⟩
      have hlen : Cal.len q = Cal.lastD y m := by
        unfold Cal.len
        have e1 : (1900 : Int) + ((q / 12 : Nat) : Int) = y := by omega
        have e2 : ((q % 12 : Nat) : Int) + 1 = m := by omega
        rw [e1, e2]
      rw [← hq]
      have hB : Cal.B (q + 1) = Cal.B q + Cal.len q := rfl
      have hM : Cal.Mon (Cal.B q + d - 1) q := ⟨by omega, by omega, by rw [hB, hlen]; omega⟩
      refine ⟨hM.day.1, hM.day.2, ?_⟩
      unfold dayT
      rw [monOf_eq hM, hsd]
      unfold dateS
      dsimp only
      have e1 : (1900 : Int) + ((q / 12 : Nat) : Int) = y := by omega
      have e2 : ((q % 12 : Nat) : Int) + 1 = m := by omega
      have e3 : Cal.B q + d - 1 - Cal.B q + 1 = d := by omega
      rw [e1, e2, e3]
end Go.Proofs.YtgcgpeeokdnplaaDoor.Gr
end
section
/- words.written and the words: what it writes is a word, and every word is written as it stood. Conditions: each law's own. -/
namespace Go.Proofs.YtgcgpeeokdnplaaDoor.Gr
open Go.RowKit Go.Proofs.YtgcgpeeokdnplaaDoorW.PrintWords Go.Proofs.YtgcgpeeokdnplaaDoorW.PrintLast Go.Proofs.YtgcgpeeokdnplaaDoor.PA Go.Proofs.YtgcgpeeokdnplaaDoor.Dig Go.Lib
open Go.Proofs.YtgcgpeeokdnplaaDoor.Pure (amountL qs)
set_option linter.unusedVariables false
set_option linter.unusedSectionVars false
set_option linter.unusedSimpArgs false
theorem word_len {A : List UInt8} {t : S30} (h : IsWord A [] t) : A.length ≤ 200 := by
  rcases word_inv h with ⟨h1, _⟩ | ⟨n, h1, rfl, _⟩ | ⟨n, h1, rfl, _⟩ | ⟨n, d, h1, rfl, _⟩ | ⟨h1, _⟩ | ⟨b, h1, rfl, _⟩ | ⟨h1, _⟩
  · have := h1.le; omega
  · have := dec_len20 (u := n / 100) (by omega)
    unfold amountA
    rw [List.length_append]
    simp
    omega
  · have := dec_length (u := n) (k := 10) (by omega) (by decide)
    omega
  · have := per_len h1
    omega
  · omega
  · have : ∀ l : List UInt8, (escs l).length ≤ 2 * l.length := by
      intro l
      induction l with
      | nil => exact Nat.le_refl _
      | cons x l ih =>
        show (esc x ++ escs l).length ≤ _
        rw [List.length_append, List.length_cons]
        unfold esc
        split <;> simp <;> omega
    have h2 := this b
    have h3 := h1.le
    unfold quotedA
    rw [List.length_cons, List.length_append]
    simp
    omega
  · rcases h1 with rfl | rfl | rfl | ⟨c, rfl, _⟩ <;> simp
theorem qs_yes {l : List UInt8} : ∀ acc : List UInt8, (∀ x ∈ l, 32 ≤ x.toNat ∧ x.toNat ≤ 126) → qs l acc = (B (acc ++ (escs l ++ [34])), true) := by
  induction l with
  | nil => intro acc _; show (B (acc ++ [34]), true) = _; rfl
  | cons b l ih =>
    intro acc h
    have hb := h b (by simp)
    show (if b.toNat < 32 ∨ 126 < b.toNat then _ else qs l (acc ++ Pure.esc b)) = _
    rw [if_neg (by omega), ih _ (fun x hx => h x (by simp [hx]))]
    show (B ((acc ++ esc b) ++ (escs l ++ [34])), true) = (B (acc ++ ((esc b ++ escs l) ++ [34])), true)
    simp
theorem quote_yes {b : List UInt8} (h : TextOk b) : quoteT (bA b) = (bA (quotedA b), true) := by
  unfold quoteT
  have hs : (bA b).size = b.length := bA_size b
  have := h.le
  rw [if_neg (by omega)]
  show qs b [34] = _
  rw [qs_yes _ h.pr]
  rfl
theorem named_iff {s : ByteArray} : namedB s = true ↔ Named (Ls s) := by
  unfold namedB
  constructor
  · intro h
    simp only [Bool.and_eq_true, decide_eq_true_eq] at h
    obtain ⟨h1, h2, h3, h4⟩ := h
    refine ⟨fun x hx => List.all_eq_true.1 h1 x hx, by rw [Ls_len]; exact h3, ?_⟩
    unfold atP at h4
    split at h4
    · next b hb =>
      have := drop_at hb
      rw [List.drop_zero] at this
      exact ⟨b, _, this, h4⟩
    · cases h4
  · intro h
    obtain ⟨c, T, hc, hl⟩ := h.lt
    have h1 : (Ls s).all isWd = true := List.all_eq_true.2 h.wd
    have h2 : (Ls s).length = s.size := Ls_len s
    have h3 := h.le
    have h4 : 1 ≤ s.size := by rw [← h2, hc]; simp
    have h5 : atP isLt s 0 = true := by unfold atP; rw [hc]; exact hl
    rw [h1, h5, decide_eq_true h4, decide_eq_true (by omega)]
    rfl
theorem signed_iff {s : ByteArray} : signedB s = true ↔ SignOk (Ls s) := by
  unfold signedB SignOk
  rw [toList_Ls]
  constructor
  · intro h
    simp only [Bool.or_eq_true, Bool.and_eq_true, decide_eq_true_eq, Bool.not_eq_true', decide_eq_false_iff_not] at h
    rcases h with h | h | h | ⟨h1, h2, h3⟩
    · exact .inl h
    · exact .inr (.inl h)
    · exact .inr (.inr (.inl h))
    · right; right; right
      unfold atP at h3
      split at h3
      · next b hb =>
        have h4 := drop_at hb
        rw [List.drop_zero, List.drop_of_length_le (by rw [Ls_len]; omega)] at h4
        refine ⟨b, h4, h3, fun h33 => h2 ?_⟩
        rw [h4, show b = 33 from UInt8.toNat_inj.mp h33]
      · cases h3
  · rintro (h | h | h | ⟨c, hc, hs, h33⟩)
    · rw [h]; rfl
    · rw [h]; rfl
    · rw [h]; rfl
    · have hl : s.size = 1 := by rw [← Ls_len, hc]; rfl
      have h5 : atP isSg s 0 = true := by unfold atP; rw [hc]; exact hs
      have h6 : ¬ ([c] = [33]) := fun e => h33 (by cases e; rfl)
      rw [h5, hc, decide_eq_true hl, decide_eq_false h6]
      simp
theorem low_iff {n d : Nat} (hd : 1 ≤ d) : ((((max (Nat.gcd n d) 1 : Nat) : Int) == 1) = true) ↔ Nat.gcd n d = 1 := by
  have hg : 0 < Nat.gcd n d := Nat.gcd_pos_of_pos_right _ hd
  rw [Nat.max_eq_left hg, beq_iff_eq]
  omega
theorem empty_iff {s : ByteArray} : s.toList.isEmpty = true ↔ s = ⟨#[]⟩ := by rw [toList_isEmpty]; exact decide_eq_true_iff
theorem per_wr1 {n d : Nat} (n9 : n ≤ 1000000000) (d1 : 1 ≤ d) (d9 : d ≤ 1000000000) (hw : n * 100 % d * 10 ^ 6 % d = 0) : (perT n d).2 = true := by
  have hc : ¬ ((n : Int) < 0 ∨ 1000000000 < (n : Int) ∨ (d : Int) < 1 ∨ 1000000000 < (d : Int)) := by clear hw; omega
  unfold perT
  rw [if_neg hc, Int.toNat_natCast, Int.toNat_natCast, longdiv_pad d1 6 _ (Nat.mod_lt _ d1) hw]
  generalize trimRightB _ 48 = T
  cases T with
  | nil => rfl
  | cons x T => rfl

theorem per_wr {n d : Nat} (h : PerOk n d) : perT n d = (bA (perA n d), true) := by
  have h5 := per_wr1 h.n9 h.d1 h.d9 h.whole
  obtain ⟨n', d', e1, e2, -, -, -, -, h6⟩ := perT_yes h5
  obtain rfl : n' = n := (Int.natCast_inj.mp e1).symm
  obtain rfl : d' = d := (Int.natCast_inj.mp e2).symm
  exact Prod.ext h6 h5

/-- Every word is written as it stood. -/
theorem word_wr {A : List UInt8} {t : S30} (h : IsWord A [] (atQ t 0)) : wrR t = (bA A, true) ∧ tokIn t = true := by
  obtain ⟨f0, f1, f2, f3, f4⟩ := t
  have hlen := word_len h
  have key : ∀ {g0 g3 g4 : Int} {g2 : ByteArray}, (atQ (⟨f0, f1, f2, f3, f4⟩ : S30) 0) = ⟨g0, 0, g2, g3, g4⟩ → f0 = g0 ∧ f2 = g2 ∧ f3 = g3 ∧ f4 = g4 := fun e => by
    simp only [atQ] at e
    cases e
    exact ⟨rfl, rfl, rfl, rfl⟩
  rcases word_inv h with ⟨h1, h2⟩ | ⟨n, h1, rfl, h2⟩ | ⟨n, h1, rfl, h2⟩ | ⟨n, d, h1, rfl, h2⟩ | ⟨h0, h1, h3, h2⟩ | ⟨b, h1, rfl, h2⟩ | ⟨h1, h2⟩
  · obtain ⟨rfl, rfl, rfl, rfl⟩ := key h2
    have e := (named_iff (s := bA A)).2 h1
    have hs : (bA A).size = A.length := bA_size A
    refine ⟨?_, ?_⟩
    · unfold wrR
      dsimp only
      rw [if_pos rfl, e]
      rfl
    · unfold tokIn
      simp only [hs]
      rw [decide_eq_true (by omega)]
      rfl
  · obtain ⟨rfl, rfl, rfl, rfl⟩ := key h2
    refine ⟨?_, ?_⟩
    · unfold wrR
      dsimp only
      rw [if_neg (by decide), if_pos rfl, decide_eq_false (by omega), decide_eq_true (by omega), decide_eq_true (by omega), empty_iff.2 rfl]
      rfl
    · unfold tokIn
      dsimp only
      rw [decide_eq_true (show (-9223372036854775808 : Int) ≤ n by omega), decide_eq_true (show (n : Int) ≤ 9223372036854775807 by omega)]
      rfl
  · obtain ⟨rfl, rfl, rfl, rfl⟩ := key h2
    refine ⟨?_, ?_⟩
    · unfold wrR
      dsimp only
      rw [if_neg (by decide), if_neg (by decide), if_pos rfl, decide_eq_true (by omega), decide_eq_true (by omega), empty_iff.2 rfl, itoa_nonneg]
      rfl
    · unfold tokIn
      dsimp only
      rw [decide_eq_true (show (-9223372036854775808 : Int) ≤ n by omega), decide_eq_true (show (n : Int) ≤ 9223372036854775807 by omega)]
      rfl
  · obtain ⟨rfl, rfl, rfl, rfl⟩ := key h2
    have n9 := h1.n9
    have d9 := h1.d9
    have d1 := h1.d1
    have hp := per_wr h1
    refine ⟨?_, ?_⟩
    · unfold wrR
      dsimp only
      rw [if_neg (by decide), if_neg (by decide), if_neg (by decide), if_pos rfl, hp, Int.toNat_natCast, Int.toNat_natCast, (low_iff d1).2 h1.low, empty_iff.2 rfl]
      rfl
    · clear hp h2 h hlen
      unfold tokIn
      dsimp only
      rw [decide_eq_true (show (-9223372036854775808 : Int) ≤ n by omega), decide_eq_true (show (n : Int) ≤ 9223372036854775807 by omega), decide_eq_true (show (-9223372036854775808 : Int) ≤ d by omega), decide_eq_true (show (d : Int) ≤ 9223372036854775807 by omega)]
      rfl
  · obtain ⟨rfl, rfl, rfl, rfl⟩ := key h2
    have hs : (bA A).size = 10 := by rw [bA_size]; exact h0
    obtain ⟨r1, r2, r3⟩ := day_inv hs h1 h3
    refine ⟨?_, ?_⟩
    · unfold wrR
      dsimp only
      rw [if_neg (by decide), if_neg (by decide), if_neg (by decide), if_neg (by decide), if_pos rfl, if_neg (by omega), if_neg (by omega), r3, empty_iff.2 rfl]
      rfl
    · unfold tokIn
      dsimp only
      rw [decide_eq_true (show (-9223372036854775808 : Int) ≤ (parseS (bA A)).1 by omega), decide_eq_true (show (parseS (bA A)).1 ≤ 9223372036854775807 by omega)]
      rfl
  · obtain ⟨rfl, rfl, rfl, rfl⟩ := key h2
    have hq := quote_yes h1
    have hb := h1.le
    have hs : (bA b).size = b.length := bA_size b
    refine ⟨?_, ?_⟩
    · unfold wrR
      dsimp only
      rw [if_neg (by decide), if_neg (by decide), if_neg (by decide), if_neg (by decide), if_neg (by decide), if_pos rfl, hq]
      rfl
    · unfold tokIn
      simp only [hs]
      rw [decide_eq_true (by omega)]
      rfl
  · obtain ⟨rfl, rfl, rfl, rfl⟩ := key h2
    have e := (signed_iff (s := bA A)).2 h1
    have hs : (bA A).size = A.length := bA_size A
    refine ⟨?_, ?_⟩
    · unfold wrR
      dsimp only
      rw [if_neg (by decide), if_neg (by decide), if_neg (by decide), if_neg (by decide), if_neg (by decide), if_neg (by decide), if_pos rfl, e]
      rfl
    · unfold tokIn
      simp only [hs]
      rw [decide_eq_true (by omega)]
      rfl
theorem wr_line {t : S30} (h8 : t.f0 = 8) : (wrR t).1 = ⟨#[10]⟩ ∧ ((wrR t).2 = true ↔ atQ t 0 = endT 0) := by
  obtain ⟨f0, f1, f2, f3, f4⟩ := t
  dsimp only at h8
  subst h8
  unfold wrR
  dsimp only
  rw [if_neg (by decide), if_neg (by decide), if_neg (by decide), if_neg (by decide), if_neg (by decide), if_neg (by decide), if_neg (by decide), if_pos rfl]
  refine ⟨rfl, ?_⟩
  simp only [Bool.and_eq_true, beq_iff_eq, empty_iff]
  constructor
  · rintro ⟨rfl, rfl, rfl⟩
    rfl
  · intro e
    simp only [atQ, endT] at e
    cases e
    exact ⟨rfl, rfl, rfl⟩
/-! ### lists -/
theorem prGo_of {g : Bool} {acc D : List UInt8} {ts : List S30} (h : PrG g ts D) : ∀ acc : List UInt8, acc.length + D.length ≤ 1000000000 → (∀ t ∈ ts, tokIn t = true) → prGo g acc ts = some (some (acc ++ D, false)) := by
  induction h with
  | nil => intro acc _ _; rw [List.append_nil]; rfl
  | @line t ts D ht h ih =>
    intro acc hl hin
    have h8 : t.f0 = 8 := by have := congrArg (·.f0) ht; exact this
    obtain ⟨l1, l2⟩ := wr_line h8
    rw [List.length_cons] at hl
    have n8 : (t.f0 != 8) = false := bne_eq_false_iff_eq.mpr h8
    unfold prGo
    rw [if_pos (hin t (by simp)), l2.2 ht, if_neg (by rintro (h | ⟨_, h⟩) <;> cases h), l1, if_pos ⟨by show 1 ≤ 1000; omega, by omega⟩, n8, if_neg (fun h => h.2 h8), List.nil_append, ih _ (by rw [List.length_append]; show acc.length + 1 + D.length ≤ _; omega) (fun u hu => hin u (by simp [hu]))]
    show some (some ((acc ++ [10]) ++ D, false)) = _
    rw [List.append_assoc]
    rfl
  | @word0 t ts A D hw h ih =>
    intro acc hl hin
    have h8 : t.f0 ≠ 8 := hw.kind.1
    obtain ⟨l1, l2⟩ := word_wr hw
    rw [List.length_append] at hl
    have n8 : (t.f0 != 8) = true := bne_iff_ne.mpr h8
    have hA := word_len hw
    unfold prGo
    rw [if_pos l2, l1]
    dsimp only
    rw [if_neg (by rintro (h | ⟨h, _⟩); cases h; exact h8 h), if_pos ⟨by rw [Ls_bA]; omega, by omega⟩, n8, if_neg (fun h => by cases h.1), List.nil_append, Ls_bA, ih _ (by rw [List.length_append]; omega) (fun u hu => hin u (by simp [hu])), List.append_assoc]
  | @word1 t ts A D hw h ih =>
    intro acc hl hin
    have h8 : t.f0 ≠ 8 := hw.kind.1
    obtain ⟨l1, l2⟩ := word_wr hw
    rw [List.length_cons, List.length_append] at hl
    have n8 : (t.f0 != 8) = true := bne_iff_ne.mpr h8
    have hA := word_len hw
    unfold prGo
    rw [if_pos l2, l1]
    dsimp only
    rw [if_neg (by rintro (h | ⟨h, _⟩); cases h; exact h8 h), if_pos ⟨by rw [Ls_bA]; omega, by omega⟩, n8, if_pos ⟨rfl, h8⟩, Ls_bA, ih _ (by rw [List.length_append, List.length_append]; show acc.length + (1 + A.length) + D.length ≤ _; omega) (fun u hu => hin u (by simp [hu]))]
    simp
theorem print_mk {l : List S30} {D : List UInt8} (h : PrG false l D) (hD : D.length ≤ 100000) (hin : ∀ t ∈ l, tokIn t = true) : words_Print.f l = some (if D.length ≤ 8000 then (bA D, 0) else ((⟨#[]⟩ : ByteArray), 45)) := by
  have hl := pr_len h
  unfold words_Print.f
  rw [if_pos (by omega), prGo_of (acc := []) h [] (by simp; omega) hin, List.nil_append]
  show some (if false = true ∨ 8000 < D.length then _ else _) = _
  by_cases h8 : D.length ≤ 8000
  · rw [if_pos h8, if_neg (not_or.mpr ⟨by decide, by omega⟩)]
  · rw [if_neg h8, if_pos (.inr (by omega))]
/-- The tokens of a text are such as Go's are. -/
theorem G_in {l : Bool} {D : List UInt8} {o : Nat} {ts : List S30} (h : ScanG l D o ts) : ∀ t ∈ ts, tokIn t = true := by
  induction h with
  | endF o => intro t ht; cases ht
  | endL o => intro t ht; rw [List.mem_singleton] at ht; subst ht; rfl
  | blank hc h ih => exact ih
  | note hc hC hD h ih => exact ih
  | lineL hc h ih =>
    intro t ht
    rcases List.mem_cons.1 ht with rfl | ht
    · rfl
    · exact ih t ht
  | lineF hc h ih => exact ih
  | @word l A R t o ts hw h ih =>
    intro u hu
    rcases List.mem_cons.1 hu with rfl | hu
    · exact (word_wr (t := atQ t o) (hw.calm (Calm.nil R))).2
    · exact ih u hu
end Go.Proofs.YtgcgpeeokdnplaaDoor.Gr
end
section
/- WordsBack, the plain law: any list of tokens that Print takes is scanned as it was. Conditions: the list is such as Go's can be, of at most 65536 tokens or the law says nothing. -/
namespace Go.Proofs.YtgcgpeeokdnplaaDoor.Gr
open Go.RowKit Go.Proofs.YtgcgpeeokdnplaaDoorW.PrintWords Go.Proofs.YtgcgpeeokdnplaaDoorW.PrintLast Go.Proofs.YtgcgpeeokdnplaaDoor.PA
set_option linter.unusedVariables false
theorem scan_err {s : ByteArray} {ts : List S30} {x e : Int} (h : words_Scan.f s = some (ts, x, e)) (he : e ≠ 0) : ts = [] := by
  unfold words_Scan.f at h
  split at h
  · cases h; rfl
  · obtain ⟨q, _, h2⟩ := Option.bind_eq_some_iff.1 h
    simp only [Option.some.injEq, Prod.mk.injEq] at h2
    obtain ⟨h3, _, h5⟩ := h2
    rw [if_neg (by rw [h5]; exact he)] at h3
    exact h3.symm
theorem bare_p (l : List S30) (hl : l.length ≤ 1000000) : Ev (fun k => levylaw4_bare.f k l) (l.map bareT) := by
  suffices h : ∀ d i, l.length = i + d → Ev (fun k => levylaw4_bare.l0 k l ((l.take i).map bareT) (i : Int)) (l.map bareT) by
    exact Ev.congr (fun k => rfl) (h l.length 0 (by omega))
  intro d
  induction d with
  | zero =>
    intro i hi
    refine ⟨1, fun k hk => ?_⟩
    obtain ⟨n, rfl⟩ : ∃ n, k = n + 1 := ⟨k - 1, by omega⟩
    show levylaw4_bare.l0 (n + 1) l _ (i : Int) = _
    simp only [levylaw4_bare.l0]
    rw [if_neg (by omega), List.take_of_length_le (by omega)]
  | succ d ih =>
    intro i hi
    obtain ⟨K, hK⟩ := ih (i + 1) (by omega)
    refine ⟨K + 1, fun k hk => ?_⟩
    obtain ⟨n, rfl⟩ : ∃ n, k = n + 1 := ⟨k - 1, by omega⟩
    have h := hK n (by omega)
    dsimp only at h
    show levylaw4_bare.l0 (n + 1) l _ (i : Int) = _
    obtain ⟨t, ht⟩ : ∃ t, l[i]? = some t := ⟨_, List.getElem?_eq_getElem (by omega)⟩
    have htk : l.take (i + 1) = l.take i ++ [t] := by rw [List.take_add_one, ht]; rfl
    have e1 : wrap64 ((i : Int) + 1) = ((i + 1 : Nat) : Int) := by rw [wrI (by omega) (by omega)]; omega
    simp only [levylaw4_bare.l0]
    rw [rd_of ht, e1]
    clear e1
    rw [htk, List.map_append] at h
    rw [if_pos (by omega), if_pos (by omega), if_pos (by rw [List.length_map, List.length_take]; omega)]
    exact h
end Go.Proofs.YtgcgpeeokdnplaaDoor.Gr
end
section
/- WordsRound, the pure law: a text that is taken, printed and scanned again has the same words, and its printed text stays. No condition beyond the given ones. -/
namespace Go.Proofs.YtgcgpeeokdnplaaDoor.Gr
open Go.RowKit Go.Proofs.YtgcgpeeokdnplaaDoorW.PrintWords Go.Proofs.YtgcgpeeokdnplaaDoorW.PrintLast Go.Proofs.YtgcgpeeokdnplaaDoor.PA
set_option linter.unusedVariables false
theorem wordsRound : levylaw4_WordsRound.Pure := by
  intro s _
  obtain ⟨K0, hK0⟩ := known_ev
  obtain ⟨⟨ts, x, e⟩, hr⟩ := scan_total s
  have hnum : ∀ x, levylaw4_num.f x = some x := fun x => rfl
  unfold levylaw4_WordsRound.f
  by_cases hs : (s.size : Int) > 65536
  · exact ⟨K0, by rw [hK0 K0 (Nat.le_refl _), Option.bind_some, if_pos rfl, if_pos hs]⟩
  · by_cases he : e = 0
    · subst he
      obtain ⟨h1, h2, h3⟩ := scan_ok hr
      obtain ⟨D, hP, hD⟩ := pr_of_G h3
      rw [if_neg (by decide), Ls_len] at hD
      have hin := G_in h3
      have hp := print_mk hP (by omega) hin
      have hlt := G_len h3
      rw [if_neg (by decide), Ls_len] at hlt
      by_cases h8 : D.length ≤ 8000
      · rw [if_pos h8] at hp
        obtain ⟨us, hG, hb⟩ := G_of_pr hP 0
        have hsc := scan_mk (s := bA D) (by rw [bA_size]; exact h8) hG
        have hp2 := print_mk (bare_pr hP us hb) (by omega) (G_in hG)
        rw [if_pos h8] at hp2
        have hlu := G_len hG
        rw [if_neg (by decide)] at hlu
        obtain ⟨K1, hK1⟩ := bare_p ts (by omega)
        obtain ⟨K2, hK2⟩ := bare_p us (by omega)
        obtain ⟨K3, hK3⟩ := same_refl (ts.map bareT) (by rw [List.length_map]; omega)
        refine ⟨K0 + K1 + K2 + K3, ?_⟩
        have k1 := hK1 (K0 + K1 + K2 + K3) (by omega)
        have k2 := hK2 (K0 + K1 + K2 + K3) (by omega)
        have k3 := hK3 (K0 + K1 + K2 + K3) (by omega)
        dsimp only at k1 k2 k3
        rw [hb] at k2
        rw [hK0 _ (by omega), Option.bind_some, if_pos rfl, if_neg hs, hr, Option.bind_some, hnum, Option.bind_some, if_pos rfl, hp, Option.bind_some, hnum, Option.bind_some, if_pos rfl]
        dsimp only
        rw [hsc, Option.bind_some]
        dsimp only
        rw [hp2, Option.bind_some, hnum, Option.bind_some, if_pos rfl, k1, Option.bind_some, k2, Option.bind_some, k3, Option.bind_some, if_pos rfl, Option.bind_some, if_pos rfl, beq_self_eq_true]
      · rw [if_neg h8] at hp
        refine ⟨K0, ?_⟩
        rw [hK0 _ (by omega), Option.bind_some, if_pos rfl, if_neg hs, hr, Option.bind_some, hnum, Option.bind_some, if_pos rfl, hp, Option.bind_some, hnum, Option.bind_some, if_neg (by decide), if_pos (by omega)]
        dsimp only
        rw [nil_toList]
        rfl
    · have hts := scan_err hr he
      subst hts
      refine ⟨K0, ?_⟩
      rw [hK0 _ (by omega), Option.bind_some, if_pos rfl, if_neg hs, hr, Option.bind_some, hnum, Option.bind_some, if_neg he]
      rfl
end Go.Proofs.YtgcgpeeokdnplaaDoor.Gr
namespace Go.Proofs.YtgcgpeeokdnplaaDoor.Pure
open Go.Proofs.YtgcgpeeokdnplaaDoor.PA
theorem WordsRound : levylaw4_WordsRound.Pure := Gr.wordsRound
end Go.Proofs.YtgcgpeeokdnplaaDoor.Pure
end
