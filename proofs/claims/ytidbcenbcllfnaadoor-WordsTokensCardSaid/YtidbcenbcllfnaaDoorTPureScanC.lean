/- The document's answer on signs and quoted texts, in plain words. Conditions: each law's own. -/
import Derived.Test.YtidbcenbcllfnaaDoorTPureScanB
import Derived.Test.YtidbcenbcllfnaaDoorTPAx0
import Derived.Test.YtidbcenbcllfnaaDoorTL
import Derived.Test.YtidbcenbcllfnaaDoorTM
namespace Go.Proofs.YtidbcenbcllfnaaDoor.Pure
open Go.RowKit Go.Proofs.YtidbcenbcllfnaaDoorW.PrintWords Go.Proofs.YtidbcenbcllfnaaDoorW.PrintLast Go.Proofs.YtidbcenbcllfnaaDoor.PA Go.Proofs.YtidbcenbcllfnaaDoor.Days
set_option linter.unusedVariables false

/-! ### signs -/
theorem is2_r (s : ByteArray) (hs : s.size ≤ 8000) (i : Nat) (hi : i ≤ 8001) (x y : UInt8) : levyref4_is.f s (i : Int) ⟨#[x, y]⟩ = some (atP (fun b => b == x) s i && atP (fun b => b == y) s (i + 1)) := by
  unfold levyref4_is.f
  have e1 : wrap64 ((i : Int) + ((⟨#[x, y]⟩ : ByteArray).size : Int)) = ((i + 2 : Nat) : Int) := by rw [show ((⟨#[x, y]⟩ : ByteArray).size : Int) = 2 from rfl, wrI (by omega) (by omega)]; omega
  rw [e1]
  clear e1
  unfold atP
  by_cases hlt : i + 1 < s.size
  · obtain ⟨b, hb⟩ := byte_some s (i := i) (by omega)
    obtain ⟨b2, hb2⟩ := byte_some s hlt
    rw [if_pos (by omega), if_pos (by omega), if_pos (by omega), Int.toNat_natCast, Int.toNat_natCast, ext_bytes, Nat.add_sub_cancel_left, hb, hb2]
    obtain ⟨hl, e⟩ := List.getElem?_eq_some_iff.1 hb
    obtain ⟨hl2, e2⟩ := List.getElem?_eq_some_iff.1 hb2
    rw [List.drop_eq_getElem_cons hl, e, List.drop_eq_getElem_cons hl2, e2, show (⟨#[x, y]⟩ : ByteArray).toList = [x, y] by rw [Go.Lib.toList_data]]
    simp
  · rw [if_neg (by omega), byte_none s hlt]
    simp
theorem ext1 {s : ByteArray} {p : Nat} {x : UInt8} (h : (Ls s)[p]? = some x) : s.extract p (p + 1) = ⟨#[x]⟩ := by
  apply ByteArray.ext
  apply Array.toList_inj.mp
  obtain ⟨hl, e⟩ := List.getElem?_eq_some_iff.1 h
  rw [ByteArray.data_extract, Array.toList_extract, List.extract_eq_take_drop, Nat.add_sub_cancel_left, List.drop_eq_getElem_cons hl, e]
  rfl
theorem ext2 {s : ByteArray} {p : Nat} {x y : UInt8} (h : (Ls s)[p]? = some x) (h2 : (Ls s)[p + 1]? = some y) : s.extract p (p + 2) = ⟨#[x, y]⟩ := by
  apply ByteArray.ext
  apply Array.toList_inj.mp
  obtain ⟨hl, e⟩ := List.getElem?_eq_some_iff.1 h
  obtain ⟨hl2, e2⟩ := List.getElem?_eq_some_iff.1 h2
  rw [ByteArray.data_extract, Array.toList_extract, List.extract_eq_take_drop, Nat.add_sub_cancel_left, List.drop_eq_getElem_cons hl, e, List.drop_eq_getElem_cons hl2, e2]
  rfl
/-- One round over the table of signs. -/
theorem sg_ev {s : ByteArray} {p : Nat} (hs : s.size ≤ 8000) (hp : p < s.size) {r : Int × Int × ByteArray × Int × Int × Int × Int} (j : Nat) (t : ByteArray) (b : Bool) (hj : j < 15) (ht : rdOf ByteArray.empty tab0 (j : Int) = t) (hl : t.size ≤ 2)
    (hb : levyref4_is.f s (p : Int) t = some b) (h1 : b = true → r = (7, 0, t, 0, 0, ((p + t.size : Nat) : Int), 0)) (h2 : b = false → Ev (fun k => levyref4_word.l0 k s (p : Int) ((j + 1 : Nat) : Int)) r) :
    Ev (fun k => levyref4_word.l0 k s (p : Int) (j : Int)) r := by
  have e1 : wrap64 ((p : Int) + (t.size : Int)) = ((p + t.size : Nat) : Int) := by rw [wrI (by omega) (by omega)]; omega
  have e2 : wrap64 ((j : Int) + 1) = ((j + 1 : Nat) : Int) := by rw [wrI (by omega) (by omega)]; omega
  cases b with
  | true =>
    rw [h1 rfl]
    refine ⟨1, fun k hk => ?_⟩
    obtain ⟨q, rfl⟩ : ∃ q, k = q + 1 := ⟨k - 1, by omega⟩
    show levyref4_word.l0 (q + 1) s (p : Int) (j : Int) = _
    simp only [levyref4_word.l0]
    rw [if_pos (by omega), if_pos (by omega), ht, hb, Option.bind_some, if_pos rfl, e1]
  | false =>
    obtain ⟨K, hK⟩ := h2 rfl
    refine ⟨K + 1, fun k hk => ?_⟩
    obtain ⟨q, rfl⟩ : ∃ q, k = q + 1 := ⟨k - 1, by omega⟩
    have hq := hK q (by omega)
    dsimp only at hq
    show levyref4_word.l0 (q + 1) s (p : Int) (j : Int) = _
    simp only [levyref4_word.l0]
    rw [if_pos (by omega), if_pos (by omega), ht, hb, Option.bind_some, if_neg (by simp), e2, hq]
/-- The signs, or no word. -/
def sgnR (s : ByteArray) (p : Nat) (c : UInt8) : S33 × Bool × Nat × Int × Int := if isSg c = true then signR s p 0 0 else (⟨0, 0, ⟨#[]⟩, 0, 0⟩, false, p, 41, p)
theorem two_sg {s : ByteArray} {p : Nat} {c d : UInt8} (hc : (Ls s)[p]? = some c) (hd : (Ls s)[p + 1]? = some d) (h1 : c = 33 ∨ c = 60 ∨ c = 62) (h2 : d = 61) : rfOf (sgnR s p c) = (7, 0, ⟨#[c, d]⟩, 0, 0, ((p + 2 : Nat) : Int), 0) := by
  have hb := (bt_of s hc).1
  have hb2 := (bt_of s hd).1
  have hlt := (bt_of s hd).2
  unfold sgnR signR
  rw [hb, hb2]
  subst h2
  rcases h1 with rfl | rfl | rfl <;> (rw [if_pos (by decide), if_pos ⟨by decide, hlt, by decide⟩, ext2 hc hd]; rfl)
theorem one_sg {s : ByteArray} {p : Nat} {c : UInt8} (hc : (Ls s)[p]? = some c) (hn : (c = 33 ∨ c = 60 ∨ c = 62) → atP (fun b => b == 61) s (p + 1) = false) (h1 : isSg c = true) (h33 : c ≠ 33) : rfOf (sgnR s p c) = (7, 0, ⟨#[c]⟩, 0, 0, ((p + 1 : Nat) : Int), 0) := by
  have hb := (bt_of s hc).1
  unfold sgnR signR
  rw [hb, if_pos h1, if_neg, if_neg, ext1 hc]
  · rfl
  · intro h
    exact h33 (UInt8.toNat_inj.mp (show c.toNat = (33 : UInt8).toNat by have : (33 : UInt8).toNat = 33 := rfl; omega))
  · rintro ⟨h, h2, h3⟩
    obtain ⟨d, hd⟩ := byte_some s h2
    have := hn (by
      rcases h with h | h | h
      · exact Or.inl (UInt8.toNat_inj.mp (show c.toNat = (33 : UInt8).toNat by have : (33 : UInt8).toNat = 33 := rfl; omega))
      · exact Or.inr (Or.inl (UInt8.toNat_inj.mp (show c.toNat = (60 : UInt8).toNat by have : (60 : UInt8).toNat = 60 := rfl; omega)))
      · exact Or.inr (Or.inr (UInt8.toNat_inj.mp (show c.toNat = (62 : UInt8).toNat by have : (62 : UInt8).toNat = 62 := rfl; omega))))
    unfold atP at this
    rw [hd] at this
    rw [(bt_of s hd).1] at h3
    exact (beq_eq_false_iff_ne.mp this) (UInt8.toNat_inj.mp (show d.toNat = (61 : UInt8).toNat by have : (61 : UInt8).toNat = 61 := rfl; omega))
theorem no_sg {s : ByteArray} {p : Nat} {c : UInt8} (hc : (Ls s)[p]? = some c) (h : c = 33 ∧ atP (fun b => b == 61) s (p + 1) = false ∨ isSg c = false) : rfOf (sgnR s p c) = (0, 0, ⟨#[]⟩, 0, 0, (p : Int), 41) := by
  have hb := (bt_of s hc).1
  unfold sgnR
  rcases h with ⟨rfl, h⟩ | h
  · unfold signR
    rw [hb, if_pos (by decide), if_neg, if_pos (by decide)]
    · rfl
    · rintro ⟨_, h2, h3⟩
      obtain ⟨d, hd⟩ := byte_some s h2
      unfold atP at h
      rw [hd] at h
      rw [(bt_of s hd).1] at h3
      exact (beq_eq_false_iff_ne.mp h) (UInt8.toNat_inj.mp (show d.toNat = (61 : UInt8).toNat by have : (61 : UInt8).toNat = 61 := rfl; omega))
  · rw [if_neg (by simp [h])]
    rfl
theorem signs_p (s : ByteArray) (hs : s.size ≤ 8000) (p : Nat) (c : UInt8) (hc : (Ls s)[p]? = some c) : Ev (fun k => levyref4_word.l0 k s (p : Int) 0) (rfOf (sgnR s p c)) := by
  have hp := (bt_of s hc).2
  have at1 : ∀ x : UInt8, atP (fun b => b == x) s p = (c == x) := fun x => by unfold atP; rw [hc]
  have at2 : atP (fun b => b == 61) s (p + 1) = true → ∃ d, (Ls s)[p + 1]? = some d ∧ d = 61 := fun h => by
    unfold atP at h
    cases hd : (Ls s)[p + 1]? with
    | none => rw [hd] at h; cases h
    | some d => rw [hd] at h; exact ⟨d, rfl, by simpa using h⟩
  have two : ∀ (x : UInt8), (x = 33 ∨ x = 60 ∨ x = 62) → (atP (fun b => b == x) s p && atP (fun b => b == 61) s (p + 1)) = true → rfOf (sgnR s p c) = (7, 0, ⟨#[x, 61]⟩, 0, 0, ((p + 2 : Nat) : Int), 0) := fun x hx h => by
    rw [at1, Bool.and_eq_true, beq_iff_eq] at h
    obtain ⟨d, hd, rfl⟩ := at2 h.2
    obtain rfl := h.1
    exact two_sg hc hd hx rfl
  refine sg_ev hs hp 0 ⟨#[33, 61]⟩ _ (by decide) rfl (by decide) (is2_r s hs p (by omega) 33 61) (fun h => two 33 (by decide) h) (fun n0 => ?_)
  refine sg_ev hs hp 1 ⟨#[60, 61]⟩ _ (by decide) rfl (by decide) (is2_r s hs p (by omega) 60 61) (fun h => two 60 (by decide) h) (fun n1 => ?_)
  refine sg_ev hs hp 2 ⟨#[62, 61]⟩ _ (by decide) rfl (by decide) (is2_r s hs p (by omega) 62 61) (fun h => two 62 (by decide) h) (fun n2 => ?_)
  rw [at1] at n0 n1 n2
  have hn : (c = 33 ∨ c = 60 ∨ c = 62) → atP (fun b => b == 61) s (p + 1) = false := fun h => by
    rcases h with rfl | rfl | rfl
    · simpa using n0
    · simpa using n1
    · simpa using n2
  have one : ∀ (x : UInt8), isSg x = true → x ≠ 33 → atP (fun b => b == x) s p = true → rfOf (sgnR s p c) = (7, 0, ⟨#[x]⟩, 0, 0, ((p + 1 : Nat) : Int), 0) := fun x hx h33 h => by
    rw [at1, beq_iff_eq] at h
    subst h
    exact one_sg hc hn hx h33
  have ne : ∀ x : UInt8, atP (fun b => b == x) s p = false → c ≠ x := fun x h => by rw [at1] at h; exact beq_eq_false_iff_ne.mp h
  clear n0 n1 n2
  refine sg_ev hs hp 3 ⟨#[40]⟩ _ (by decide) rfl (by decide) (is1_r s hs p (by omega) 40) (fun h => one 40 (by decide) (by decide) h) (fun n => ?_)
  have n3 := ne _ n
  refine sg_ev hs hp 4 ⟨#[41]⟩ _ (by decide) rfl (by decide) (is1_r s hs p (by omega) 41) (fun h => one 41 (by decide) (by decide) h) (fun n => ?_)
  have n4 := ne _ n
  refine sg_ev hs hp 5 ⟨#[44]⟩ _ (by decide) rfl (by decide) (is1_r s hs p (by omega) 44) (fun h => one 44 (by decide) (by decide) h) (fun n => ?_)
  have n5 := ne _ n
  refine sg_ev hs hp 6 ⟨#[58]⟩ _ (by decide) rfl (by decide) (is1_r s hs p (by omega) 58) (fun h => one 58 (by decide) (by decide) h) (fun n => ?_)
  have n6 := ne _ n
  refine sg_ev hs hp 7 ⟨#[46]⟩ _ (by decide) rfl (by decide) (is1_r s hs p (by omega) 46) (fun h => one 46 (by decide) (by decide) h) (fun n => ?_)
  have n7 := ne _ n
  refine sg_ev hs hp 8 ⟨#[61]⟩ _ (by decide) rfl (by decide) (is1_r s hs p (by omega) 61) (fun h => one 61 (by decide) (by decide) h) (fun n => ?_)
  have n8 := ne _ n
  refine sg_ev hs hp 9 ⟨#[60]⟩ _ (by decide) rfl (by decide) (is1_r s hs p (by omega) 60) (fun h => one 60 (by decide) (by decide) h) (fun n => ?_)
  have n9 := ne _ n
  refine sg_ev hs hp 10 ⟨#[62]⟩ _ (by decide) rfl (by decide) (is1_r s hs p (by omega) 62) (fun h => one 62 (by decide) (by decide) h) (fun n => ?_)
  have n10 := ne _ n
  refine sg_ev hs hp 11 ⟨#[43]⟩ _ (by decide) rfl (by decide) (is1_r s hs p (by omega) 43) (fun h => one 43 (by decide) (by decide) h) (fun n => ?_)
  have n11 := ne _ n
  refine sg_ev hs hp 12 ⟨#[45]⟩ _ (by decide) rfl (by decide) (is1_r s hs p (by omega) 45) (fun h => one 45 (by decide) (by decide) h) (fun n => ?_)
  have n12 := ne _ n
  refine sg_ev hs hp 13 ⟨#[42]⟩ _ (by decide) rfl (by decide) (is1_r s hs p (by omega) 42) (fun h => one 42 (by decide) (by decide) h) (fun n => ?_)
  have n13 := ne _ n
  refine sg_ev hs hp 14 ⟨#[47]⟩ _ (by decide) rfl (by decide) (is1_r s hs p (by omega) 47) (fun h => one 47 (by decide) (by decide) h) (fun n => ?_)
  have n14 := ne _ n
  rw [no_sg hc]
  · refine ⟨1, fun k hk => ?_⟩
    obtain ⟨q, rfl⟩ : ∃ q, k = q + 1 := ⟨k - 1, by omega⟩
    show levyref4_word.l0 (q + 1) s (p : Int) ((15 : Nat) : Int) = _
    simp only [levyref4_word.l0]
    rw [if_neg (by omega)]
  · by_cases h33 : c = 33
    · exact Or.inl ⟨h33, hn (Or.inl h33)⟩
    · right
      have tn : ∀ x : UInt8, c ≠ x → c.toNat ≠ x.toNat := fun x h e => h (UInt8.toNat_inj.mp e)
      have t3 := tn _ n3; have t4 := tn _ n4; have t5 := tn _ n5; have t6 := tn _ n6; have t7 := tn _ n7; have t8 := tn _ n8; have t9 := tn _ n9; have t10 := tn _ n10; have t11 := tn _ n11; have t12 := tn _ n12; have t13 := tn _ n13; have t14 := tn _ n14; have t15 := tn _ h33
      unfold isSg
      rw [List.contains_eq_mem, decide_eq_false_iff_not]
      simp only [List.mem_cons, List.not_mem_nil, or_false, not_or]
      exact ⟨t3, t4, t5, t6, t7, t8, t15, t9, t10, t11, t12, t13, t14⟩

/-! ### quoted texts -/
theorem str_numU (l : List UInt8) : strOfNums (numU l) = bA l := by
  unfold numU strOfNums bA
  rw [List.map_map]
  congr 2
  rw [List.map_congr_left (g := id) (fun b _ => by simp), List.map_id]
theorem bA_snoc (acc : List UInt8) (s : ByteArray) {i : Nat} {c : UInt8} (h : (Ls s)[i]? = some c) : bA acc ++ s.extract i (i + 1) = bA (acc ++ [c]) := by
  rw [ext1 h]
  exact bA_append acc [c]
theorem fits {n : Nat} (h : n ≤ 20000) : n ≤ 9223372036854775807 := by omega
theorem ext_size1 {s : ByteArray} {i : Nat} (h : i < s.size) : (s.extract i (i + 1)).size = 1 := by
  rw [ByteArray.size_extract]; omega
theorem text_go (s : ByteArray) (hs : s.size ≤ 8000) (p : Nat) (hp : p < s.size) (d : Nat) : ∀ (i : Nat) (acc : List UInt8), s.size < i + d → i ≤ s.size → acc.length ≤ i →
    Ev (fun k => levyref4_text.l0 k s (p : Int) (i : Int) (bA acc)) (rfOf (txtR s p 0 0 d i acc)) := by
  induction d with
  | zero => intro i acc h1 h2; omega
  | succ d ih =>
    intro i acc h1 h2 hacc
    have hsz := bA_size acc
    unfold txtR
    by_cases hlt : i < s.size
    · obtain ⟨c, hb⟩ := byte_some s hlt
      have hbt := (bt_of s hb).1
      have e1 : wrap64 ((i : Int) + 1) = ((i + 1 : Nat) : Int) := by rw [wrI (by omega) (by omega)]; omega
      have e2 : wrap64 (((i + 1 : Nat) : Int) + 1) = ((i + 2 : Nat) : Int) := by rw [wrI (by omega) (by omega)]; omega
      rw [hb]
      dsimp only
      have h0 : ∀ q, levyref4_text.l0 (q + 1) s (p : Int) (i : Int) (bA acc) = levyref4_text.j1 q s (p : Int) (i : Int) (bA acc) ((c.toNat : Int) != 34) := fun q => by
        simp only [levyref4_text.l0]
        rw [if_pos (by omega), if_pos (by omega), hbt]
      by_cases c34 : (c.toNat : Int) = 34
      · -- the text ends
        rw [if_neg (by omega), if_pos c34]
        refine ⟨2, fun k hk => ?_⟩
        obtain ⟨q, rfl⟩ : ∃ q, k = q + 2 := ⟨k - 2, by omega⟩
        show levyref4_text.l0 (q + 1 + 1) s (p : Int) (i : Int) (bA acc) = _
        rw [h0, c34]
        simp only [levyref4_text.j1]
        rw [if_neg (by decide), if_neg (by omega), hsz, e1]
        by_cases h40 : acc.length ≤ 40
        · rw [if_neg (by omega), if_pos h40, str_numU]
          rfl
        · rw [if_pos (by omega), if_neg h40]
          rfl
      · have h0' : ∀ q, levyref4_text.l0 (q + 2) s (p : Int) (i : Int) (bA acc) = (if (c.toNat : Int) = 10 then (some (0, 0, (⟨#[]⟩ : ByteArray), 0, 0, (p : Int), 43)) else (if (c.toNat : Int) < 32 then (levyref4_text.j2 q s (p : Int) (i : Int) (bA acc) (c.toNat : Int) true) else (levyref4_text.j2 q s (p : Int) (i : Int) (bA acc) (c.toNat : Int) (decide ((c.toNat : Int) > 126))))) := fun q => by
          rw [h0, bne_iff_ne.mpr c34]
          simp only [levyref4_text.j1]
          rw [if_pos trivial, if_pos (by omega), if_pos (by omega), hbt]
        have bad : ∀ q x, levyref4_text.j2 (q + 1) s (p : Int) (i : Int) (bA acc) x true = some (0, 0, (⟨#[]⟩ : ByteArray), 0, 0, (i : Int), 43) := fun q x => by
          simp only [levyref4_text.j2]
          rw [if_pos trivial]
        by_cases c10 : (c.toNat : Int) = 10
        · rw [if_pos c10]
          refine ⟨2, fun k hk => ?_⟩
          obtain ⟨q, rfl⟩ : ∃ q, k = q + 2 := ⟨k - 2, by omega⟩
          show levyref4_text.l0 (q + 2) s (p : Int) (i : Int) (bA acc) = _
          rw [h0', if_pos c10]
          rfl
        rw [if_neg c10, if_neg c34]
        by_cases c92 : (c.toNat : Int) = 92
        · rw [if_pos c92]
          have h0'' : ∀ q, levyref4_text.l0 (q + 3) s (p : Int) (i : Int) (bA acc) = levyref4_text.j2 (q + 1) s (p : Int) (i : Int) (bA acc) 92 false := fun q => by
            rw [h0' (q + 1), c92, if_neg (by decide), if_neg (by decide), decide_eq_false (by decide)]
          have no : ∀ q, atP (fun b => b == 34) s (i + 1) = false → atP (fun b => b == 92) s (i + 1) = false → levyref4_text.l0 (q + 3) s (p : Int) (i : Int) (bA acc) = some (0, 0, (⟨#[]⟩ : ByteArray), 0, 0, (i : Int), 43) := fun q n1 n2 => by
            rw [h0'']
            simp only [levyref4_text.j2]
            rw [if_neg (by decide), if_pos trivial, e1, is1_r s hs (i + 1) (by omega), Option.bind_some, n1, if_neg (by simp), is1_r s hs (i + 1) (by omega), Option.bind_some, n2, if_neg (by simp)]
          by_cases hl2 : i + 1 < s.size
          · obtain ⟨c2, hb2⟩ := byte_some s hl2
            rw [hb2]
            dsimp only
            have a1 : ∀ x : UInt8, atP (fun b => b == x) s (i + 1) = (c2 == x) := fun x => by unfold atP; rw [hb2]
            by_cases hq : (c2.toNat : Int) = 34 ∨ (c2.toNat : Int) = 92
            · rw [if_pos hq]
              obtain ⟨K, hK⟩ := ih (i + 2) (acc ++ [c2]) (by omega) (by omega) (by rw [List.length_append]; simp; omega)
              refine ⟨K + 3, fun k hk => ?_⟩
              obtain ⟨q, rfl⟩ : ∃ q, k = q + 3 := ⟨k - 3, by omega⟩
              have hq2 := hK q (by omega)
              dsimp only at hq2
              show levyref4_text.l0 (q + 3) s (p : Int) (i : Int) (bA acc) = _
              rw [h0'']
              simp only [levyref4_text.j2]
              have f1 : ∀ z, (if (0 : Int) ≤ ((i + 1 : Nat) : Int) then (if ((i + 1 : Nat) : Int) ≤ ((i + 2 : Nat) : Int) then (if ((i + 2 : Nat) : Int) ≤ (s.size : Int) then (if (bA acc).size + (s.extract (i + 1) (i + 2)).size ≤ 9223372036854775807 then z else none) else none) else none) else none) = (z : Option (Int × Int × ByteArray × Int × Int × Int × Int)) := fun z => by
                have hx := ext_size1 hl2
                rw [if_pos (by omega), if_pos (by omega), if_pos (by omega), hsz, hx, if_pos (fits (by omega))]
              rw [if_neg (by decide), if_pos trivial, e1, is1_r s hs (i + 1) (by omega), Option.bind_some, is1_r s hs (i + 1) (by omega), Option.bind_some, e2, Int.toNat_natCast, Int.toNat_natCast, f1, bA_snoc acc s hb2, a1, a1, hq2]
              rcases hq with h | h
              · have : c2 = 34 := UInt8.toNat_inj.mp (show c2.toNat = (34 : UInt8).toNat by have : (34 : UInt8).toNat = 34 := rfl; omega)
                subst this
                rw [if_pos (by decide)]
              · have : c2 = 92 := UInt8.toNat_inj.mp (show c2.toNat = (92 : UInt8).toNat by have : (92 : UInt8).toNat = 92 := rfl; omega)
                subst this
                rw [if_neg (by decide), if_pos (by decide)]
            · rw [if_neg hq]
              refine ⟨3, fun k hk => ?_⟩
              obtain ⟨q, rfl⟩ : ∃ q, k = q + 3 := ⟨k - 3, by omega⟩
              show levyref4_text.l0 (q + 3) s (p : Int) (i : Int) (bA acc) = _
              rw [no q (by rw [a1]; exact beq_eq_false_iff_ne.mpr (fun h => hq (by rw [h]; decide))) (by rw [a1]; exact beq_eq_false_iff_ne.mpr (fun h => hq (by rw [h]; decide)))]
              rfl
          · rw [byte_none s hl2]
            dsimp only
            refine ⟨3, fun k hk => ?_⟩
            obtain ⟨q, rfl⟩ : ∃ q, k = q + 3 := ⟨k - 3, by omega⟩
            show levyref4_text.l0 (q + 3) s (p : Int) (i : Int) (bA acc) = _
            rw [no q (by unfold atP; rw [byte_none s hl2]) (by unfold atP; rw [byte_none s hl2])]
            rfl
        rw [if_neg c92]
        by_cases hr : (c.toNat : Int) < 32 ∨ 126 < (c.toNat : Int)
        · rw [if_pos hr]
          refine ⟨3, fun k hk => ?_⟩
          obtain ⟨q, rfl⟩ : ∃ q, k = q + 3 := ⟨k - 3, by omega⟩
          show levyref4_text.l0 (q + 1 + 2) s (p : Int) (i : Int) (bA acc) = _
          rw [h0', if_neg c10]
          by_cases h32 : (c.toNat : Int) < 32
          · rw [if_pos h32, bad]
            rfl
          · rw [if_neg h32, decide_eq_true (show (c.toNat : Int) > 126 by omega), bad]
            rfl
        · rw [if_neg hr]
          obtain ⟨K, hK⟩ := ih (i + 1) (acc ++ [c]) (by omega) (by omega) (by rw [List.length_append]; simp; omega)
          refine ⟨K + 3, fun k hk => ?_⟩
          obtain ⟨q, rfl⟩ : ∃ q, k = q + 3 := ⟨k - 3, by omega⟩
          have hq2 := hK q (by omega)
          dsimp only at hq2
          show levyref4_text.l0 (q + 1 + 2) s (p : Int) (i : Int) (bA acc) = _
          have hx := ext_size1 hlt
          rw [h0', if_neg c10, if_neg (by omega), decide_eq_false (by omega)]
          simp only [levyref4_text.j2]
          rw [if_neg (by decide), if_neg c92, e1, Int.toNat_natCast, Int.toNat_natCast, bA_snoc acc s hb, hsz, hx]
          clear e1 e2
          rw [if_pos (by omega), if_pos (by omega), if_pos (by omega), if_pos (fits (by omega)), hq2]
    · rw [byte_none s hlt]
      dsimp only
      refine ⟨2, fun k hk => ?_⟩
      obtain ⟨q, rfl⟩ : ∃ q, k = q + 2 := ⟨k - 2, by omega⟩
      show levyref4_text.l0 (q + 2) s (p : Int) (i : Int) (bA acc) = _
      simp only [levyref4_text.l0]
      rw [if_neg (by omega)]
      simp only [levyref4_text.j1]
      rw [if_neg (by decide), if_pos (by omega)]
      rfl
theorem text_p (s : ByteArray) (hs : s.size ≤ 8000) (p : Nat) (hp : p < s.size) : Ev (fun k => levyref4_text.f k s (p : Int)) (rfOf (quotedR s p 0 0)) := by
  have e1 : wrap64 ((p : Int) + 1) = ((p + 1 : Nat) : Int) := by rw [wrI (by omega) (by omega)]; omega
  refine Ev.congr (fun k => ?_) (text_go s hs p hp (s.size + 1) (p + 1) [] (by omega) (by omega) (by simp))
  show levyref4_text.l0 k s (p : Int) (wrap64 ((p : Int) + 1)) ⟨#[]⟩ = _
  rw [e1]
  rfl
end Go.Proofs.YtidbcenbcllfnaaDoor.Pure
