/- Dates: a day's text is read as that day, and every date that is read is the text of its day. Conditions: each law's own. -/
import Derived.Test.YtjlclkenfmbahaaGreatDoorMHWr
import Derived.Test.YtjlclkenfmbahaaGreatDoorMG
import Derived.Test.YtjlclkenfmbahaaGreatDoorMPAx0
namespace Go.Proofs.YtjlclkenfmbahaaGreatDoor.Gr
open Go.RowKit Go.Proofs.YtjlclkenfmbahaaGreatDoorW.PrintWords Go.Proofs.YtjlclkenfmbahaaGreatDoorW.PrintLast Go.Proofs.YtjlclkenfmbahaaGreatDoor.PA Go.Proofs.YtjlclkenfmbahaaGreatDoor.Days
set_option linter.unusedVariables false
set_option linter.unusedSectionVars false
theorem parse_ok {s : ByteArray} (hs : s.size = 10) (h : (parseS s).2.2 = 0) : ∀ j, j < 10 → okAt s j = true := by
 have key : ∀ n, n ≤ 10 → ∀ j, j < n → okAt s j = true := by
  intro n
  induction n with
  | zero => intro _ j hj; omega
  | succ n ih =>
   intro hn j hj
   have h0 := ih (by omega)
   by_cases hjn : j < n
   ·exact h0 j hjn
   ·obtain rfl : j = n := by omega
    cases e : okAt s j with
    | true => rfl
    | false =>
     rw [parse_bad (by omega) (by omega) h0 e] at h
     cases h
 exact key 10 (Nat.le_refl _)
theorem okAt_dated {s : ByteArray} {j : Nat} (hj : j < 10) (h : j < s.size) : okAt s j = datedT s 0 j := by
 obtain ⟨b, hb⟩ := byte_some s h
 have e := (bt_of s hb).1
 unfold okAt datedT dash atP
 rw [Nat.zero_add, hb, e]
 have b45 : ((b.toNat : Int) == 45) = (b.toNat == 45) := by
  rw [Bool.eq_iff_iff, beq_iff_eq, beq_iff_eq]
  omega
 by_cases h4 : j = 4
 ·subst h4
  simp only [beq_self_eq_true, Bool.true_or, if_true, true_or]
  exact b45
 ·by_cases h7 : j = 7
  ·subst h7
   simp only [beq_self_eq_true, Bool.or_true, if_true, or_true]
   exact b45
  ·have e1 : (j == 4 || j == 7) = false := by simp [h4, h7]
   rw [e1, if_neg (by decide), if_neg (by omega)]
   unfold isDg
   have h1 : (48 ≤ (b.toNat : Int)) ↔ 48 ≤ b.toNat := by omega
   have h2 : ((b.toNat : Int) ≤ 57) ↔ b.toNat ≤ 57 := by omega
   simp only [h1, h2]
theorem dated_of {s : ByteArray} (hs : s.size = 10) (h : ∀ j, j < 10 → okAt s j = true) : datedB s 0 = true := by
 have : ∀ d i, i + d = 10 → datedGo s 0 d i = true := by
  intro d
  induction d with
  | zero => intro i _; rfl
  | succ d ih =>
   intro i hi
   unfold datedGo
   rw [if_pos (by rw [← okAt_dated (by omega) (by omega)]; exact h i (by omega))]
   exact ih _ (by omega)
 exact this 10 0 rfl
theorem ok_of {s : ByteArray} (hs : s.size = 10) (h : datedB s 0 = true) : ∀ j, j < 10 → okAt s j = true := fun j hj => by
 rw [okAt_dated hj (by omega)]
 exact datedGo_at 10 0 h j (by omega) (by omega)
theorem text_of {s : ByteArray} (hs : s.size = 10) (h : ∀ j, j < 10 → okAt s j = true) : ∃ y m d : Int, 0 ≤ y ∧ y ≤ 9999 ∧ 0 ≤ m ∧ m ≤ 99 ∧ 0 ≤ d ∧ d ≤ 99 ∧ s = strOfNums (textL y m d) := by
 have hl : (Ls s).length = 10 := by rw [Ls_len]; exact hs
 obtain ⟨c0, c1, c2, c3, c4, c5, c6, c7, c8, c9, hc⟩ : ∃ c0 c1 c2 c3 c4 c5 c6 c7 c8 c9, Ls s = [c0, c1, c2, c3, c4, c5, c6, c7, c8, c9] := by
  match hL : Ls s, hl with
  | [c0, c1, c2, c3, c4, c5, c6, c7, c8, c9], _ => exact ⟨c0, c1, c2, c3, c4, c5, c6, c7, c8, c9, rfl⟩
 have hb : ∀ j c, (Ls s)[j]? = some c → bt s (j : Nat) = (c.toNat : Int) := fun j c hj => (bt_of s hj).1
 rw [hc] at hb
 have b0 := hb 0 c0 rfl
 have b1 := hb 1 c1 rfl
 have b2 := hb 2 c2 rfl
 have b3 := hb 3 c3 rfl
 have b4 := hb 4 c4 rfl
 have b5 := hb 5 c5 rfl
 have b6 := hb 6 c6 rfl
 have b7 := hb 7 c7 rfl
 have b8 := hb 8 c8 rfl
 have b9 := hb 9 c9 rfl
 have dg : ∀ (j : Nat) (c : UInt8), j < 10 → dash j = false → bt s (j : Nat) = (c.toNat : Int) → 48 ≤ c.toNat ∧ c.toNat ≤ 57 := by
  intro j c hj hd hbj
  have := h j hj
  rw [okAt_digit hd, hbj] at this
  simp only [Bool.and_eq_true, decide_eq_true_eq] at this
  omega
 have ds : ∀ (j : Nat) (c : UInt8), j < 10 → dash j = true → bt s (j : Nat) = (c.toNat : Int) → c = 45 := by
  intro j c hj hd hbj
  have := h j hj
  rw [okAt_dash hd, hbj] at this
  have h45 : c.toNat = 45 := by
   have := beq_iff_eq.1 this
   omega
  exact UInt8.toNat_inj.mp h45
 have d0 := dg 0 c0 (by decide) rfl b0
 have d1 := dg 1 c1 (by decide) rfl b1
 have d2 := dg 2 c2 (by decide) rfl b2
 have d3 := dg 3 c3 (by decide) rfl b3
 have d4 := ds 4 c4 (by decide) rfl b4
 have d5 := dg 5 c5 (by decide) rfl b5
 have d6 := dg 6 c6 (by decide) rfl b6
 have d7 := ds 7 c7 (by decide) rfl b7
 have d8 := dg 8 c8 (by decide) rfl b8
 have d9 := dg 9 c9 (by decide) rfl b9
 subst d4 d7
 clear b0 b1 b2 b3 b4 b5 b6 b7 b8 b9 hb dg ds h
 refine ⟨1000 * ((c0.toNat : Int) - 48) + 100 * ((c1.toNat : Int) - 48) + 10 * ((c2.toNat : Int) - 48) + ((c3.toNat : Int) - 48), 10 * ((c5.toNat : Int) - 48) + ((c6.toNat : Int) - 48), 10 * ((c8.toNat : Int) - 48) + ((c9.toNat : Int) - 48), by omega, by omega, by omega, by omega, by omega, by omega, ?_⟩
 have fin : ∀ (c : UInt8) (z : Int), z = c.toNat → UInt8.ofNat z.toNat = c := fun c z hz => by
  subst hz
  rw [Int.toNat_natCast]
  simp
 have e : Ls s = (textL (1000 * ((c0.toNat : Int) - 48) + 100 * ((c1.toNat : Int) - 48) + 10 * ((c2.toNat : Int) - 48) + ((c3.toNat : Int) - 48)) (10 * ((c5.toNat : Int) - 48) + ((c6.toNat : Int) - 48)) (10 * ((c8.toNat : Int) - 48) + ((c9.toNat : Int) - 48))).map fun n => UInt8.ofNat n.toNat := by
  rw [hc]
  unfold textL
  simp only [List.map_cons, List.map_nil]
  simp only [List.cons.injEq, and_true]
  exact ⟨(fin c0 _ (by omega)).symm, (fin c1 _ (by omega)).symm, (fin c2 _ (by omega)).symm, (fin c3 _ (by omega)).symm, rfl, (fin c5 _ (by omega)).symm, (fin c6 _ (by omega)).symm, rfl, (fin c8 _ (by omega)).symm, (fin c9 _ (by omega)).symm⟩
 exact Ls_inj e
theorem day_mk {n : Int} (h : 0 ≤ n ∧ n ≤ 109572) : (dayT n).size = 10 ∧ datedB (dayT n) 0 = true ∧ (parseS (dayT n)).1 = n ∧ (parseS (dayT n)).2.2 = 0 := by
 obtain ⟨q, hq⟩ := Cal.mon_exists h.1 h.2
 have hq36 := hq.1
 have hl := hq.len
 have hlow := hq.2.1
 have hlb := Cal.len_bd q
 have hp := parse_text (y := (dateS n q).1) (m := (dateS n q).2.1) (d := (dateS n q).2.2) (by unfold dateS; simp only; omega) (by unfold dateS; simp only; omega) (by unfold dateS; simp only; omega) (by unfold dateS; simp only; omega) (by unfold dateS; simp only; omega) (by unfold dateS; simp only; omega)
 have hn : numS (dateS n q).1 (dateS n q).2.1 (dateS n q).2.2 = (n, 0) := by
  have := numS_ok (q := q) hq36 (d := n - Cal.B q + 1) (by omega) (by omega)
  unfold dateS
  dsimp only
  rw [this]
  congr 1
  omega
 rw [hn, if_pos rfl] at hp
 have hs : (dayT n).size = 10 := by unfold dayT; rw [strOfNums_size]; rfl
 have e : parseS (dayT n) = (n, 10, 0) := by
  unfold dayT
  rw [monOf_eq hq]
  exact hp
 rw [e]
 refine ⟨hs, ?_, rfl, rfl⟩
 exact dated_of hs (parse_ok hs (by rw [e]))
theorem day_inv {s : ByteArray} (hs : s.size = 10) (hd : datedB s 0 = true) (hp : (parseS s).2.2 = 0) : 0 ≤ (parseS s).1 ∧ (parseS s).1 ≤ 109572 ∧ dayT (parseS s).1 = s := by
 obtain ⟨y, m, d, y0, y1, m0, m1, d0, d1, hsd⟩ := text_of hs (ok_of hs hd)
 have ht := parse_text y0 y1 m0 m1 d0 d1
 rw [← hsd] at ht
 have h0 : (numS y m d).2 = 0 := by
  by_cases h : (numS y m d).2 = 0
  ·exact h
  ·rw [if_neg h] at ht
   rw [ht] at hp
   exact hp
 rw [if_pos h0] at ht
 rw [ht]
 dsimp only
 unfold numS at h0 ⊢
 split at h0
 ·cases h0
 ·next h1 =>
  rw [if_neg h1]
  split at h0
  ·cases h0
  ·next h2 =>
   rw [if_neg h2]
   dsimp only
   obtain ⟨h3, h4⟩ := not_or.mp h1
   obtain ⟨h5, h6⟩ := not_or.mp h2
   obtain ⟨hm1, hm2⟩ := month_of (y := y) (m := m) (d := d) (by omega) (by omega)
   obtain ⟨q, hq⟩ : ∃ q, q = 12 * (y - 1900).toNat + (m - 1).toNat := ⟨_, rfl⟩
   have hlen : Cal.len q = Cal.lastD y m := by
    unfold Cal.len
    have e1 : (1900 : Int) + ((q / 12 : Nat) : Int) = y := by omega
    have e2 : ((q % 12 : Nat) : Int) + 1 = m := by omega
    rw [e1, e2]
   rw [← hq]
   have hB : Cal.B (q + 1) = Cal.B q + Cal.len q := rfl
   have hM : Cal.Mon (Cal.B q + d - 1) q := ⟨by omega, by omega, by rw [hB, hlen]; omega⟩
   refine ⟨hM.day.1, hM.day.2, ?_⟩
   unfold dayT
   rw [monOf_eq hM, hsd]
   unfold dateS
   dsimp only
   have e1 : (1900 : Int) + ((q / 12 : Nat) : Int) = y := by omega
   have e2 : ((q % 12 : Nat) : Int) + 1 = m := by omega
   have e3 : Cal.B q + d - 1 - Cal.B q + 1 = d := by omega
   rw [e1, e2, e3]
end Go.Proofs.YtjlclkenfmbahaaGreatDoor.Gr
