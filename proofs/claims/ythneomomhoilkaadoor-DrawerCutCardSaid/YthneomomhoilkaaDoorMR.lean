/- Several texts of this claim in one, each in a section of its own; what nothing reaches is left out. Conditions: each law's own. -/
import Derived.Test.YthneomomhoilkaaDoorMO
import Derived.Test.YthneomomhoilkaaDoorML
set_option linter.unusedVariables false
set_option linter.unusedSimpArgs false
set_option linter.unusedSectionVars false
section
namespace Go.Proofs.YthneomomhoilkaaDoor.PA
open Go.RowKit Go.Maps Go.Proofs.YthneomomhoilkaaDoorW.PrintWords Go.Proofs.YthneomomhoilkaaDoorW.PrintLast Go.Proofs.YthneomomhoilkaaDoorW.PrintMore Go.Proofs.YthneomomhoilkaaDoor.Dw
theorem gen_one : genS (nameS 1) = 1 := gen_name (by decide)
theorem best_none {B : List Int} {s : Int} (h : wholeS B 0 = none) : seekS [f1F B s] = Fnd.zero := by
  have hc : candF (f1F B s) = none := by
    unfold candF
    rw [if_neg (by show ¬ genS (nameS 1) = 0; rw [gen_one]; decide)]
    show (match wholeS B 0 with | some (s', r, sz) => (some ⟨genS (nameS 1), s', r.body, [], sz, B.length, s⟩ : Option Fnd) | none => none) = none
    rw [h]
  have hb : bestS [f1F B s] = Fnd.zero := by
    unfold bestS
    rw [List.foldl_cons, List.foldl_nil]
    unfold stepB
    rw [hc]
  unfold seekS
  rw [hb]
  rfl
theorem best_some {B : List Int} {s : Int} {sm : Nat} {r : Rec} {sz : Nat} (h : wholeS B 0 = some (sm, r, sz)) : seekS [f1F B s] = (⟨1, sm, r.body, [], sz, B.length, s⟩ : Fnd).got (scanS sm (B.length + 1) (B.drop sz) 1) := by
  have hc : candF (f1F B s) = some ⟨1, sm, r.body, [], sz, B.length, s⟩ := by
    unfold candF
    rw [if_neg (by show ¬ genS (nameS 1) = 0; rw [gen_one]; decide)]
    show (match wholeS B 0 with | some (s', r, sz) => (some ⟨genS (nameS 1), s', r.body, [], sz, B.length, s⟩ : Option Fnd) | none => none) = _
    rw [h, gen_one]
  have hb : bestS [f1F B s] = ⟨1, sm, r.body, [], sz, B.length, s⟩ := by
    unfold bestS
    rw [List.foldl_cons, List.foldl_nil]
    unfold stepB
    rw [hc]
    rfl
  unfold seekS
  rw [hb]
  dsimp only
  rw [if_neg (by decide), get_one]
  rfl
theorem opn_none {B : List Int} {sum : Nat} (h : wholeS B 0 = none) (s : Int) : ((One B s (-1) 0 0 false).opn sum).err = 0 ∧ ((One B s (-1) 0 0 false).opn sum).summary = [] ∧ ((One B s (-1) 0 0 false).opn sum).recs = [] := by
  have hsk : seekS (One B s (-1) 0 0 false).fs = Fnd.zero := best_none h
  have hch := one_chg (B := B) (s := s) (u := -1) (first_free (a := 0) (c := 0) (by decide))
  rw [if_pos (by decide)] at hch
  have hrem : (One B s (-1) 0 0 false).rem (nameS 1) = Dk.start [] := by
    unfold Dk.rem
    rw [hch]
    dsimp only
    rw [if_pos rfl]
    show ({ One B s (-1) 0 0 false with fs := remF [f1F B s] (nameS 1) } : Dk) = _
    unfold remF
    rw [place_one]
    rfl
  have hm : (One B s (-1) 0 0 false).mend Fnd.zero = (0, Dk.start []) := by
    have h1 : (One B s (-1) 0 0 false).mend1 Fnd.zero = (0, One B s (-1) 0 0 false) := rfl
    have h2 : (One B s (-1) 0 0 false).mend2 Fnd.zero = (0, One B s (-1) 0 0 false) := rfl
    have h3 : Dk.clear 0 [nameS 1] (One B s (-1) 0 0 false) = (0, Dk.start []) := by
      unfold Dk.clear
      rw [gen_one, if_pos (by decide), hch]
      dsimp only
      rw [if_neg (by decide), hrem]
      rfl
    unfold Dk.mend
    rw [h1]
    dsimp only
    rw [if_neg (by decide), h2]
    dsimp only
    rw [if_neg (by decide)]
    exact h3
  have hl := lay_first (pc0 sum) (by rw [pc0_len]; decide)
  have ho : (One B s (-1) 0 0 false).opn sum = ⟨0, 1, [], [], One (pc0 sum) (pc0 sum).length (-1) 0 0 false⟩ := by
    unfold Dk.opn
    rw [if_neg (by show ¬ false = true; decide)]
    dsimp only
    rw [hsk, if_neg (by rintro ⟨h, _⟩; exact absurd h (by decide)), hm]
    dsimp only
    rw [if_neg (by decide), if_pos (show Fnd.zero.gen = 0 from rfl), show pieceS 0 sum 0 [] = pc0 sum from rfl, hl]
    rfl
  rw [ho]
  exact ⟨rfl, rfl, rfl⟩
theorem opn_some {B : List Int} {sum : Nat} {r : Rec} {sz : Nat} (hB : Byt B) (h : wholeS B 0 = some (sum, r, sz)) : ((One B B.length (-1) 0 0 false).opn sum).err = 0 ∧ ((One B B.length (-1) 0 0 false).opn sum).summary = r.body ∧ ((One B B.length (-1) 0 0 false).opn sum).recs = scanS sum (B.length + 1) (B.drop sz) 1 := by
  obtain ⟨rs, hrs⟩ : ∃ rs, rs = scanS sum (B.length + 1) (B.drop sz) 1 := ⟨_, rfl⟩
  obtain ⟨j, hj⟩ : ∃ j : Fnd, j = (⟨1, sum, r.body, [], sz, B.length, B.length⟩ : Fnd).got rs := ⟨_, rfl⟩
  have hsk : seekS (One B B.length (-1) 0 0 false).fs = j := by rw [hj, hrs]; exact best_some h
  have hsize : j.size ≤ B.length := by
    obtain ⟨⟨rest, q1⟩, _, _, _, q5, _⟩ := whole_inv hB h
    obtain ⟨rest2, h1, _⟩ := scan_inv (sum := sum) (B.length + 1) (B.drop sz) 1 (hB.drop _)
    have h4 := congrArg List.length h1
    rw [List.length_append, List.length_drop, ← hrs] at h4
    have q6 := congrArg List.length q1
    rw [List.length_append, pieceS_len] at q6
    rw [hj]
    show sz + (recsB sum 1 rs).length ≤ B.length
    omega
  have jg : j.gen = 1 := by rw [hj]; rfl
  have ja : j.all = B.length := by rw [hj]; rfl
  have ju : j.sure = B.length := by rw [hj]; rfl
  have hcl : ∀ (B' : List Int) (s' : Int), Dk.clear 1 ((One B' s' (-1) 0 0 false).fs.map (·.f0)) (One B' s' (-1) 0 0 false) = (0, One B' s' (-1) 0 0 false) := fun B' s' => by
    show Dk.clear 1 [nameS 1] (One B' s' (-1) 0 0 false) = _
    unfold Dk.clear
    rw [gen_one, if_neg (by decide)]
    rfl
  have hm2 : ∀ (B' : List Int) (s' : Int), (One B' s' (-1) 0 0 false).mend2 j = (0, One B' s' (-1) 0 0 false) := fun B' s' => by
    unfold Dk.mend2
    rw [if_neg (by rw [ju]; omega)]
  obtain ⟨B', s', hm1⟩ : ∃ B' s', (One B B.length (-1) 0 0 false).mend1 j = (0, One B' s' (-1) 0 0 false) := by
    by_cases hlt : j.size < B.length
    · have hch := one_chg (B := B) (s := B.length) (u := -1) (first_free (a := 0) (c := 0) (by decide))
      rw [if_pos (by decide)] at hch
      refine ⟨B.take (max (j.size : Int) 0).toNat, min (B.length : Int) (B.take (max (j.size : Int) 0).toNat).length, ?_⟩
      unfold Dk.mend1
      rw [if_pos (by rw [jg, ja]; exact ⟨by decide, hlt⟩), jg, hch, one_doF hch]
      rfl
    · refine ⟨B, B.length, ?_⟩
      unfold Dk.mend1
      rw [if_neg (by rw [ja]; omega)]
  have hm : (One B B.length (-1) 0 0 false).mend j = (0, One B' s' (-1) 0 0 false) := by
    unfold Dk.mend
    rw [hm1]
    dsimp only
    rw [if_neg (by decide), hm2]
    dsimp only
    rw [if_neg (by decide), jg, hcl]
  have ho : (One B B.length (-1) 0 0 false).opn sum = ⟨0, j.gen, j.summary, j.recs, One B' s' (-1) 0 0 false⟩ := by
    unfold Dk.opn
    rw [if_neg (by show ¬ false = true; decide)]
    dsimp only
    rw [hsk, if_neg (by rintro ⟨_, h⟩; exact h (by rw [hj]; rfl)), hm]
    dsimp only
    rw [if_neg (by decide), if_neg (by rw [jg]; decide)]
  rw [ho, ← hrs, hj]
  exact ⟨rfl, rfl, rfl⟩
def cntR : List Rec → Nat → Nat
  | [], _ => 0
  | r :: rs, t => if 18 + r.body.length ≤ t then cntR rs (t - (18 + r.body.length)) + 1 else 0
theorem scan_cut {sum : Nat} (hs : sum < 4294967296) : ∀ (rs : List Rec) (k m t : Nat), (∀ r ∈ rs, r.Ok) → 1 ≤ m → m + rs.length < 4294967296 → t < k → scanS sum k ((recsB sum m rs).take t) m = rs.take (cntR rs t)
  | rs, 0, m, t, _, _, _, hk => by omega
  | [], k + 1, m, t, _, _, _, _ => by
    have : wholeS (([] : List Int)) m = none := by unfold wholeS; rw [if_pos (.inl (by decide))]
    simp [recsB, scanS, this]
  | r :: rs, k + 1, m, t, hok, hm, hl, hk => by
    have hr := hok r (by simp)
    have hrs : ∀ q ∈ rs, q.Ok := fun q hq => hok q (List.mem_cons_of_mem _ hq)
    unfold cntR
    by_cases ht : 18 + r.body.length ≤ t
    · rw [if_pos ht, recsB, List.take_append, pieceS_len, List.take_of_length_le (by rw [pieceS_len]; exact ht), scanS, whole_piece (by omega) hs hr.len (by omega)]
      simp only [if_true]
      rw [List.drop_left' (pieceS_len _ _ _ _), scan_cut hs rs k (m + 1) (t - (18 + r.body.length)) hrs (by omega) (by simp at hl; omega) (by omega)]
      rfl
    · rw [if_neg ht, recsB, scanS, whole_cut ⟨hr.k0, hr.k1⟩ hr.byt (recsB_byt sum (m + 1) rs hrs) (by omega) hs hr.len (by omega) (by omega)]
      rfl
def startR : List Rec → Nat → Nat
  | [], _ => 0
  | r :: rs, t => if 18 + r.body.length ≤ t then startR rs (t - (18 + r.body.length)) + (18 + r.body.length) else 0
theorem scan_turn {sum : Nat} (hs : sum < 4294967296) {y : Int} (hy : 0 ≤ y ∧ y < 256) : ∀ (rs : List Rec) (k m t : Nat), (∀ r ∈ rs, r.Ok) → 1 ≤ m → m + rs.length < 4294967296 → t < k → t < (recsB sum m rs).length → (recsB sum m rs).getD t 0 ≠ y → ¬ (9 ≤ t - startR rs t ∧ t - startR rs t < 13) → scanS sum k ((recsB sum m rs).set t y) m = rs.take (cntR rs t)
  | rs, 0, m, t, _, _, _, hk, _, _, _ => by omega
  | [], k + 1, m, t, _, _, _, _, ht, _, _ => by simp [recsB] at ht
  | r :: rs, k + 1, m, t, hok, hm, hl, hk, htl, hne, hx => by
    have hr := hok r (by simp)
    have hrs : ∀ q ∈ rs, q.Ok := fun q hq => hok q (List.mem_cons_of_mem _ hq)
    rw [recsB] at htl hne
    unfold startR at hx
    unfold cntR
    by_cases ht : 18 + r.body.length ≤ t
    · rw [if_pos ht] at hx
      rw [List.length_append, pieceS_len] at htl
      have hset : (pieceS m sum r.kind r.body ++ recsB sum (m + 1) rs).set t y = pieceS m sum r.kind r.body ++ (recsB sum (m + 1) rs).set (t - (18 + r.body.length)) y := by
        rw [List.set_append, if_neg (by rw [pieceS_len]; omega), pieceS_len]
      have hget : (pieceS m sum r.kind r.body ++ recsB sum (m + 1) rs).getD t 0 = (recsB sum (m + 1) rs).getD (t - (18 + r.body.length)) 0 := by
        rw [List.getD_eq_getElem?_getD, List.getD_eq_getElem?_getD, List.getElem?_append_right (by rw [pieceS_len]; omega), pieceS_len]
      rw [hget] at hne
      rw [if_pos ht, recsB, hset, scanS, whole_piece (by omega) hs hr.len (by omega)]
      simp only [if_true]
      rw [List.drop_left' (pieceS_len _ _ _ _), scan_turn hs hy rs k (m + 1) (t - (18 + r.body.length)) hrs (by omega) (by simp at hl; omega) (by omega) (by omega) hne (by omega)]
      rfl
    · rw [if_neg ht] at hx
      rw [if_neg ht, recsB, scanS, whole_turn ⟨hr.k0, hr.k1⟩ hr.byt (recsB_byt sum (m + 1) rs hrs) (by omega) hs hr.len (by omega) (by omega) (by simpa using hx) hy hne]
      rfl
theorem whole_pc0 {sum : Nat} (hs : sum < 4294967296) (rest : List Int) : wholeS (pc0 sum ++ rest) 0 = some (sum, ⟨0, []⟩, 18) := whole_piece (by decide) hs (by decide) (fun _ => rfl)
theorem stands_cut {sum : Nat} (hs : sum < 4294967296) {rs : List Rec} (hok : ∀ r ∈ rs, r.Ok) (hl : rs.length < 100000) {t : Nat} (ht : t ≤ (pc0 sum ++ recsB sum 1 rs).length) :
    let B := (pc0 sum ++ recsB sum 1 rs).take t
    let R := (One B B.length (-1) 0 0 false).opn sum
    R.err = 0 ∧ R.summary = [] ∧ R.recs = if t < 18 then [] else rs.take (cntR rs (t - 18)) := by
  intro B R
  have hP : Byt (pc0 sum) := pieceS_byt ⟨by omega, by omega⟩ byt_nil
  have hB : Byt B := (byt_append.2 ⟨hP, recsB_byt sum 1 rs hok⟩).take _
  by_cases h18 : t < 18
  · have hw : wholeS B 0 = none := whole_cut ⟨by omega, by omega⟩ byt_nil (recsB_byt sum 1 rs hok) (by decide) hs (by decide) (fun _ => rfl) (by simpa using h18)
    rw [if_pos h18]
    exact opn_none hw _
  · have hBe : B = pc0 sum ++ (recsB sum 1 rs).take (t - 18) := by
      show (pc0 sum ++ recsB sum 1 rs).take t = _
      rw [List.take_append, pc0_len, List.take_of_length_le (by rw [pc0_len]; omega)]
    have hw : wholeS B 0 = some (sum, ⟨0, []⟩, 18) := by rw [hBe]; exact whole_pc0 hs _
    obtain ⟨h1, h2, h3⟩ := opn_some hB hw
    refine ⟨h1, h2, ?_⟩
    rw [if_neg h18, h3]
    have hd : B.drop 18 = (recsB sum 1 rs).take (t - 18) := by rw [hBe, List.drop_left' (pc0_len sum)]
    have hBl : B.length = t := by show ((pc0 sum ++ recsB sum 1 rs).take t).length = t; rw [List.length_take]; omega
    rw [hd]
    exact scan_cut hs rs _ 1 (t - 18) hok (by decide) (by omega) (by omega)
theorem stands_turn {sum : Nat} (hs : sum < 4294967296) {rs : List Rec} (hok : ∀ r ∈ rs, r.Ok) (hl : rs.length < 100000) {t : Nat} (ht : t < (pc0 sum ++ recsB sum 1 rs).length) {y : Int} (hy : 0 ≤ y ∧ y < 256) (hne : (pc0 sum ++ recsB sum 1 rs).getD t 0 ≠ y)
    (hx : ¬ (9 ≤ t - (if t < 18 then 0 else 18 + startR rs (t - 18)) ∧ t - (if t < 18 then 0 else 18 + startR rs (t - 18)) < 13)) :
    let B := (pc0 sum ++ recsB sum 1 rs).set t y
    let R := (One B B.length (-1) 0 0 false).opn sum
    R.err = 0 ∧ R.summary = [] ∧ R.recs = if t < 18 then [] else rs.take (cntR rs (t - 18)) := by
  intro B R
  have hP : Byt (pc0 sum) := pieceS_byt ⟨by omega, by omega⟩ byt_nil
  have hB : Byt B := byt_set (byt_append.2 ⟨hP, recsB_byt sum 1 rs hok⟩) t hy
  by_cases h18 : t < 18
  · rw [if_pos h18] at hx
    have hw : wholeS B 0 = none := whole_turn ⟨by omega, by omega⟩ byt_nil (recsB_byt sum 1 rs hok) (by decide) hs (by decide) (fun _ => rfl) (by simpa using h18) (by simpa using hx) hy hne
    rw [if_pos h18]
    exact opn_none hw _
  · rw [if_neg h18] at hx
    rw [List.length_append, pc0_len] at ht
    have hBe : B = pc0 sum ++ (recsB sum 1 rs).set (t - 18) y := by
      show (pc0 sum ++ recsB sum 1 rs).set t y = _
      rw [List.set_append, if_neg (by rw [pc0_len]; omega), pc0_len]
    have hne' : (recsB sum 1 rs).getD (t - 18) 0 ≠ y := by
      rw [List.getD_eq_getElem?_getD, List.getElem?_append_right (by rw [pc0_len]; omega), pc0_len, ← List.getD_eq_getElem?_getD] at hne
      exact hne
    have hw : wholeS B 0 = some (sum, ⟨0, []⟩, 18) := by rw [hBe]; exact whole_pc0 hs _
    obtain ⟨h1, h2, h3⟩ := opn_some hB hw
    refine ⟨h1, h2, ?_⟩
    rw [if_neg h18, h3]
    have hd : B.drop 18 = (recsB sum 1 rs).set (t - 18) y := by rw [hBe, List.drop_left' (pc0_len sum)]
    have hBl : B.length = 18 + (recsB sum 1 rs).length := by show ((pc0 sum ++ recsB sum 1 rs).set t y).length = _; rw [List.length_set, List.length_append, pc0_len]
    rw [hd]
    exact scan_turn hs hy rs _ 1 (t - 18) hok (by decide) (by omega) (by omega) (by omega) hne' (by omega)
def bodN (bs : List (List Int)) (i : Nat) : List Int := (bs.getD i []).take 300
def recN (bs : List (List Int)) (n : Nat) : List Rec := (List.range n).map fun (i : Nat) => (⟨(i : Int), bodN bs i⟩ : Rec)
def sizeN (bs : List (List Int)) (n : Nat) : Nat := 18 + ((List.range n).map fun i => 18 + (bodN bs i).length).sum
def endsN (bs : List (List Int)) (n : Nat) : List Int := (List.range n).map fun i => ((sizeN bs (i + 1) : Nat) : Int)
def datN (sum : Nat) (bs : List (List Int)) (n : Nat) : List Int := pc0 sum ++ recsB sum 1 (recN bs n)
theorem recN_len (bs : List (List Int)) (n : Nat) : (recN bs n).length = n := by simp [recN]
theorem endsN_len (bs : List (List Int)) (n : Nat) : (endsN bs n).length = n := by simp [endsN]
theorem recN_succ (bs : List (List Int)) (n : Nat) : recN bs (n + 1) = recN bs n ++ [⟨(n : Int), bodN bs n⟩] := by simp [recN, List.range_succ]
theorem sizeN_succ (bs : List (List Int)) (n : Nat) : sizeN bs (n + 1) = sizeN bs n + 18 + (bodN bs n).length := by simp [sizeN, List.range_succ]; omega
theorem endsN_succ (bs : List (List Int)) (n : Nat) : endsN bs (n + 1) = endsN bs n ++ [((sizeN bs (n + 1) : Nat) : Int)] := by simp [endsN, List.range_succ]
theorem sizeN_zero (bs : List (List Int)) : sizeN bs 0 = 18 := rfl
theorem bodN_len (bs : List (List Int)) (n : Nat) : (bodN bs n).length ≤ 300 := by unfold bodN; rw [List.length_take]; omega
theorem sizeN_le (bs : List (List Int)) : ∀ n, sizeN bs n ≤ 18 + 318 * n
  | 0 => by rw [sizeN_zero]; omega
  | n + 1 => by have := sizeN_le bs n; have := bodN_len bs n; rw [sizeN_succ]; omega
theorem sizeN_ge (bs : List (List Int)) : ∀ n, 18 + 18 * n ≤ sizeN bs n
  | 0 => by rw [sizeN_zero]; omega
  | n + 1 => by have := sizeN_ge bs n; rw [sizeN_succ]; omega
theorem endsN_get (bs : List (List Int)) {n i : Nat} (h : i < n) : (endsN bs n)[i]? = some ((sizeN bs (i + 1) : Nat) : Int) := by
  simp [endsN, List.getElem?_map, List.getElem?_range h]
theorem datN_succ (sum : Nat) (bs : List (List Int)) (n : Nat) : datN sum bs (n + 1) = datN sum bs n ++ pieceS (n + 1) sum n (bodN bs n) := by
  unfold datN
  rw [recN_succ, recsB_append, List.append_assoc, recN_len, recsB, recsB, List.append_nil, Nat.add_comm 1 n]
theorem datN_len (sum : Nat) (bs : List (List Int)) : ∀ n, (datN sum bs n).length = sizeN bs n
  | 0 => by show (pc0 sum ++ recsB sum 1 []).length = 18; rw [recsB, List.append_nil, pc0_len]
  | n + 1 => by rw [datN_succ, List.length_append, datN_len sum bs n, pieceS_len, sizeN_succ]; omega
theorem datN_zero (sum : Nat) (bs : List (List Int)) : datN sum bs 0 = pc0 sum := by show pc0 sum ++ recsB sum 1 [] = _; rw [recsB, List.append_nil]
def BytL (bs : List (List Int)) : Prop := ∀ b ∈ bs, Byt b
theorem bodN_byt {bs : List (List Int)} (h : BytL bs) (i : Nat) : Byt (bodN bs i) := by
  unfold bodN
  refine Byt.take ?_ _
  rw [List.getD_eq_getElem?_getD]
  rcases e : bs[i]? with _ | b
  · exact byt_nil
  · exact h b (List.mem_of_getElem? e)
theorem recN_ok {bs : List (List Int)} (h : BytL bs) {n : Nat} (hn : n ≤ 12) : ∀ r ∈ recN bs n, r.Ok := fun r hr => by
  obtain ⟨i, hi, rfl⟩ := List.mem_map.1 hr
  have := List.mem_range.1 hi
  have h3 := bodN_len bs i
  exact ⟨by show (0 : Int) ≤ i; omega, by show (i : Int) < 256; omega, bodN_byt h i, by show (bodN bs i).length ≤ 1048576; omega⟩
theorem datN_byt {bs : List (List Int)} (h : BytL bs) (sum : Nat) {n : Nat} (hn : n ≤ 12) : Byt (datN sum bs n) := byt_append.2 ⟨pieceS_byt ⟨by omega, by omega⟩ byt_nil, recsB_byt sum 1 _ (recN_ok h hn)⟩
theorem cut_put (sum : Nat) (bs : List (List Int)) (n : Nat) (hn : n < 12) : (Dr.mk sum 1 n false).put (One (datN sum bs n) (datN sum bs n).length (-1) 0 0 false) n (bodN bs n) = (0, ⟨sum, 1, n + 1, false⟩, One (datN sum bs (n + 1)) (datN sum bs (n + 1)).length (-1) 0 0 false) := by
  have hl := bodN_len bs n
  have hs := sizeN_le bs n
  have h1 := put_ok (q := ⟨sum, 1, n, false⟩) (kind := (n : Int)) (body := bodN bs n) rfl (by omega) (lay_free (B := datN sum bs n) (xs := pieceS (n + 1) sum n (bodN bs n)) (s := (datN sum bs n).length) (a := 0) (c := 0) (by decide) (by rw [datN_len, pieceS_len]; omega))
  rw [h1, datN_succ]
theorem cnt_is : ∀ (rs : List Rec) (n t : Nat), n ≤ rs.length → ((rs.take n).map fun r => 18 + r.body.length).sum ≤ t → (n < rs.length → t < ((rs.take (n + 1)).map fun r => 18 + r.body.length).sum) → cntR rs t = n ∧ startR rs t = ((rs.take n).map fun r => 18 + r.body.length).sum
  | [], n, t, hn, h1, h2 => by
    obtain rfl : n = 0 := by simpa using hn
    exact ⟨rfl, rfl⟩
  | r :: rs, 0, t, hn, h1, h2 => by
    have := h2 (by simp)
    have h3 : t < 18 + r.body.length := by simpa using this
    unfold cntR startR
    rw [if_neg (by omega), if_neg (by omega)]
    exact ⟨rfl, rfl⟩
  | r :: rs, n + 1, t, hn, h1, h2 => by
    rw [List.take_succ_cons, List.map_cons, List.sum_cons] at h1
    have hn' : n ≤ rs.length := by simpa using hn
    obtain ⟨e1, e2⟩ := cnt_is rs n (t - (18 + r.body.length)) hn' (by omega) (fun h => by
      have := h2 (by simp; omega)
      rw [List.take_succ_cons, List.map_cons, List.sum_cons] at this
      omega)
    unfold cntR startR
    rw [if_pos (by omega), if_pos (by omega), e1, e2, List.take_succ_cons, List.map_cons, List.sum_cons]
    exact ⟨rfl, by omega⟩
theorem recN_take (bs : List (List Int)) {n m : Nat} (h : m ≤ n) : (recN bs n).take m = recN bs m := by
  unfold recN
  rw [← List.map_take, List.take_range, Nat.min_eq_left h]
theorem recN_sum (bs : List (List Int)) (n : Nat) : 18 + ((recN bs n).map fun r => 18 + r.body.length).sum = sizeN bs n := by
  unfold recN sizeN
  rw [List.map_map]
  rfl
theorem cut_cnt (bs : List (List Int)) {k n t : Nat} (hn : n ≤ k) (h1 : n = 0 ∨ sizeN bs n ≤ t) (h2 : n < k → t < sizeN bs (n + 1)) :
    (t < 18 → n = 0) ∧ (18 ≤ t → cntR (recN bs k) (t - 18) = n ∧ 18 + startR (recN bs k) (t - 18) = sizeN bs n) := by
  have hge := sizeN_ge bs n
  refine ⟨fun h => by rcases h1 with rfl | h1 <;> omega, fun h => ?_⟩
  have hs := recN_sum bs n
  obtain ⟨e1, e2⟩ := cnt_is (recN bs k) n (t - 18) (by rw [recN_len]; exact hn) (by
      rw [recN_take bs hn]
      rcases h1 with rfl | h1
      · exact Nat.zero_le _
      · omega) (fun h3 => by
      rw [recN_len] at h3
      have h4 := h2 h3
      have h5 := recN_sum bs (n + 1)
      rw [recN_take bs (by omega : n + 1 ≤ k)]
      omega)
  rw [e1, e2, recN_take bs hn]
  exact ⟨rfl, by omega⟩
theorem cut_stands {sum : Nat} (hs : sum < 4294967296) {bs : List (List Int)} (hb : BytL bs) {k n t : Nat} (hk : k ≤ 12) (hn : n ≤ k) (ht : t ≤ sizeN bs k) (h1 : n = 0 ∨ sizeN bs n ≤ t) (h2 : n < k → t < sizeN bs (n + 1)) :
    let B := (datN sum bs k).take t
    let R := (One B B.length (-1) 0 0 false).opn sum
    R.err = 0 ∧ R.summary = [] ∧ R.recs = if t < 18 then [] else recN bs n := by
  intro B R
  obtain ⟨c1, c2⟩ := cut_cnt bs hn h1 h2
  have := stands_cut hs (recN_ok hb hk) (by rw [recN_len]; omega) (t := t) (by show t ≤ (datN sum bs k).length; rw [datN_len]; exact ht)
  obtain ⟨q1, q2, q3⟩ := this
  refine ⟨q1, q2, q3.trans ?_⟩
  by_cases h : t < 18
  · rw [if_pos h, if_pos h]
  · rw [if_neg h, if_neg h, (c2 (by omega)).1, recN_take bs hn]
theorem turn_stands {sum : Nat} (hs : sum < 4294967296) {bs : List (List Int)} (hb : BytL bs) {k n t : Nat} (hk : k ≤ 12) (hn : n ≤ k) (ht : t < sizeN bs k) (h1 : n = 0 ∨ sizeN bs n ≤ t) (h2 : n < k → t < sizeN bs (n + 1)) {y : Int} (hy : 0 ≤ y ∧ y < 256) (hne : (datN sum bs k).getD t 0 ≠ y)
    (hx : ¬ (9 ≤ t - (if t < 18 then 0 else sizeN bs n) ∧ t - (if t < 18 then 0 else sizeN bs n) < 13)) :
    let B := (datN sum bs k).set t y
    let R := (One B B.length (-1) 0 0 false).opn sum
    R.err = 0 ∧ R.summary = [] ∧ R.recs = if t < 18 then [] else recN bs n := by
  intro B R
  obtain ⟨c1, c2⟩ := cut_cnt bs hn h1 h2
  have := stands_turn hs (recN_ok hb hk) (by rw [recN_len]; omega) (t := t) (by show t < (datN sum bs k).length; rw [datN_len]; exact ht) hy hne (by
    by_cases h : t < 18
    · rw [if_pos h] at hx ⊢; exact hx
    · rw [if_neg h] at hx ⊢
      rw [(c2 (by omega)).2]; exact hx)
  obtain ⟨q1, q2, q3⟩ := this
  refine ⟨q1, q2, q3.trans ?_⟩
  by_cases h : t < 18
  · rw [if_pos h, if_pos h]
  · rw [if_neg h, if_neg h, (c2 (by omega)).1, recN_take bs hn]
def recS (r : Rec) : S37 := ⟨r.kind, r.body⟩
theorem recs_bytes (l : List Int) : levylaw19_sameBytes.f l l = some true := by unfold levylaw19_sameBytes.f; simp
theorem same_recs_l (l : List S37) (hl : l.length ≤ 140737488355328) : ∀ (d i : Nat), i + d = l.length → ∀ k, d < k → levylaw19_sameRecords.l0 k l l (i : Int) = some true
  | 0, i, h, k, hk => by
    obtain ⟨k, rfl⟩ : ∃ m, k = m + 1 := ⟨k - 1, by omega⟩
    unfold levylaw19_sameRecords.l0
    rw [if_neg (by omega)]
  | d + 1, i, h, k, hk => by
    obtain ⟨k, rfl⟩ : ∃ m, k = m + 1 := ⟨k - 1, by omega⟩
    have ih := same_recs_l l hl d (i + 1) (by omega) k (by omega)
    have e1 : wrap64 ((i : Int) + 1) = ((i + 1 : Nat) : Int) := by rw [wr (by omega) (by omega)]; omega
    unfold levylaw19_sameRecords.l0
    rw [if_pos (by omega), if_pos (by omega), if_pos (by omega), if_pos rfl, recs_bytes, Option.bind_some, if_pos rfl, e1, ih]
theorem same_recs (l : List S37) (hl : l.length ≤ 140737488355328) : levylaw19_sameRecords.f (l.length + 1) l l = some true := by
  unfold levylaw19_sameRecords.f
  rw [if_pos rfl]
  exact same_recs_l l hl l.length 0 (by omega) _ (by omega)
theorem sameRecs_calls (l : List S37) (hl : l.length ≤ 140737488355328) (A0 A1 : Option Addr) (c0 c1 : Nat) (w : World) (h0 : Kd.C k37 w A0 l.length l) (hc0 : l.length ≤ c0) (h1 : Kd.C k37 w A1 l.length l) (hc1 : l.length ≤ c1) :
    Calls Tryd.prog 28 #[.slice A0 l.length c0, .slice A1 l.length c1] w fun e w' => e = .returned (.bool true) ∧ Drawn0 w w' :=
  levylaw19_sameRecords.calls (l.length + 1) A0 c0 l A1 c1 l true w h0 hc0 h1 hc1 (same_recs l hl)
theorem flatR_cons (p : Rec × Value) (L : List (Rec × Value)) : flatR (p :: L) = [.int .u8 p.1.kind, p.2] ++ flatR L := rfl
theorem RcL.reads {b : Nat} {W : World} {v : Value} {L : List (Rec × Value)} (h : RcL b W v L) : ∃ A c, v = .slice A L.length c ∧ L.length ≤ c ∧ Kd.C k37 W A L.length (L.map fun p => recS p.1) := by
  have hR : Reps (k37.K W) 2 (L.map fun p => recS p.1) (flatR L) := by
    have hrows := h.rows
    clear h
    induction L with
    | nil => exact Reps.none _ _
    | cons p r ih =>
      obtain ⟨A, c, hv, hc, _⟩ := own_form (hrows p (by simp))
      have hrd := hrows p (by simp)
      rw [hv] at hrd
      have h1 : k37.K W (recS p.1) [.int .u8 p.1.kind, p.2] := by rw [hv]; exact k37_mk W (recS p.1) hc (Kd.C_of_reads (d := (0 : Int)) (readsInt_of.1 (own_reads' hrd)))
      have := Kd.reps_append ((Reps.none (k37.K W) 2).snoc h1 rfl) (ih (fun q hq => hrows q (List.mem_cons_of_mem _ hq)))
      simpa [flatR_cons] using this
  obtain ⟨A, c, hv, hc⟩ := own_le_cap h.own
  obtain ⟨A', c', hv', hrd⟩ := own_reads_row h.own hR (by simp)
  rw [hv] at hv'
  injection hv' with e1 e2 e3
  subst e1
  exact ⟨A, c, hv, hc, hrd⟩
theorem file_lit (W : World) (nm : ByteArray) (A : Option Addr) (c : Nat) (xs : List Int) (hc : xs.length ≤ c) (hr : ReadsInt W .u8 A xs.length xs) :
    Kd.C k42 (W.alloc (.cells #[.string nm, .slice A xs.length c, .int .i64 xs.length] 42)) (some ⟨W.heap.size, 0, none⟩) 1 [⟨nm, xs, (xs.length : Int)⟩] := by
  obtain ⟨W1, hW⟩ : ∃ W1, W1 = W.alloc (.cells #[.string nm, .slice A xs.length c, .int .i64 xs.length] 42) := ⟨_, rfl⟩
  rw [← hW]
  have hb : Below W.heap.size W W1 := by rw [hW]; exact below_alloc (Below.refl _ _) _
  have hg : W1.heap[W.heap.size]? = some (.cells #[.string nm, .slice A xs.length c, .int .i64 xs.length] 42 (0, 0)) := by rw [hW]; exact blk_new W _
  refine ⟨rfl, by decide, fun _ => ⟨_, rfl, fun j p hj => ?_⟩⟩
  have hj0 : j = 0 := by
    rcases j with _ | j
    · rfl
    · simp at hj
  subst hj0
  have hp : p = ⟨nm, xs, (xs.length : Int)⟩ := by simpa using hj.symm
  subst hp
  refine ⟨[.string nm, .slice A xs.length c, .int .i64 xs.length], rfl, k42_mk W1 ⟨nm, xs, (xs.length : Int)⟩ hc (Kd.C_of_reads (d := (0 : Int)) (readsInt_of.1 (hr.below hb))), fun i u hu => ?_⟩
  have h0 : ((⟨W.heap.size, 0, none⟩ : Addr).add (0 * k42.sz + i)) = ⟨W.heap.size, i, none⟩ := by
    rw [Nat.zero_mul, Nat.zero_add, add_at]
  rw [h0]
  refine (blk_cell hg i).trans ?_
  rw [← hu]
  simp
theorem newS_one (B : List Int) (hl : B.length ≤ 2097152) : newS [⟨nameS 1, B, (B.length : Int)⟩] = some (One B B.length (-1) 0 0 false).fs := by
  have hn : Nm (nameS 1) = true := by decide +kernel
  unfold newS
  rw [if_neg (by simp)]
  unfold newL
  rw [if_pos ⟨hn, rfl, hl, by show (0 : Int) ≤ (B.length : Int); omega, Int.le_refl _⟩]
  rfl
def NoP (col : RCol) (v : Value) : Prop := ∀ k, v.ownBlock = some k → ¬ isP (col k)
structure CtS (b : Nat) (W : World) (col : RCol) (g gW gx : Nat) (d : Dk) (q : Dr) (sI : Int) (v3 vr : Value) (L : List (Rec × Value)) (ve : Value) (es : List Int) : Prop where
  dr : DrA b W col g gx d q
  box : W.heap[gW]? = some (.cells (wC g (some ⟨gx, 0, none⟩) sI v3 vr nilV nilV) 32 (0, 0))
  tag : ¬ isP (col gW)
  le : b ≤ gW
  rcl : RcL b W vr L
  tr : NoP col vr
  tp : ∀ p ∈ L, NoP col p.2
  en : W.ownsRow b 3 1 ve es.length (nums .i64 es)
  te : NoP col ve
section
variable {b g gW gx : Nat} {w w' w1 : World} {col col' : RCol} {d d' : Dk} {q q' : Dr} {sI : Int} {v3 vr ve : Value} {L : List (Rec × Value)} {es : List Int}
theorem CtS.ne (h : CtS b w col g gW gx d q sI v3 vr L ve es) : gW ≠ gx := fun e => by
  have h1 := h.box
  rw [e, h.dr.box] at h1
  injection h1 with h1; injection h1 with _ h3; exact absurd h3 (by decide)
theorem CtS.move (h : CtS b w col g gW gx d q sI v3 vr L ve es) (hd : DrA b w' col' g gx d' q') (hs : ∀ k, k < w.heap.size → col' k = col k) (hb : ∀ k, k < w.heap.size → ¬ isP (col k) → k ≠ gx → w'.heap[k]? = w.heap[k]?) : CtS b w' col' g gW gx d' q' sI v3 vr L ve es := by
  have key : ∀ {e s n : Nat} {v : Value} {xs : List Value}, w.ownsRow b e s v n xs → NoP col v → e ≠ 62 → w'.ownsRow b e s v n xs ∧ NoP col' v := fun {e s n v xs} ho ht hne =>
    ⟨own_move ho fun k hk => hb k (own_lt ho k hk) (ht k hk) (fun e1 => own_ne ho h.dr.box hne (by rw [hk, e1])), fun k hk => by rw [hs k (own_lt ho k hk)]; exact ht k hk⟩
  have hgl := blk_lt h.box
  obtain ⟨a1, a2⟩ := key h.rcl.own h.tr (by decide)
  obtain ⟨e1, e2⟩ := key h.en h.te (by decide)
  exact ⟨hd, (hb gW hgl h.tag h.ne).trans h.box, by rw [hs gW hgl]; exact h.tag, h.le, ⟨a1, fun p hp => (key (h.rcl.rows p hp) (h.tp p hp) (by decide)).1⟩, a2, fun p hp => (key (h.rcl.rows p hp) (h.tp p hp) (by decide)).2, e1, e2⟩
theorem CtS.post (h : CtS b w col g gW gx d q sI v3 vr L ve es) (p : DrPost b w col g gx d' q' w') : ∃ col', CtS b w' col' g gW gx d' q' sI v3 vr L ve es ∧ Below b w w' := by
  obtain ⟨col', c, hd⟩ := p
  exact ⟨col', h.move hd c.same c.block, c.below⟩
theorem CtS.below (h : CtS b w col g gW gx d q sI v3 vr L ve es) (hb : Below w.heap.size w w') : CtS b w' col g gW gx d q sI v3 vr L ve es :=
  h.move (h.dr.below hb) (fun _ _ => rfl) (fun k hk _ _ => hb.block k hk)
theorem CtS.base (h : CtS b w col g gW gx d q sI v3 vr L ve es) : b ≤ w.heap.size := h.dr.da.le
theorem CtS.fresh (h : CtS b w col g gW gx d q sI v3 vr L ve es) (hb : Below w.heap.size w w') : CtS b w' (colN col w.heap.size fun _ => .tm) g gW gx d q sI v3 vr L ve es := by
  have hc : Ch b w col w' (colN col w.heap.size fun _ => .tm) (fun _ => False) := Ch.of_new hb h.base _
  refine h.move ⟨h.dr.da.ch hc (fun _ _ h => h), hc.blk h.dr.box (fun h => h), by rw [colN_lt (blk_lt h.dr.box)]; exact h.dr.tag, h.dr.le⟩ (fun k hk => colN_lt hk) (fun k hk _ _ => hb.block k hk)
theorem noP_new {B n e s : Nat} {v : Value} {xs : List Value} (ho : w'.ownsRow B e s v n xs) (hB : w.heap.size ≤ B) : NoP (colN col w.heap.size fun _ => .tm) v := fun k hk => by
  rw [colN_ge (Nat.le_trans hB (own_base ho k hk))]; exact fun h => h
theorem DrA.grown (h : DrA b w col g gx d q) {v : Value} {e s n : Nat} {xs : List Value} (ho : w.ownsRow b e s v n xs) (ht : NoP col v) (hne : e ≠ 62) (hg : w.grownBy w1 v.ownBlock) :
    DrA b w1 (colN col w.heap.size fun _ => .tm) g gx d q ∧ Below b w w1 := by
  have hbl : Below b w w1 := (Below.refl b w).grown hg h.da.le (fun k hk => own_base ho k hk)
  have hx : w1.heap[gx]? = some (.cells (drC g q) 62 (0, 0)) := (hg.block gx (blk_lt h.box) (own_ne ho h.box hne)).trans h.box
  have hc : Ch b w col w1 (colN col w.heap.size fun _ => .tm) (fun r => ∃ k, v.ownBlock = some k ∧ r = col k) :=
    ⟨hbl, h.da.le, fun k hk => colN_lt hk, fun k hk hn => hg.block k hk (fun e1 => hn ⟨k, e1.symm, rfl⟩)⟩
  exact ⟨⟨h.da.ch hc (fun r hr ⟨k, hk, e1⟩ => ht k hk (e1 ▸ hr)), hx, by rw [colN_lt (blk_lt h.box)]; exact h.tag, h.le⟩, hbl⟩
theorem noP_app {w : World} {col : RCol} {v v1 : Value} {B n e s : Nat} {xs : List Value} (ho : w.ownsRow B e s v n xs) (ht : NoP col v) (hn : v1.ownBlock = v.ownBlock ∨ ∃ k, v1.ownBlock = some k ∧ w.heap.size ≤ k) : NoP (colN col w.heap.size fun _ => .tm) v1 := fun k hk => by
  rcases hn with h1 | ⟨k', h1, h2⟩
  · rw [h1] at hk
    rw [colN_lt (own_lt ho k hk)]; exact ht k hk
  · rw [h1] at hk; injection hk with hk; subst hk
    rw [colN_ge h2]; exact fun h => h
theorem cts_put4 (hd : DrA b w col g gx d q) (hx : w.heap[gW]? = some (.cells (wC g (some ⟨gx, 0, none⟩) sI v3 vr nilV nilV) 32 (0, 0))) (hne : gW ≠ gx) (htag : ¬ isP (col gW)) (hle : b ≤ gW) (v1 : Value) {L1 : List (Rec × Value)} (hr : RcL b w v1 L1) (ht : NoP col v1) (hp : ∀ p ∈ L1, NoP col p.2)
    (hen : w.ownsRow b 3 1 ve es.length (nums .i64 es)) (hte : NoP col ve) : CtS b (w.setCell ⟨gW, 4, none⟩ v1) col g gW gx d q sI v3 v1 L1 ve es ∧ Below b w (w.setCell ⟨gW, 4, none⟩ v1) := by
  have hb : ∀ k, k ≠ gW → (w.setCell ⟨gW, 4, none⟩ v1).heap[k]? = w.heap[k]? := fun k hk => Below.heap_setCell w ⟨gW, 4, none⟩ v1 k hk
  have key : ∀ {e s n : Nat} {v : Value} {xs : List Value}, w.ownsRow b e s v n xs → e ≠ 32 → (w.setCell ⟨gW, 4, none⟩ v1).ownsRow b e s v n xs := fun {e s n v xs} ho hne =>
    own_move ho fun k hk => hb k (fun e1 => own_ne ho hx hne (by rw [hk, e1]))
  refine ⟨⟨⟨hd.da.put htag hle v1, (hb gx hne.symm).trans hd.box, hd.tag, hd.le⟩, blk_to hx (by simp [wC]), htag, hle, ⟨key hr.own (by decide), fun p hp => key (hr.rows p hp) (by decide)⟩, ht, hp, key hen (by decide), hte⟩, (Below.refl b w).setCell (p := ⟨gW, 4, none⟩) hle v1⟩
theorem CtS.snoc (h : CtS b w col g gW gx d q sI v3 vr L ve es) {p : Rec × Value} (hp : w.ownsRow b 5 1 p.2 p.1.body.length (nums .u8 p.1.body)) (htp : NoP col p.2) {v1 : Value} (hg : w.grownBy w1 vr.ownBlock)
    (ho : w1.ownsRow b 37 2 v1 (L.length + 1) (flatR L ++ [.int .u8 p.1.kind, p.2])) (hn : v1.ownBlock = vr.ownBlock ∨ ∃ k, v1.ownBlock = some k ∧ w.heap.size ≤ k) :
    CtS b (w1.setCell ⟨gW, 4, none⟩ v1) (colN col w.heap.size fun _ => .tm) g gW gx d q sI v3 v1 (L ++ [p]) ve es ∧ Below b w (w1.setCell ⟨gW, 4, none⟩ v1) := by
  obtain ⟨hd, hbl⟩ := h.dr.grown h.rcl.own h.tr (by decide) hg
  have hgl := blk_lt h.box
  have hen := own_other h.en hg (own_type_ne h.en h.rcl.own (by decide))
  have up : ∀ {e s n : Nat} {v : Value} {xs : List Value}, w.ownsRow b e s v n xs → NoP col v → NoP (colN col w.heap.size fun _ => .tm) v := fun {e s n v xs} ho ht k hk => by rw [colN_lt (own_lt ho k hk)]; exact ht k hk
  obtain ⟨r1, r2⟩ := cts_put4 (sI := sI) (v3 := v3) hd ((hg.block gW hgl (own_ne h.rcl.own h.box (by decide))).trans h.box) h.ne (by rw [colN_lt hgl]; exact h.tag) h.le v1 (h.rcl.snoc hp hg ho) (noP_app h.rcl.own h.tr hn) (fun r hr => by
      rw [List.mem_append, List.mem_singleton] at hr
      rcases hr with hr | rfl
      · exact up (h.rcl.rows r hr) (h.tp r hr)
      · exact up hp htp) hen (up h.en h.te)
  exact ⟨r1, hbl.trans r2⟩
theorem CtS.ends (h : CtS b w col g gW gx d q sI v3 vr L ve es) {x : Int} {v1 : Value} (hg : w.grownBy w1 ve.ownBlock) (ho : w1.ownsRow b 3 1 v1 (es ++ [x]).length (nums .i64 (es ++ [x]))) (hn : v1.ownBlock = ve.ownBlock ∨ ∃ k, v1.ownBlock = some k ∧ w.heap.size ≤ k) :
    CtS b w1 (colN col w.heap.size fun _ => .tm) g gW gx d q sI v3 vr L v1 (es ++ [x]) ∧ Below b w w1 := by
  obtain ⟨hd, hbl⟩ := h.dr.grown h.en h.te (by decide) hg
  have hgl := blk_lt h.box
  have up : ∀ {e s n : Nat} {v : Value} {xs : List Value}, w.ownsRow b e s v n xs → NoP col v → NoP (colN col w.heap.size fun _ => .tm) v := fun {e s n v xs} ho ht k hk => by rw [colN_lt (own_lt ho k hk)]; exact ht k hk
  exact ⟨⟨hd, (hg.block gW hgl (own_ne h.en h.box (by decide))).trans h.box, by rw [colN_lt hgl]; exact h.tag, h.le, ⟨own_other h.rcl.own hg (own_type_ne h.rcl.own h.en (by decide)), fun p hp => own_other (h.rcl.rows p hp) hg (own_type_ne (h.rcl.rows p hp) h.en (by decide))⟩, up h.rcl.own h.tr, fun p hp => up (h.rcl.rows p hp) (h.tp p hp), ho, noP_app h.en h.te hn⟩, hbl⟩
theorem CtS.start (hl : LdS b w col g gW gx d q) (hx : w.heap[gW]? = some (.cells (wC g (some ⟨gx, 0, none⟩) sI v3 nilV nilV nilV) 32 (0, 0))) : CtS b w col g gW gx d q sI v3 nilV [] (.slice none 0 0) [] :=
  ⟨hl.dr, hx, hl.tag, hl.le, RcL.nil _ _, fun k hk => (by simp [nilV, Value.ownBlock] at hk), fun p hp => (by cases hp), own_nil _ _ _ _, fun k hk => (by simp [Value.ownBlock] at hk)⟩
theorem CtS.cells (h : CtS b w col g gW gx d q sI v3 vr L ve es) : w.cell? ⟨gW, 0, none⟩ = some (.pointer (some ⟨g, 0, none⟩)) ∧ w.cell? ⟨gW, 1, none⟩ = some (.pointer (some ⟨gx, 0, none⟩)) ∧ w.cell? ⟨gW, 2, none⟩ = some (.int .u32 sI) ∧ w.cell? ⟨gW, 4, none⟩ = some vr ∧ w.frozen? ⟨gW, 4, none⟩ = false :=
  ⟨(blk_cell h.box 0).trans rfl, (blk_cell h.box 1).trans rfl, (blk_cell h.box 2).trans rfl, (blk_cell h.box 4).trans rfl, blk_frozen h.box 4⟩
theorem put_c {kind e : Int} {body : List Int} (h : CtS b w col g gW gx d q sI v3 vr L ve es) (hR : q.put d kind body = (e, q', d')) (hg : q.gen < 100000000) (hs : q.sum < 4294967296) (hl : q.len < 4294967295) (hk : 0 ≤ kind ∧ kind < 256) (A : Option Addr) (c : Nat) (hb : Byt body) (hr : ReadsInt w .u8 A body.length body) (hc : body.length ≤ c) :
    Calls Tryd.prog 8 #[.pointer (some ⟨gx, 0, none⟩), .agg #[.int .u8 kind, .slice A body.length c]] w fun e' w' => e' = .returned (.int .i64 e) ∧ ∃ col', CtS b w' col' g gW gx d' q' sI v3 vr L ve es ∧ Below b w w' := by
  refine (put_calls h.dr hg hs hl kind hk A c body hb hr hc).mono fun e' w' h2 => ?_
  rw [hR] at h2
  exact ⟨h2.1, h.post h2.2⟩
end
end Go.Proofs.YthneomomhoilkaaDoor.PA
end
section
namespace Go.Proofs.YthneomomhoilkaaDoor.PA
open Go.RowKit Go.Maps Go.Sort Go.Proofs.YthneomomhoilkaaDoorW.PrintWords Go.Proofs.YthneomomhoilkaaDoorW.PrintLast Go.Proofs.YthneomomhoilkaaDoorW.PrintMore Go.Proofs.YthneomomhoilkaaDoor.Dw
theorem open_found {b g sum N : Nat} {w : World} {col : RCol} {d : Dk} {rs : List Rec} (h : DA b w col g d) (hs : sum < 4294967296) (h1 : (d.opn sum).err = 0) (h2 : (d.opn sum).summary = []) (h3 : (d.opn sum).recs = rs) (hN : rs.length = N) :
    Calls Tryd.prog 17 #[.pointer (some ⟨g, 0, none⟩), .int .u32 (sum : Nat)] w fun e w' => ∃ gx A1 c1 A2 c2, e = .returned (.tuple #[.pointer (some ⟨gx, 0, none⟩), .slice A1 0 c1, .slice A2 N c2, .int .i64 0]) ∧
      w'.heap[gx]? = some (.cells (drC g ⟨sum, (d.opn sum).gen, N, false⟩) 62 (0, 0)) ∧ Kd.C k37 w' A2 N (rs.map recS) ∧ N ≤ c2 ∧ Below b w w' := by
  refine (open_calls h sum hs).mono ?_
  rintro e w' ⟨col', hc, hd, _, h4⟩
  obtain ⟨gx, v, vr, L, rfl, hx, htx, hgx, hob, hL⟩ := h4 h1
  have hrow := hob.row
  rw [h2] at hrow
  obtain ⟨A1, c1, rfl, _⟩ := own_form hrow
  obtain ⟨A2, c2, rfl, hc2, hK⟩ := hob.rcl.reads
  have hl : L.length = N := by rw [← List.length_map (f := fun p : Rec × Value => p.1), hL, h3, hN]
  have hm : (L.map fun p => recS p.1) = rs.map recS := by rw [← h3, ← hL, List.map_map]; rfl
  rw [h3, hN] at hx
  rw [hl] at hK hc2 ⊢
  rw [hm] at hK
  exact ⟨gx, A1, c1, A2, c2, rfl, hx, hK, hc2, hc.below⟩
set_option maxRecDepth 100000 in
set_option maxHeartbeats 4000000 in
theorem stands_calls {b0 gW sum n : Nat} {Ar A : Option Addr} {cr c : Nat} {rs : List Rec} {B : List Int} {no : Bool} (w : World) (hV : VP b0 w) (hb0 : b0 ≤ w.heap.size) (hs : sum < 4294967296)
    (hgW : gW < w.heap.size) (h2 : w.cell? ⟨gW, 2, none⟩ = some (.int .u32 (sum : Nat))) (h4 : w.cell? ⟨gW, 4, none⟩ = some (.slice Ar rs.length cr))
    (hr : Kd.C k37 w Ar rs.length (rs.map recS)) (hcr : rs.length ≤ cr) (hn : n ≤ rs.length) (hrl : rs.length ≤ 140737488355328)
    (hB : ReadsInt w .u8 A B.length B) (hBc : B.length ≤ c) (hBb : Byt B) (hBl : B.length ≤ 2097152)
    (h1 : ((One B B.length (-1) 0 0 false).opn sum).err = 0) (hsm : ((One B B.length (-1) 0 0 false).opn sum).summary = []) (hrc : ((One B B.length (-1) 0 0 false).opn sum).recs = if no = true then [] else rs.take n) :
    Calls Tryd.prog 11 #[.pointer (some ⟨gW, 0, none⟩), .string (nameS 1), .slice A B.length c, .int .i64 (n : Nat), .bool no] w fun e w' => e = .returned (.bool true) ∧ Below w.heap.size w w' := by
  obtain ⟨W1, hW1⟩ : ∃ W1, W1 = w.alloc (.cells #[.string (nameS 1), .slice A B.length c, .int .i64 B.length] 42) := ⟨_, rfl⟩
  have hb1 : Below w.heap.size w W1 := by rw [hW1]; exact below_alloc (Below.refl _ _) _
  have hgood : (Dk.start [f1F B B.length]).Good := ⟨ok_start (List.pairwise_singleton _ _) (fun f hf => by simp only [List.mem_singleton] at hf; subst hf; exact nm1_ok) (fun f hf => by simp only [List.mem_singleton] at hf; subst hf; exact ⟨hBl, by show (0 : Int) ≤ (B.length : Int); omega, Int.le_refl _⟩) (by simp), fun f hf => by
    have hf : f ∈ [f1F B B.length] := hf
    simp only [List.mem_singleton] at hf; subst hf; exact hBb⟩
  have HN : Aside0 (Calls Tryd.prog 19 #[.slice (some ⟨w.heap.size, 0, none⟩) 1 1] W1 fun e w' => ∃ g col, e = .returned (.tuple #[.pointer (some ⟨g, 0, none⟩), .int .i64 0]) ∧ Below W1.heap.size W1 w' ∧ DA W1.heap.size w' col g (One B B.length (-1) 0 0 false)) := ⟨by
    have hf := file_lit w (nameS 1) A c B hBc hB
    rw [← hW1] at hf
    have hp := pnew (some ⟨w.heap.size, 0, none⟩) 1 [⟨nameS 1, B, (B.length : Int)⟩] W1 hf (Nat.le_refl _) (fun f hf => by simp only [List.mem_singleton] at hf; subst hf; show (nameS 1).size ≤ _; rw [name1]; decide) (fun f hf => by simp only [List.mem_singleton] at hf; subst hf; show B.length ≤ _; omega) (by simp)
    rw [newS_one B hBl] at hp
    refine hp.mono ?_
    rintro e w' ⟨g, col, rfl, hb, hpd⟩
    exact ⟨g, col, rfl, hb, hpd, hgood, ((hV.mono hb0).below hb1).mono hb1.size |>.below hb⟩⟩
  obtain ⟨N, hN⟩ : ∃ N : Nat, N = if no = true then 0 else n := ⟨_, rfl⟩
  have hNl : (if no = true then [] else rs.take n).length = N := by
    rw [hN]; cases no
    · simp; omega
    · rfl
  have hNn : N ≤ rs.length := by rw [hN]; split <;> omega
  have htk : (if no = true then [] else rs.take n) = rs.take N := by rw [hN]; cases no <;> rfl
  rw [htk] at hrc hNl
  have hOp : ∀ (W w2 : World) (g : Nat) (col : RCol), DA W1.heap.size w2 col g (One B B.length (-1) 0 0 false) → Below w2.heap.size w2 W → Calls Tryd.prog 17 #[.pointer (some ⟨g, 0, none⟩), .int .u32 (sum : Nat)] W fun e w' => ∃ gx A1 c1 A2 c2, e = .returned (.tuple #[.pointer (some ⟨gx, 0, none⟩), .slice A1 0 c1, .slice A2 N c2, .int .i64 0]) ∧
      w'.heap[gx]? = some (.cells (drC g ⟨sum, ((One B B.length (-1) 0 0 false).opn sum).gen, N, false⟩) 62 (0, 0)) ∧ Kd.C k37 w' A2 N ((rs.take N).map recS) ∧ N ≤ c2 ∧ Below W1.heap.size W w' := fun W w2 g col hd hW => open_found (hd.below hW) hs h1 hsm hrc hNl
  have hfa : ∀ W, Below w.heap.size w W → W.cell? ⟨gW, 2, none⟩ = some (.int .u32 (sum : Nat)) ∧ W.cell? ⟨gW, 4, none⟩ = some (.slice Ar rs.length cr) ∧ Kd.C k37 W Ar N ((rs.take N).map recS) := fun W hW => by
    refine ⟨(hW.cell (p := ⟨gW, 2, none⟩) hgW).trans h2, (hW.cell (p := ⟨gW, 4, none⟩) hgW).trans h4, ?_⟩
    have hk := Kd.C_take (m := N) (show Kd.C k37 w Ar (rs.map recS).length (rs.map recS) by rw [List.length_map]; exact hr) (by rw [List.length_map]; exact hNn)
    rw [← List.map_take, List.length_map, List.length_take, Nat.min_eq_left hNn] at hk
    exact Kd.C_below hk hW
  have HB1 := Aside0.mk hb1
  have HOp := Aside0.mk hOp
  have HFa := Aside0.mk hfa
  have HNr := Aside0.mk hNn
  have HRl := Aside0.mk hrl
  have HCr := Aside0.mk hcr
  have HT := Aside0.mk trivial
  clear hV hb0 hs h2 h4 hr hcr hn hrl hB hBc hBb hBl h1 hsm hrc hb1 hgood hOp hfa hNl htk hgW hNn
  subst hW1
  go_enter Tryd.func11, Tryd.ntmps11
  go_upto_region 4 with (go_at_call 19; refine HN.out.mono ?_; rintro e w2 ⟨g, col, rfl, hb2, hd2⟩; have HB2 := Aside0.mk (HB1.out.trans (hb2.mono (by simp))); have HD2 := Aside0.mk hd2; have x2 := (HFa.out _ HB2.out).1; clear hb2 hd2)
  go_upto_region 5 with (go_at_call 17; have q_ := HT.out; clear q_ HT; refine (HOp.out _ w2 g col HD2.out (Below.refl _ _)).mono ?_; rintro e w3 ⟨gx, A1, c1, A2, c2, rfl, hx3, hk3, hc3, hb3⟩; have HB3 := Aside0.mk (HB2.out.trans (hb3.mono (by simp))); have HX3 := Aside0.mk hx3; have HK3 := Aside0.mk hk3; have HC3 := Aside0.mk hc3; have x4 := (HFa.out _ HB3.out).2.1; clear hx3 hk3 hc3 hb3 x2)
  have HSm : Aside0 (∀ W A2 c2, N ≤ c2 → Kd.C k37 W A2 N ((rs.take N).map recS) → Kd.C k37 W Ar N ((rs.take N).map recS) → Calls Tryd.prog 28 #[.slice A2 N c2, .slice Ar N cr] W fun e w' => e = .returned (.bool true) ∧ Drawn0 W w') := ⟨fun W A2 c2 h1 h2 h3 => by
    have hl : ((rs.take N).map recS).length = N := by rw [List.length_map, List.length_take, Nat.min_eq_left HNr.out]
    have := sameRecs_calls ((rs.take N).map recS) (by rw [hl]; exact Nat.le_trans HNr.out HRl.out) A2 Ar c2 cr W (by rw [hl]; exact h2) (by rw [hl]; exact h1) (by rw [hl]; exact h3) (by rw [hl]; exact Nat.le_trans HNr.out HCr.out)
    rw [hl] at this
    exact this⟩
  have n0 : (0 : Int) ≤ (N : Int) := by omega
  have n1 : (N : Int) ≤ (cr : Int) := by have := HNr.out; have := HCr.out; omega
  cases no
  · obtain rfl : N = n := by rw [hN]; rfl
    clear hN
    go_wp2_with (first
      | (go_at_call 28; refine (HSm.out _ A2 c2 HC3.out HK3.out (HFa.out _ HB3.out).2.2).mono ?_; rintro e w4 ⟨rfl, hd4⟩; have HD4 := Aside0.mk hd4; have x5 := blk_drawn HX3.out hd4; clear hd4)
      | (go_at_call 21; have q_ := HD4.out; clear q_; refine (len_calls gx g _ w4 x5).mono ?_; rintro e w5 ⟨rfl, rfl⟩))
    go_ret
    exact ⟨rfl, HB3.out.trans (HD4.out.below.mono HB3.out.size)⟩
  · obtain rfl : N = 0 := by rw [hN]; rfl
    clear hN
    go_wp2_with (first
      | (go_at_call 28; refine (HSm.out _ A2 c2 HC3.out HK3.out (HFa.out _ HB3.out).2.2).mono ?_; rintro e w4 ⟨rfl, hd4⟩; have HD4 := Aside0.mk hd4; have x5 := blk_drawn HX3.out hd4; clear hd4)
      | (go_at_call 21; have q_ := HD4.out; clear q_; refine (len_calls gx g _ w4 x5).mono ?_; rintro e w5 ⟨rfl, rfl⟩))
    go_ret
    exact ⟨rfl, HB3.out.trans (HD4.out.below.mono HB3.out.size)⟩
theorem files_one {b g n : Nat} {w : World} {col : RCol} {B : List Int} {s : Int} (h : DA b w col g (One B s (-1) 0 0 false)) (hn : B.length = n) :
    Calls Tryd.prog 10 #[.pointer (some ⟨g, 0, none⟩)] w fun e w' => ∃ gl cl Ad cd, e = .returned (.slice (some ⟨gl, 0, none⟩) 1 cl) ∧ 1 ≤ cl ∧ gl < w'.heap.size ∧
      w'.cell? ⟨gl, 0, none⟩ = some (.string (nameS 1)) ∧ w'.cell? ⟨gl, 1, none⟩ = some (.slice Ad n cd) ∧ w'.cell? ⟨gl, 2, none⟩ = some (.int .i64 s) ∧ n ≤ cd ∧ ReadsInt w' .u8 Ad n B ∧ Below w.heap.size w w' := by
  refine (pfiles_d h.good.ok h.pd).mono ?_
  rintro e w' ⟨v, L, rfl, hL, hF, hb⟩
  obtain ⟨p, rfl⟩ : ∃ p, L = [p] := by
    cases L with
    | nil => cases hL
    | cons p r =>
      have hL : p.1 :: r.map (·.1) = [f1F B s] := hL
      injection hL with _ h4
      exact ⟨p, by rw [List.map_eq_nil_iff.1 h4]⟩
  have hp : p.1 = f1F B s := by
    have hL : [p.1] = [f1F B s] := hL
    simpa using hL
  have hbody := hF.rows p (by simp)
  rw [hp] at hbody
  have hbody : w'.ownsRow w.heap.size 5 1 p.2 B.length (nums .u8 B) := hbody
  obtain ⟨Ad, cd, hpv, hcd, _⟩ := own_form hbody
  rw [hpv] at hbody
  have hown := hF.own
  have hfl : flatL [p] = [.string (nameS 1), .slice Ad B.length cd, .int .i64 s] := by
    show [Value.string p.1.f0, p.2, Value.int .i64 p.1.f2] = _
    rw [hp, hpv]; rfl
  rw [hfl] at hown
  rcases hown.2 with ⟨_, h0⟩ | ⟨gl, cap, cur, e1, hg, hh, hcc, _⟩
  · cases h0
  · subst e1
    have hcs := hown.cells (g := gl) rfl
    have hc0 := hcs 0 _ rfl
    have hc1 := hcs 1 _ rfl
    have hc2 := hcs 2 _ rfl
    rw [add_at] at hc0 hc1 hc2
    subst hn
    exact ⟨gl, cap, Ad, cd, rfl, hcc, blk_lt hh, hc0, hc1, hc2, hcd, own_reads' hbody, hb⟩
theorem stands_w {b0 e0 g gW gx sn K n : Nat} {W : World} {col : RCol} {d : Dk} {q : Dr} {v3 vr ve : Value} {L : List (Rec × Value)} {es : List Int} {bs : List (List Int)} {A : Option Addr} {c : Nat} {B : List Int} {no : Bool} (h : CtS e0 W col g gW gx d q (sn : Nat) v3 vr L ve es) (hL : L.map (·.1) = recN bs K) (hK : K ≤ 12)
    (hV : VP b0 W) (hb0 : b0 ≤ W.heap.size) (hs : sn < 4294967296) (hn : n ≤ K) (hB : ReadsInt W .u8 A B.length B) (hBc : B.length ≤ c) (hBb : Byt B) (hBl : B.length ≤ 2097152)
    (h1 : ((One B B.length (-1) 0 0 false).opn sn).err = 0) (hsm : ((One B B.length (-1) 0 0 false).opn sn).summary = []) (hrc : ((One B B.length (-1) 0 0 false).opn sn).recs = if no = true then [] else recN bs n) :
    Calls Tryd.prog 11 #[.pointer (some ⟨gW, 0, none⟩), .string (nameS 1), .slice A B.length c, .int .i64 (n : Nat), .bool no] W fun e w' => e = .returned (.bool true) ∧ Below W.heap.size W w' := by
  obtain ⟨_, _, c2, c4, _⟩ := h.cells
  obtain ⟨Ar, cr, rfl, hcr, hk⟩ := h.rcl.reads
  have hl : L.length = (recN bs K).length := by rw [← hL, List.length_map]
  have hm : (L.map fun p => recS p.1) = (recN bs K).map recS := by rw [← hL, List.map_map]; rfl
  rw [hl] at c4 hcr hk
  rw [hm] at hk
  exact stands_calls W hV hb0 hs (blk_lt h.box) c2 c4 hk hcr (by rw [recN_len]; exact hn) (by rw [recN_len]; omega) hB hBc hBb hBl h1 hsm (by rw [hrc, recN_take bs hn])
end Go.Proofs.YthneomomhoilkaaDoor.PA
end
section
namespace Go.Proofs.YthneomomhoilkaaDoor.PA
open Go.RowKit Go.Maps Go.Sort Go.Proofs.YthneomomhoilkaaDoorW.PrintWords Go.Proofs.YthneomomhoilkaaDoorW.PrintLast Go.Proofs.YthneomomhoilkaaDoorW.PrintMore Go.Proofs.YthneomomhoilkaaDoor.Dw
attribute [local go_sem] max2_int min2_int max_two min_two
theorem reads_take_min {W : World} {A : Option Addr} {xs : List Int} (h : ReadsInt W .u8 A xs.length xs) (m : Nat) : ReadsInt W .u8 A (xs.take m).length (xs.take m) := by
  by_cases hm : m ≤ xs.length
  · have := h.take_ m hm
    rw [List.length_take, Nat.min_eq_left hm]; exact this
  · rw [List.take_of_length_le (by omega)]; exact h
theorem infoIn : (Tryd.prog.info? 3).map (fun i => (i.zero, i.size, i.bytes)) = some (some (.int .i64 0), 1, 8) := by kernel_rfl
theorem rec_n (W : World) (i n : Nat) (hi : i < 256) (A : Option Addr) (c : Nat) (xs : List Int) (hn : n = xs.length) (hl : xs.length ≤ 300) (h : ReadsInt W .u8 A xs.length xs) : Calls Tryd.prog 9 #[.int .i64 (i : Nat), .slice A n c] W fun e w' => ∃ A2 c2, e = .returned (.agg #[.int .u8 (i : Nat), .slice A2 n c2]) ∧ w'.ownsRow W.heap.size 5 1 (.slice A2 n c2) n (nums .u8 xs) ∧ n ≤ c2 ∧ Below W.heap.size W w' := by
  subst hn
  refine (record_calls (i : Nat) A c xs W h (by omega)).mono ?_
  rintro e w' ⟨A2, c2, rfl, ho, hb⟩
  obtain ⟨A', c', e1, hc⟩ := own_le_cap ho
  injection e1 with q1 q2 q3
  subst q3
  exact ⟨A2, c2, by rw [show ((i : Nat) : Int) % 256 = (i : Int) by omega], ho, hc, hb⟩
theorem body_at {W : World} {BA : Option Addr} {bs : List (List Int)} (h : Kd.C (Kd.slice 5 (Kd.int .u8)) W BA bs.length bs) {i : Nat} (hi : i < bs.length) :
    ∃ ad A0 c0, BA = some ad ∧ W.cell? (ad.add i) = some (.slice A0 (bs.getD i []).length c0) ∧ (bs.getD i []).length ≤ c0 ∧ ReadsInt W .u8 A0 (bodN bs i).length (bodN bs i) := by
  obtain ⟨ad, A0, c0, e, hc, hl, hC⟩ := at_L1 h (i : Int) (by omega) (by omega)
  refine ⟨ad, A0, c0, e, hc, hl, ?_⟩
  have hr : ReadsInt W .u8 A0 (rd_L1 bs i).length (rd_L1 bs i) := readsInt_of.2 (Kd.reads_of_C hC)
  exact reads_take_min hr 300
theorem place_255 (a : Int) (h0 : -9223372036854775808 ≤ a) (h1 : a ≤ 9223372036854775807) : ∃ p, 0 ≤ p ∧ p < 255 ∧ levylaw19_place.f a 255 = some p := by
  unfold levylaw19_place.f
  by_cases h : a < 0
  · have e1 : wrap64 (a + 1) = a + 1 := wr (by omega) (by omega)
    rw [if_pos h, if_neg (by decide), e1, wr (by omega) (by omega)]
    exact ⟨_, Int.tmod_nonneg _ (by omega), Int.tmod_lt_of_pos _ (by decide), rfl⟩
  · rw [if_neg h, if_neg (by decide)]
    exact ⟨_, Int.tmod_nonneg _ (by omega), Int.tmod_lt_of_pos _ (by decide), rfl⟩
set_option maxRecDepth 100000 in
set_option maxHeartbeats 16000000 in
theorem cut_calls (sn : Nat) (hs : sn < 4294967296) (BA : Option Addr) (bc : Nat) (bs : List (List Int)) (at0 by0 : Int) (w : World) {b0 : Nat} (hV : VP b0 w) (hb0 : b0 ≤ w.heap.size) (hby : BytL bs) (hrd : Kd.C (Kd.slice 5 (Kd.int .u8)) w BA bs.length bs) (hcap : bs.length ≤ bc) (ha0 : -9223372036854775808 ≤ at0) (ha1 : at0 ≤ 9223372036854775807) (hy0 : -9223372036854775808 ≤ by0) (hy1 : by0 ≤ 9223372036854775807) :
    Calls Tryd.prog 3 #[.int .u32 (sn : Nat), .slice BA bs.length bc, .int .i64 at0, .int .i64 by0] w fun e w' => e = .returned (.bool true) ∧ Below w.heap.size w w' := by
  have HKn := Aside0.mk (known_calls w hV hb0)
  have HVP : Aside0 (∀ W, Below w.heap.size w W → VP w.heap.size W) := ⟨fun W h => (hV.mono hb0).below h⟩
  have HSn := Aside0.mk hs
  have HRd := Aside0.mk hrd
  have HBy := Aside0.mk hby
  have HAt := Aside0.mk (And.intro ha0 ha1)
  have HBv := Aside0.mk (And.intro hy0 hy1)
  have HT1 := Aside0.mk trivial
  have o1 : ((Dk.start []).opn sn).err = 0 ∧ ((Dk.start []).opn sn).summary = [] ∧ ((Dk.start []).opn sn).recs = [] ∧ ((Dk.start []).opn sn).disk = One (pc0 sn) 18 (-1) 0 0 false ∧ ((Dk.start []).opn sn).gen = 1 := by rw [opn_start]; exact ⟨rfl, rfl, rfl, rfl, rfl⟩
  have HO1 := Aside0.mk o1
  clear hV hb0 hs hrd hby ha0 ha1 hy0 hy1 o1 hcap
  go_enter Tryd.func3, Tryd.ntmps3
  go_upto_region 9 with (first
    | (go_at_call 5; refine HKn.out.mono ?_; rintro e w0 ⟨rfl, hb⟩; have HB0 := Aside0.mk hb; clear hb)
    | (go_at_call 6; have q_ := HT1.out; clear q_ HT1; refine (begin_calls (sn : Nat) w0 (HVP.out w0 HB0.out) HB0.out.size).mono ?_; rintro e w1 ⟨g, gW, col1, rfl, hb1, hl1⟩; have HB1 := Aside0.mk hb1; have HL1 := Aside0.mk hl1; clear hb1 hl1)
    | (go_at_call 7; have q_ := HL1.out; clear q_; refine (open0_box sn HSn.out HL1.out HO1.out.1 HO1.out.2.1 HO1.out.2.2.1).mono ?_; rintro e w2 ⟨rfl, gx, col2, hb2, hl2, v3, hx2⟩; rw [HO1.out.2.2.2.1, HO1.out.2.2.2.2] at hl2; have HB2 := Aside0.mk (HB1.out.trans hb2); have HL2 := Aside0.mk (CtS.start hl2 hx2); have x0 := hl2.cells.1; have x1 := hl2.cells.2; clear hb2 hl2 hx2))
  obtain ⟨e0, he0⟩ : ∃ e0, e0 = w0.heap.size := ⟨_, rfl⟩
  rw [← he0] at HB2 HL2
  have HE0 := Aside0.mk he0
  have HE0b : Aside0 (w.heap.size ≤ e0) := ⟨by rw [he0]; exact HB0.out.size⟩
  have HB02 : Aside0 (Below w.heap.size w w2) := ⟨by exact HB0.out.trans (by have := HB2.out; rw [HE0.out] at this; exact this.mono HB0.out.size)⟩
  obtain ⟨K, hK⟩ : ∃ K : Nat, K = min bs.length 12 := ⟨_, rfl⟩
  have HK := Aside0.mk hK
  rename_i Q0 KE hKE
  clear HB1 HL1 HB2 x0 x1 hK he0 HKn HO1 HB0
  have hrKE : ∀ (wE : World) (colE : RCol) (vrE : Value) (LE : List (Rec × Value)) (ve : Value) (s4 s5 s6 s7 s8 s13 s14 s15 s16 s17 s18 s19 s20 s21 s22 s23 s24 s25 s26 s27 s28 s29 s30 s31 s32 s33 s34 s35 s36 s37 s38 s39 s40 s41 s42 s43 s44 s45 s46 s47 s48 s49 s50 s51 s52 s53 s54 s55 s56 s57 s58 s59 s60 s61 s62 s63 s64 s65 s66 s67 s68 s69 s70 s71 s72 s73 s74 s75 s76 s77 s78 s79 s80 s81 s82 s83 s84 s85 s86 s87 s88 s89 s90 s91 s92 s93 s94 s95 s96 s97 s98 s99 s100 s101 s102 s103 s104 s105 s106 s107 s108 s109 s110 s111 s112 s113 s114 s115 s116 s117 s118 s119 s120 s121 s122 s123 s124 s125 s126 s127 s128 s129 s130 s131 s132 s133 s134 s135 s136 s137 s138 s139 s140 s141 s142 s143 s144 s145 s146 s147 s148 s149 s150 s151 s152 s153 s154 s155 s156 s157 s158 s159 s160 s161 s162 s163 s164 s165 s166 s167 s168 s169 s170 s171 s172 s173 s174 s175 s176 s177 s178 s179 s180 s181 s182 s183 s184 s185 s186 s187 s188 s189 s190 s191 s192 s193 s194 s195 s196 s197 s198 : Value), CtS e0 wE colE g gW gx (One (datN sn bs K) (datN sn bs K).length (-1) 0 0 false) ⟨sn, 1, K, false⟩ (sn : Nat) v3 vrE LE ve (endsN bs K) → LE.map (·.1) = recN bs K → Below w.heap.size w wE → KE { tmps := #[.int .u32 (sn : Nat), .slice BA bs.length bc, .int .i64 at0, .int .i64 by0, s4, s5, s6, s7, s8, .pointer (some ⟨gW, 0, none⟩), ve, .int .i64 (sizeN bs K : Nat), .int .i64 (K : Nat), s13, s14, s15, s16, s17, s18, s19, s20, s21, s22, s23, s24, s25, s26, s27, s28, s29, s30, s31, s32, s33, s34, s35, s36, s37, s38, s39, s40, s41, s42, s43, s44, s45, s46, s47, s48, s49, s50, s51, s52, s53, s54, s55, s56, s57, s58, s59, s60, s61, s62, s63, s64, s65, s66, s67, s68, s69, s70, s71, s72, s73, s74, s75, s76, s77, s78, s79, s80, s81, s82, s83, s84, s85, s86, s87, s88, s89, s90, s91, s92, s93, s94, s95, s96, s97, s98, s99, s100, s101, s102, s103, s104, s105, s106, s107, s108, s109, s110, s111, s112, s113, s114, s115, s116, s117, s118, s119, s120, s121, s122, s123, s124, s125, s126, s127, s128, s129, s130, s131, s132, s133, s134, s135, s136, s137, s138, s139, s140, s141, s142, s143, s144, s145, s146, s147, s148, s149, s150, s151, s152, s153, s154, s155, s156, s157, s158, s159, s160, s161, s162, s163, s164, s165, s166, s167, s168, s169, s170, s171, s172, s173, s174, s175, s176, s177, s178, s179, s180, s181, s182, s183, s184, s185, s186, s187, s188, s189, s190, s191, s192, s193, s194, s195, s196, s197, s198], defers := [] } wE := by
    intro wE colE vrE LE ve s4 s5 s6 s7 s8 s13 s14 s15 s16 s17 s18 s19 s20 s21 s22 s23 s24 s25 s26 s27 s28 s29 s30 s31 s32 s33 s34 s35 s36 s37 s38 s39 s40 s41 s42 s43 s44 s45 s46 s47 s48 s49 s50 s51 s52 s53 s54 s55 s56 s57 s58 s59 s60 s61 s62 s63 s64 s65 s66 s67 s68 s69 s70 s71 s72 s73 s74 s75 s76 s77 s78 s79 s80 s81 s82 s83 s84 s85 s86 s87 s88 s89 s90 s91 s92 s93 s94 s95 s96 s97 s98 s99 s100 s101 s102 s103 s104 s105 s106 s107 s108 s109 s110 s111 s112 s113 s114 s115 s116 s117 s118 s119 s120 s121 s122 s123 s124 s125 s126 s127 s128 s129 s130 s131 s132 s133 s134 s135 s136 s137 s138 s139 s140 s141 s142 s143 s144 s145 s146 s147 s148 s149 s150 s151 s152 s153 s154 s155 s156 s157 s158 s159 s160 s161 s162 s163 s164 s165 s166 s167 s168 s169 s170 s171 s172 s173 s174 s175 s176 s177 s178 s179 s180 s181 s182 s183 s184 s185 s186 s187 s188 s189 s190 s191 s192 s193 s194 s195 s196 s197 s198 hctE hLmE hbE
    refine hKE _ _ ?_
    clear hKE
    rw [datN_len] at hctE
    have hlen := datN_len sn bs K
    have henE := hctE.en
    rw [endsN_len] at henE
    obtain ⟨Ae, ce, rfl, hce, _⟩ := own_form henE
    have HEn := Aside0.mk (own_reads' henE)
    have HCe := Aside0.mk hce
    clear henE hce
    have hK12 : K ≤ 12 := by have := HK.out; omega
    have hN0 := sizeN_ge bs K
    have hN1 := sizeN_le bs K
    obtain ⟨N, hN⟩ : ∃ N, sizeN bs K = N := ⟨_, rfl⟩
    rw [hN] at hctE hlen hN0 hN1 ⊢
    have HLmE := Aside0.mk hLmE
    have HbE := Aside0.mk hbE
    have HCE := Aside0.mk hctE
    have HLen := Aside0.mk hlen
    have HN := Aside0.mk hN
    have HK12 := Aside0.mk hK12
    have N0 : (18 : Int) ≤ (N : Int) := by omega
    have N1 : (N : Int) ≤ 4000 := by omega
    have x0 := hctE.cells.1
    clear hctE hlen hN hN0 hN1 hK12 hLmE hbE HL2 HB02
    go_upto_region 18 with (go_at_call 10; refine (files_one HCE.out.dr.da HLen.out).mono ?_; rintro e w10 ⟨gl, cl, Ad, cd, rfl, hcl, hgl, f0, f1, f2, hcd, hrd, hb⟩; have HGl := Aside0.mk hgl; have HRd10 := Aside0.mk hrd; have HB10 := Aside0.mk hb; have HF0 := Aside0.mk f0; have HCd := Aside0.mk hcd; have HCl := Aside0.mk hcl; clear hgl hrd hb f0 hcd hcl x0)
    have N2 : (N : Int) ≤ (cd : Int) := by have := HCd.out; omega
    go_upto_if 114 with fail
    rename_i K2 hK2
    have hrK2 : ∀ (t1 : Int) (s4 s5 s6 s7 s8 s13 s15 s16 s17 s18 s19 s20 s21 s22 s23 s24 s25 s26 s27 s28 s29 s30 s31 s32 s33 s34 s35 s36 s37 s38 s39 s40 s41 s42 s43 s44 s45 s46 s47 s48 s49 s50 s51 s52 s53 s54 s55 s56 s57 s58 s59 s60 s61 s62 s63 s64 s65 s66 s67 s68 s69 s70 s71 s72 s73 s74 s75 s76 s77 s78 s79 s80 s81 s82 s83 s84 s85 s86 s87 s88 s89 s90 s91 s92 s93 s94 s95 s96 s97 s98 s99 s100 s101 s102 s103 s104 s105 s106 s107 s108 s109 s110 s111 s112 s113 s114 s115 s116 s117 s118 s119 s120 s121 s122 s123 s124 s125 s126 s127 s128 s129 s130 s131 s132 s133 s134 s135 s136 s137 s138 s139 s140 s141 s142 s143 s144 s145 s146 s147 s148 s149 s150 s151 s152 s153 s154 s155 s156 s157 s158 s159 s160 s161 s162 s163 s164 s165 s166 s167 s168 s169 s170 s171 s172 s173 s174 s175 s176 s177 s178 s179 s180 s181 s182 s183 s184 s185 s186 s187 s188 s189 s190 s191 s192 s193 s194 s195 s196 s197 s198 : Value), 0 ≤ t1 → t1 ≤ 9223372036854775807 → K2 { tmps := #[.int .u32 (sn : Nat), .slice BA bs.length bc, .int .i64 t1, .int .i64 by0, s4, s5, s6, s7, s8, .pointer (some ⟨gW, 0, none⟩), .slice Ae K ce, .int .i64 (N : Nat), .int .i64 (K : Nat), s13, .slice (some ⟨gl, 0, none⟩) 1 cl, s15, s16, s17, s18, s19, s20, s21, s22, s23, s24, s25, s26, s27, s28, s29, s30, s31, s32, s33, s34, s35, s36, s37, s38, s39, s40, s41, s42, s43, s44, s45, s46, s47, s48, s49, s50, s51, s52, s53, s54, s55, s56, s57, s58, s59, s60, s61, s62, s63, s64, s65, s66, s67, s68, s69, s70, s71, s72, s73, s74, s75, s76, s77, s78, s79, s80, s81, s82, s83, s84, s85, s86, s87, s88, s89, s90, s91, s92, s93, s94, s95, s96, s97, s98, s99, s100, s101, s102, s103, s104, s105, s106, s107, s108, s109, s110, s111, s112, s113, s114, s115, s116, s117, s118, s119, s120, s121, s122, s123, s124, s125, s126, s127, s128, s129, s130, s131, s132, s133, s134, s135, s136, s137, s138, s139, s140, s141, s142, s143, s144, s145, s146, s147, s148, s149, s150, s151, s152, s153, s154, s155, s156, s157, s158, s159, s160, s161, s162, s163, s164, s165, s166, s167, s168, s169, s170, s171, s172, s173, s174, s175, s176, s177, s178, s179, s180, s181, s182, s183, s184, s185, s186, s187, s188, s189, s190, s191, s192, s193, s194, s195, s196, s197, s198], defers := [] } w10 := by
      intro t1 s4 s5 s6 s7 s8 s13 s15 s16 s17 s18 s19 s20 s21 s22 s23 s24 s25 s26 s27 s28 s29 s30 s31 s32 s33 s34 s35 s36 s37 s38 s39 s40 s41 s42 s43 s44 s45 s46 s47 s48 s49 s50 s51 s52 s53 s54 s55 s56 s57 s58 s59 s60 s61 s62 s63 s64 s65 s66 s67 s68 s69 s70 s71 s72 s73 s74 s75 s76 s77 s78 s79 s80 s81 s82 s83 s84 s85 s86 s87 s88 s89 s90 s91 s92 s93 s94 s95 s96 s97 s98 s99 s100 s101 s102 s103 s104 s105 s106 s107 s108 s109 s110 s111 s112 s113 s114 s115 s116 s117 s118 s119 s120 s121 s122 s123 s124 s125 s126 s127 s128 s129 s130 s131 s132 s133 s134 s135 s136 s137 s138 s139 s140 s141 s142 s143 s144 s145 s146 s147 s148 s149 s150 s151 s152 s153 s154 s155 s156 s157 s158 s159 s160 s161 s162 s163 s164 s165 s166 s167 s168 s169 s170 s171 s172 s173 s174 s175 s176 s177 s178 s179 s180 s181 s182 s183 s184 s185 s186 s187 s188 s189 s190 s191 s192 s193 s194 s195 s196 s197 s198 ht0 ht1
      refine hK2 _ _ ?_
      clear hK2
      have nz : ¬ (N : Int) = 0 := by omega
      have nz2 : ((N : Int) == 0) = false := by simp; omega
      have nz3 : decide ((N : Int) = 0) = false := decide_eq_false nz
      go_upto_region 23 with fail
      obtain ⟨t, ht⟩ : ∃ t : Nat, (t : Int) = t1 % (N : Int) := ⟨(t1 % (N : Int)).toNat, by have := Int.emod_nonneg t1 nz; omega⟩
      have htN : t < N := by have := Int.emod_lt_of_pos t1 (show (0 : Int) < (N : Int) by omega); omega
      rw [← ht]
      have HtN := Aside0.mk htN
      have t0 : (0 : Int) ≤ (t : Int) := by omega
      have t2 : (t : Int) < (N : Int) := by omega
      clear ht ht0 ht1 nz nz2 nz3 htN
      go_upto_region 24 with fail
      rename_i KL hKL
      have HEr : Aside0 (∀ n, n < K → ∃ ad, Ae = some ad ∧ w10.cell? (ad.add n) = some (.int .i64 (sizeN bs (n + 1) : Nat))) := ⟨fun n hn => by
        have hr := HEn.out.below HB10.out
        obtain ⟨ad, e, hc⟩ := hr.2.2 (by omega)
        refine ⟨ad, e, ?_⟩
        rw [hc n hn, List.getD_eq_getElem?_getD, endsN_get bs hn]; rfl⟩
      have hrKL : ∀ (n : Nat) (s4 s5 s6 s7 s8 s13 s16 s17 s18 s19 s20 s21 s22 s23 s24 s25 s26 s27 s28 s29 s30 s31 s32 s33 s34 s35 s36 s37 s38 s39 s40 s41 s42 s43 s44 s45 s46 s47 s48 s49 s50 s51 s52 s53 s54 s55 s56 s57 s58 s59 s60 s61 s62 s63 s64 s65 s66 s67 s68 s69 s70 s71 s72 s73 s74 s75 s76 s77 s78 s79 s80 s81 s82 s83 s84 s85 s86 s87 s88 s89 s90 s91 s92 s93 s94 s95 s96 s97 s98 s99 s100 s101 s102 s103 s104 s105 s106 s107 s108 s109 s110 s111 s112 s113 s114 s115 s116 s117 s118 s119 s120 s121 s122 s123 s124 s125 s126 s127 s128 s129 s130 s131 s132 s133 s134 s135 s136 s137 s138 s139 s140 s141 s142 s143 s144 s145 s146 s147 s148 s149 s150 s151 s152 s153 s154 s155 s156 s157 s158 s159 s160 s161 s162 s163 s164 s165 s166 s167 s168 s169 s170 s171 s172 s173 s174 s175 s176 s177 s178 s179 s180 s181 s182 s183 s184 s185 s186 s187 s188 s189 s190 s191 s192 s193 s194 s195 s196 s197 s198 : Value), n ≤ K → (n = 0 ∨ sizeN bs n ≤ t) → (n < K → t < sizeN bs (n + 1)) → KL { tmps := #[.int .u32 (sn : Nat), .slice BA bs.length bc, .int .i64 (t : Nat), .int .i64 by0, s4, s5, s6, s7, s8, .pointer (some ⟨gW, 0, none⟩), .slice Ae K ce, .int .i64 (N : Nat), .int .i64 (K : Nat), s13, .slice (some ⟨gl, 0, none⟩) 1 cl, .int .i64 (n : Nat), s16, s17, s18, s19, s20, s21, s22, s23, s24, s25, s26, s27, s28, s29, s30, s31, s32, s33, s34, s35, s36, s37, s38, s39, s40, s41, s42, s43, s44, s45, s46, s47, s48, s49, s50, s51, s52, s53, s54, s55, s56, s57, s58, s59, s60, s61, s62, s63, s64, s65, s66, s67, s68, s69, s70, s71, s72, s73, s74, s75, s76, s77, s78, s79, s80, s81, s82, s83, s84, s85, s86, s87, s88, s89, s90, s91, s92, s93, s94, s95, s96, s97, s98, s99, s100, s101, s102, s103, s104, s105, s106, s107, s108, s109, s110, s111, s112, s113, s114, s115, s116, s117, s118, s119, s120, s121, s122, s123, s124, s125, s126, s127, s128, s129, s130, s131, s132, s133, s134, s135, s136, s137, s138, s139, s140, s141, s142, s143, s144, s145, s146, s147, s148, s149, s150, s151, s152, s153, s154, s155, s156, s157, s158, s159, s160, s161, s162, s163, s164, s165, s166, s167, s168, s169, s170, s171, s172, s173, s174, s175, s176, s177, s178, s179, s180, s181, s182, s183, s184, s185, s186, s187, s188, s189, s190, s191, s192, s193, s194, s195, s196, s197, s198], defers := [] } w10 := by
        intro n s4 s5 s6 s7 s8 s13 s16 s17 s18 s19 s20 s21 s22 s23 s24 s25 s26 s27 s28 s29 s30 s31 s32 s33 s34 s35 s36 s37 s38 s39 s40 s41 s42 s43 s44 s45 s46 s47 s48 s49 s50 s51 s52 s53 s54 s55 s56 s57 s58 s59 s60 s61 s62 s63 s64 s65 s66 s67 s68 s69 s70 s71 s72 s73 s74 s75 s76 s77 s78 s79 s80 s81 s82 s83 s84 s85 s86 s87 s88 s89 s90 s91 s92 s93 s94 s95 s96 s97 s98 s99 s100 s101 s102 s103 s104 s105 s106 s107 s108 s109 s110 s111 s112 s113 s114 s115 s116 s117 s118 s119 s120 s121 s122 s123 s124 s125 s126 s127 s128 s129 s130 s131 s132 s133 s134 s135 s136 s137 s138 s139 s140 s141 s142 s143 s144 s145 s146 s147 s148 s149 s150 s151 s152 s153 s154 s155 s156 s157 s158 s159 s160 s161 s162 s163 s164 s165 s166 s167 s168 s169 s170 s171 s172 s173 s174 s175 s176 s177 s178 s179 s180 s181 s182 s183 s184 s185 s186 s187 s188 s189 s190 s191 s192 s193 s194 s195 s196 s197 s198 hnK hn1 hn2
        refine hKL _ _ ?_
        clear hKL
        have HnK := Aside0.mk hnK
        have Hn1 := Aside0.mk hn1
        have Hn2 := Aside0.mk hn2
        obtain ⟨no, hno⟩ : ∃ no, decide ((t : Int) < 18) = no := ⟨_, rfl⟩
        have hno2 : decide (t < 18) = no := by rw [← hno, decide_eq_decide]; omega
        have HNo := Aside0.mk hno2
        obtain ⟨B1, hB1⟩ : ∃ B1, B1 = (datN sn bs K).take t := ⟨_, rfl⟩
        have hB1l : B1.length = t := by rw [hB1, List.length_take, HLen.out]; have := HtN.out; omega
        have HB1e := Aside0.mk hB1
        have HB1l := Aside0.mk hB1l
        have hcs := cut_stands HSn.out HBy.out HK12.out hnK (t := t) (by rw [HN.out]; exact Nat.le_of_lt HtN.out) hn1 hn2
        dsimp only at hcs
        rw [← hB1] at hcs
        have HCs : Aside0 (((One B1 B1.length (-1) 0 0 false).opn sn).err = 0 ∧ ((One B1 B1.length (-1) 0 0 false).opn sn).summary = [] ∧ ((One B1 B1.length (-1) 0 0 false).opn sn).recs = if no = true then [] else recN bs n) := ⟨hcs.1, hcs.2.1, by rw [hcs.2.2, ← hno2]; simp only [decide_eq_true_eq]⟩
        clear hcs
        have HRt : Aside0 (ReadsInt w10 .u8 Ad t B1) := ⟨by rw [hB1]; exact HRd10.out.take_ t (Nat.le_of_lt HtN.out)⟩
        have HDb := Aside0.mk (datN_byt HBy.out sn HK12.out)
        have HBw10 : Aside0 (Below w.heap.size w w10) := ⟨HbE.out.trans (HB10.out.mono HbE.out.size)⟩
        have t3 : (t : Int) ≤ (cd : Int) := by omega
        clear hnK hn1 hn2 hB1 hB1l
        go_upto_region 29 with (first
          | ((with_reducible refine gate_builtin (b := .append) (xs := #[.const (.slice none 0 0), .tmp 140]) rfl ?_); at_builtin; refine print_append_row (w0 := w10) w10.heap.size rfl (.const (.slice none 0 0)) (.tmp 140) 29 5 .u8 1 rfl Tryd.underlying29 infoB (by decide) (.slice none 0 0) [] B1 Ad t cd rfl rfl (own_nil _ _ _ _) HRt.out (Below.refl _ _) (Nat.le_refl _) (by have := HtN.out; simp; omega) ?_; intro v11 w11 ho11 hb11 _ _; rw [List.nil_append, HB1l.out] at ho11; obtain ⟨A11, c11, rfl, hc11, _⟩ := own_form ho11; have y0 : w11.cell? ⟨gl, 0, none⟩ = some (.string (nameS 1)) := (hb11.cell (p := ⟨gl, 0, none⟩) HGl.out).trans HF0.out; have HR11 := Aside0.mk (own_reads' ho11); have HC11 := Aside0.mk hc11; have HB11 := Aside0.mk hb11; clear ho11 hc11 hb11)
          | (go_at_call 11; have hst := stands_w (B := B1) (no := no) ((HCE.out.below HB10.out).below HB11.out) HLmE.out HK12.out (HVP.out w11 (HBw10.out.trans (HB11.out.mono HBw10.out.size))) (Nat.le_trans HBw10.out.size HB11.out.size) HSn.out HnK.out (by rw [HB1l.out]; exact HR11.out) (by rw [HB1l.out]; exact HC11.out) (by rw [HB1e.out]; exact HDb.out.take t) (by rw [HB1l.out]; have := HtN.out; omega) HCs.out.1 HCs.out.2.1 HCs.out.2.2; rw [HB1l.out] at hst; refine hst.mono ?_; rintro e w12 ⟨rfl, hb12⟩; have HB12 := Aside0.mk (HB11.out.trans (hb12.mono HB11.out.size)); clear hst hb12 y0))
        have HB12w : Aside0 (Below w.heap.size w w12) := ⟨HBw10.out.trans (HB12.out.mono HBw10.out.size)⟩
        clear hno hno2
        go_upto_if 154 with fail
        rename_i K32 hK32
        have hrK32 : ∀ (st1 : Int) (s4 s5 s6 s7 s8 s13 s16 s18 s19 s20 s21 s22 s23 s24 s25 s26 s27 s28 s29 s30 s31 s32 s33 s34 s35 s36 s37 s38 s39 s40 s41 s42 s43 s44 s45 s46 s47 s48 s49 s50 s51 s52 s53 s54 s55 s56 s57 s58 s59 s60 s61 s62 s63 s64 s65 s66 s67 s68 s69 s70 s71 s72 s73 s74 s75 s76 s77 s78 s79 s80 s81 s82 s83 s84 s85 s86 s87 s88 s89 s90 s91 s92 s93 s94 s95 s96 s97 s98 s99 s100 s101 s102 s103 s104 s105 s106 s107 s108 s109 s110 s111 s112 s113 s114 s115 s116 s117 s118 s119 s120 s121 s122 s123 s124 s125 s126 s127 s128 s129 s130 s131 s132 s133 s134 s135 s136 s137 s138 s139 s140 s141 s142 s143 s144 s145 s146 s147 s148 s149 s150 s151 s152 s153 s154 s155 s156 s157 s158 s159 s160 s161 s162 s163 s164 s165 s166 s167 s168 s169 s170 s171 s172 s173 s174 s175 s176 s177 s178 s179 s180 s181 s182 s183 s184 s185 s186 s187 s188 s189 s190 s191 s192 s193 s194 s195 s196 s197 s198 : Value), (st1 = if t < 18 then 0 else 18) → K32 { tmps := #[.int .u32 (sn : Nat), .slice BA bs.length bc, .int .i64 (t : Nat), .int .i64 by0, s4, s5, s6, s7, s8, .pointer (some ⟨gW, 0, none⟩), .slice Ae K ce, .int .i64 (N : Nat), .int .i64 (K : Nat), s13, .slice (some ⟨gl, 0, none⟩) 1 cl, .int .i64 (n : Nat), s16, .int .i64 st1, s18, s19, s20, s21, s22, s23, s24, s25, s26, s27, s28, s29, s30, s31, s32, s33, s34, s35, s36, s37, s38, s39, s40, s41, s42, s43, s44, s45, s46, s47, s48, s49, s50, s51, s52, s53, s54, s55, s56, s57, s58, s59, s60, s61, s62, s63, s64, s65, s66, s67, s68, s69, s70, s71, s72, s73, s74, s75, s76, s77, s78, s79, s80, s81, s82, s83, s84, s85, s86, s87, s88, s89, s90, s91, s92, s93, s94, s95, s96, s97, s98, s99, s100, s101, s102, s103, s104, s105, s106, s107, s108, s109, s110, s111, s112, s113, s114, s115, s116, s117, s118, s119, s120, s121, s122, s123, s124, s125, s126, s127, s128, s129, s130, s131, s132, s133, s134, s135, s136, s137, s138, s139, s140, s141, s142, s143, s144, s145, s146, s147, s148, s149, s150, s151, s152, s153, s154, s155, s156, s157, s158, s159, s160, s161, s162, s163, s164, s165, s166, s167, s168, s169, s170, s171, s172, s173, s174, s175, s176, s177, s178, s179, s180, s181, s182, s183, s184, s185, s186, s187, s188, s189, s190, s191, s192, s193, s194, s195, s196, s197, s198], defers := [] } w12 := by
          intro st1 s4 s5 s6 s7 s8 s13 s16 s18 s19 s20 s21 s22 s23 s24 s25 s26 s27 s28 s29 s30 s31 s32 s33 s34 s35 s36 s37 s38 s39 s40 s41 s42 s43 s44 s45 s46 s47 s48 s49 s50 s51 s52 s53 s54 s55 s56 s57 s58 s59 s60 s61 s62 s63 s64 s65 s66 s67 s68 s69 s70 s71 s72 s73 s74 s75 s76 s77 s78 s79 s80 s81 s82 s83 s84 s85 s86 s87 s88 s89 s90 s91 s92 s93 s94 s95 s96 s97 s98 s99 s100 s101 s102 s103 s104 s105 s106 s107 s108 s109 s110 s111 s112 s113 s114 s115 s116 s117 s118 s119 s120 s121 s122 s123 s124 s125 s126 s127 s128 s129 s130 s131 s132 s133 s134 s135 s136 s137 s138 s139 s140 s141 s142 s143 s144 s145 s146 s147 s148 s149 s150 s151 s152 s153 s154 s155 s156 s157 s158 s159 s160 s161 s162 s163 s164 s165 s166 s167 s168 s169 s170 s171 s172 s173 s174 s175 s176 s177 s178 s179 s180 s181 s182 s183 s184 s185 s186 s187 s188 s189 s190 s191 s192 s193 s194 s195 s196 s197 s198 hst1
          refine hK32 _ _ ?_
          clear hK32
          go_upto_if 156 with fail
          rename_i K34 hK34
          have hrK34 : ∀ (st : Int) (s4 s5 s6 s7 s8 s13 s16 s18 s19 s20 s21 s22 s23 s24 s25 s26 s27 s28 s29 s30 s31 s32 s33 s34 s35 s36 s37 s38 s39 s40 s41 s42 s43 s44 s45 s46 s47 s48 s49 s50 s51 s52 s53 s54 s55 s56 s57 s58 s59 s60 s61 s62 s63 s64 s65 s66 s67 s68 s69 s70 s71 s72 s73 s74 s75 s76 s77 s78 s79 s80 s81 s82 s83 s84 s85 s86 s87 s88 s89 s90 s91 s92 s93 s94 s95 s96 s97 s98 s99 s100 s101 s102 s103 s104 s105 s106 s107 s108 s109 s110 s111 s112 s113 s114 s115 s116 s117 s118 s119 s120 s121 s122 s123 s124 s125 s126 s127 s128 s129 s130 s131 s132 s133 s134 s135 s136 s137 s138 s139 s140 s141 s142 s143 s144 s145 s146 s147 s148 s149 s150 s151 s152 s153 s154 s155 s156 s157 s158 s159 s160 s161 s162 s163 s164 s165 s166 s167 s168 s169 s170 s171 s172 s173 s174 s175 s176 s177 s178 s179 s180 s181 s182 s183 s184 s185 s186 s187 s188 s189 s190 s191 s192 s193 s194 s195 s196 s197 s198 : Value), (st = if t < 18 then 0 else ((sizeN bs n : Nat) : Int)) → st ≤ (t : Int) → K34 { tmps := #[.int .u32 (sn : Nat), .slice BA bs.length bc, .int .i64 (t : Nat), .int .i64 by0, s4, s5, s6, s7, s8, .pointer (some ⟨gW, 0, none⟩), .slice Ae K ce, .int .i64 (N : Nat), .int .i64 (K : Nat), s13, .slice (some ⟨gl, 0, none⟩) 1 cl, .int .i64 (n : Nat), s16, .int .i64 st, s18, s19, s20, s21, s22, s23, s24, s25, s26, s27, s28, s29, s30, s31, s32, s33, s34, s35, s36, s37, s38, s39, s40, s41, s42, s43, s44, s45, s46, s47, s48, s49, s50, s51, s52, s53, s54, s55, s56, s57, s58, s59, s60, s61, s62, s63, s64, s65, s66, s67, s68, s69, s70, s71, s72, s73, s74, s75, s76, s77, s78, s79, s80, s81, s82, s83, s84, s85, s86, s87, s88, s89, s90, s91, s92, s93, s94, s95, s96, s97, s98, s99, s100, s101, s102, s103, s104, s105, s106, s107, s108, s109, s110, s111, s112, s113, s114, s115, s116, s117, s118, s119, s120, s121, s122, s123, s124, s125, s126, s127, s128, s129, s130, s131, s132, s133, s134, s135, s136, s137, s138, s139, s140, s141, s142, s143, s144, s145, s146, s147, s148, s149, s150, s151, s152, s153, s154, s155, s156, s157, s158, s159, s160, s161, s162, s163, s164, s165, s166, s167, s168, s169, s170, s171, s172, s173, s174, s175, s176, s177, s178, s179, s180, s181, s182, s183, s184, s185, s186, s187, s188, s189, s190, s191, s192, s193, s194, s195, s196, s197, s198], defers := [] } w12 := by
            intro st s4 s5 s6 s7 s8 s13 s16 s18 s19 s20 s21 s22 s23 s24 s25 s26 s27 s28 s29 s30 s31 s32 s33 s34 s35 s36 s37 s38 s39 s40 s41 s42 s43 s44 s45 s46 s47 s48 s49 s50 s51 s52 s53 s54 s55 s56 s57 s58 s59 s60 s61 s62 s63 s64 s65 s66 s67 s68 s69 s70 s71 s72 s73 s74 s75 s76 s77 s78 s79 s80 s81 s82 s83 s84 s85 s86 s87 s88 s89 s90 s91 s92 s93 s94 s95 s96 s97 s98 s99 s100 s101 s102 s103 s104 s105 s106 s107 s108 s109 s110 s111 s112 s113 s114 s115 s116 s117 s118 s119 s120 s121 s122 s123 s124 s125 s126 s127 s128 s129 s130 s131 s132 s133 s134 s135 s136 s137 s138 s139 s140 s141 s142 s143 s144 s145 s146 s147 s148 s149 s150 s151 s152 s153 s154 s155 s156 s157 s158 s159 s160 s161 s162 s163 s164 s165 s166 s167 s168 s169 s170 s171 s172 s173 s174 s175 s176 s177 s178 s179 s180 s181 s182 s183 s184 s185 s186 s187 s188 s189 s190 s191 s192 s193 s194 s195 s196 s197 s198 hst hstt
            refine hK34 _ _ ?_
            clear hK34
            obtain ⟨sN, hsN⟩ : ∃ sN, sN = (if t < 18 then 0 else sizeN bs n) := ⟨_, rfl⟩
            have hst2 : st = (sN : Int) := by rw [hst, hsN]; split <;> rfl
            have HSt := Aside0.mk hsN
            subst hst2
            have s0 : (0 : Int) ≤ (sN : Int) := by omega
            clear hst hsN
            go_upto_region 34 with fail
            rename_i K36 hK36 Kc hKc
            have hrK36 : ∀ (zT : Unit) (s4 s5 s6 s7 s8 s13 s16 s17 s18 s19 s20 s21 s22 s23 s24 s25 s26 s27 s28 s29 s30 s31 s32 s33 s34 s35 s36 s37 s38 s39 s40 s41 s42 s43 s44 s45 s46 s47 s48 s49 s50 s51 s52 s53 s54 s55 s56 s57 s58 s59 s60 s61 s62 s63 s64 s65 s66 s67 s68 s69 s70 s71 s72 s73 s74 s75 s76 s77 s78 s79 s80 s81 s82 s83 s84 s85 s86 s87 s88 s89 s90 s91 s92 s93 s94 s95 s96 s97 s98 s99 s100 s101 s102 s103 s104 s105 s106 s107 s108 s109 s110 s111 s112 s113 s114 s115 s116 s117 s118 s119 s120 s121 s122 s123 s124 s125 s126 s127 s128 s129 s130 s131 s132 s133 s134 s135 s136 s137 s138 s139 s140 s141 s142 s143 s144 s145 s146 s147 s148 s149 s150 s151 s152 s153 s154 s155 s156 s157 s158 s159 s160 s161 s162 s163 s164 s165 s166 s167 s168 s169 s170 s171 s172 s173 s174 s175 s176 s177 s178 s179 s180 s181 s182 s183 s184 s185 s186 s187 s188 s189 s190 s191 s192 s193 s194 s195 s196 s197 s198 : Value), ¬ (9 ≤ t - sN ∧ t - sN < 13) → K36 { tmps := #[.int .u32 (sn : Nat), .slice BA bs.length bc, .int .i64 (t : Nat), .int .i64 by0, s4, s5, s6, s7, s8, .pointer (some ⟨gW, 0, none⟩), .slice Ae K ce, .int .i64 (N : Nat), .int .i64 (K : Nat), s13, .slice (some ⟨gl, 0, none⟩) 1 cl, .int .i64 (n : Nat), s16, s17, s18, s19, s20, s21, s22, s23, s24, s25, s26, s27, s28, s29, s30, s31, s32, s33, s34, s35, s36, s37, s38, s39, s40, s41, s42, s43, s44, s45, s46, s47, s48, s49, s50, s51, s52, s53, s54, s55, s56, s57, s58, s59, s60, s61, s62, s63, s64, s65, s66, s67, s68, s69, s70, s71, s72, s73, s74, s75, s76, s77, s78, s79, s80, s81, s82, s83, s84, s85, s86, s87, s88, s89, s90, s91, s92, s93, s94, s95, s96, s97, s98, s99, s100, s101, s102, s103, s104, s105, s106, s107, s108, s109, s110, s111, s112, s113, s114, s115, s116, s117, s118, s119, s120, s121, s122, s123, s124, s125, s126, s127, s128, s129, s130, s131, s132, s133, s134, s135, s136, s137, s138, s139, s140, s141, s142, s143, s144, s145, s146, s147, s148, s149, s150, s151, s152, s153, s154, s155, s156, s157, s158, s159, s160, s161, s162, s163, s164, s165, s166, s167, s168, s169, s170, s171, s172, s173, s174, s175, s176, s177, s178, s179, s180, s181, s182, s183, s184, s185, s186, s187, s188, s189, s190, s191, s192, s193, s194, s195, s196, s197, s198], defers := [] } w12 := by
              intro zT s4 s5 s6 s7 s8 s13 s16 s17 s18 s19 s20 s21 s22 s23 s24 s25 s26 s27 s28 s29 s30 s31 s32 s33 s34 s35 s36 s37 s38 s39 s40 s41 s42 s43 s44 s45 s46 s47 s48 s49 s50 s51 s52 s53 s54 s55 s56 s57 s58 s59 s60 s61 s62 s63 s64 s65 s66 s67 s68 s69 s70 s71 s72 s73 s74 s75 s76 s77 s78 s79 s80 s81 s82 s83 s84 s85 s86 s87 s88 s89 s90 s91 s92 s93 s94 s95 s96 s97 s98 s99 s100 s101 s102 s103 s104 s105 s106 s107 s108 s109 s110 s111 s112 s113 s114 s115 s116 s117 s118 s119 s120 s121 s122 s123 s124 s125 s126 s127 s128 s129 s130 s131 s132 s133 s134 s135 s136 s137 s138 s139 s140 s141 s142 s143 s144 s145 s146 s147 s148 s149 s150 s151 s152 s153 s154 s155 s156 s157 s158 s159 s160 s161 s162 s163 s164 s165 s166 s167 s168 s169 s170 s171 s172 s173 s174 s175 s176 s177 s178 s179 s180 s181 s182 s183 s184 s185 s186 s187 s188 s189 s190 s191 s192 s193 s194 s195 s196 s197 s198 hx
              refine hK36 _ _ ?_
              clear hK36
              have HX := Aside0.mk hx
              have HR12 := Aside0.mk (HRd10.out.below HB12.out)
              have y1 : w12.cell? ⟨gl, 1, none⟩ = some (.slice Ad N cd) := (HB12.out.cell (p := ⟨gl, 1, none⟩) HGl.out).trans f1
              have HN18 := Aside0.mk N0
              have HN4k := Aside0.mk N1
              clear hx
              go_upto_region 37 with ((with_reducible refine gate_builtin (b := .append) (xs := #[.const (.slice none 0 0), .tmp 175]) rfl ?_); at_builtin; refine print_append_row (w0 := w12) w12.heap.size rfl (.const (.slice none 0 0)) (.tmp 175) 29 5 .u8 1 rfl Tryd.underlying29 infoB (by decide) (.slice none 0 0) [] (datN sn bs K) Ad N cd rfl rfl (own_nil _ _ _ _) HR12.out (Below.refl _ _) (Nat.le_refl _) (by have := HN4k.out; simp; omega) ?_; intro v13 w13 ho13 hb13 _ _; rw [List.nil_append, HLen.out] at ho13; obtain ⟨A13, c13, rfl, hc13, _⟩ := own_form ho13; obtain ⟨gT, _, e13⟩ := own_form2 ho13 (by have := HN18.out; omega); injection e13 with eA13 eN13 eC13; subst eA13; subst eC13; clear eN13; have HO13 := Aside0.mk ho13; have HC13 := Aside0.mk hc13; have HB13 := Aside0.mk hb13; clear ho13 hc13 hb13 y1)
              obtain ⟨xT, hxT⟩ : ∃ xT, xT = (datN sn bs K).getD t 0 := ⟨_, rfl⟩
              obtain ⟨p, hp0, hp1, hpf⟩ := place_255 by0 HBv.out.1 HBv.out.2
              have HF13 : Aside0 (∀ W, Below w13.heap.size w13 W → W.cell? ⟨gT, t, none⟩ = some (.int .u8 xT)) := ⟨fun W hW => by
                have hr := (own_reads' HO13.out).below hW
                obtain ⟨ad, e, hc⟩ := hr.2.2 (by have := HN18.out; omega)
                injection e with e; subst e
                have := hc t HtN.out
                rw [add_at] at this
                rw [this, hxT]⟩
              have HXT := Aside0.mk hxT
              have HPl : Aside0 (∀ W, Calls Tryd.prog 12 #[.int .i64 by0, .int .i64 255] W fun e w' => e = .returned (.int .i64 p) ∧ Drawn0 W w') := ⟨fun W => levylaw19_place.calls by0 255 p W hpf⟩
              have HTn : (t : Int) < (c13 : Int) := by have := HC13.out; have := HtN.out; omega
              clear hxT hpf
              refine start_ (n := 13) (S := fun w' => w'.cell? ⟨gT, t, none⟩ = some (.int .u8 xT) ∧ Below w13.heap.size w13 w') (ds := [12]) #[false, false, false, false, false, false, false, false, false, false, false, false, false] (by kernel_rfl) rfl rfl ⟨(HF13.out _ (below_drew (Below.refl _ _))), (below_drew (Below.refl _ _))⟩ (fun hHeld => ?_)
              refine pure_ (i := 0) (N := some 177) (v := ?_) (a' := ?_) #[true, false, false, false, false, false, false, false, false, false, false, false, false] rfl rfl (by kernel_rfl) (fun _ _ _ h => h) (Or.inl ⟨by rfl, ?_⟩) ?_ ?_
              rotate_left
              · intro w'
                go_simp
                with_reducible rfl
              rotate_left
              · simp only [Act.put, List.setIfInBounds_toArray, List.set_cons_zero, List.set_cons_succ, i64_w, i32_w]
                rfl
              refine pure_ (i := 1) (N := some 178) (v := ?_) (a' := ?_) #[true, true, false, false, false, false, false, false, false, false, false, false, false] rfl rfl (by kernel_rfl) (fun _ _ _ h => h) (Or.inl ⟨by rfl, ?_⟩) ?_ ?_
              rotate_left
              · intro w'
                go_simp
                with_reducible rfl
              rotate_left
              · simp only [Act.put, List.setIfInBounds_toArray, List.set_cons_zero, List.set_cons_succ, i64_w, i32_w]
                rfl
              refine pure_ (i := 2) (N := some 179) (v := ?_) (a' := ?_) #[true, true, true, false, false, false, false, false, false, false, false, false, false] rfl rfl (by kernel_rfl) (fun _ _ _ h => h) (Or.inl ⟨by rfl, ?_⟩) ?_ ?_
              rotate_left
              · intro w'
                go_simp
                with_reducible rfl
              rotate_left
              · simp only [Act.put, List.setIfInBounds_toArray, List.set_cons_zero, List.set_cons_succ, i64_w, i32_w]
                rfl
              refine pure_ (i := 3) (N := some 180) (v := ?_) (a' := ?_) #[true, true, true, true, false, false, false, false, false, false, false, false, false] rfl rfl (by kernel_rfl) (fun _ _ _ h => h) (Or.inl ⟨by rfl, ?_⟩) ?_ ?_
              rotate_left
              · intro w'
                go_simp
                with_reducible rfl
              rotate_left
              · simp only [Act.put, List.setIfInBounds_toArray, List.set_cons_zero, List.set_cons_succ, i64_w, i32_w]
                rfl
              refine pure_ (i := 4) (N := some 181) (v := ?_) (a' := ?_) #[true, true, true, true, true, false, false, false, false, false, false, false, false] rfl rfl (by kernel_rfl) (fun _ _ _ h => h) (Or.inl ⟨by rfl, ?_⟩) ?_ ?_
              rotate_left
              · intro w'
                go_simp
                with_reducible rfl
              rotate_left
              · simp only [Act.put, List.setIfInBounds_toArray, List.set_cons_zero, List.set_cons_succ, i64_w, i32_w]
                rfl
              refine pure_ (i := 6) (N := some 183) (v := ?_) (a' := ?_) #[true, true, true, true, true, false, true, false, false, false, false, false, false] rfl rfl (by kernel_rfl) (fun _ _ _ h => h) (Or.inl ⟨by rfl, ?_⟩) ?_ ?_
              rotate_left
              · intro w'
                go_simp
                with_reducible rfl
              rotate_left
              · simp only [Act.put, List.setIfInBounds_toArray, List.set_cons_zero, List.set_cons_succ, i64_w, i32_w]
                rfl
              refine take_ (i := 5) (N := some 182) (v := ?_) (a' := ?_) #[true, true, true, true, true, true, true, false, false, false, false, false, false] rfl rfl (by kernel_rfl) (fun _ _ _ h => h) (Or.inl ⟨by rfl, ?_⟩) hHeld ?_ ?_
              rotate_left
              · rintro w' ⟨s0, s1⟩
                go_simp
                with_reducible rfl
              rotate_left
              · simp only [Act.put, List.setIfInBounds_toArray, List.set_cons_zero, List.set_cons_succ, i64_w, i32_w]
                rfl
              refine one_ (i := 7) (N := some 184) #[true, true, true, true, true, true, true, true, false, false, false, false, false] rfl rfl (by kernel_rfl) (by decide) (fun K hK => ?_)
              refine goes_ Tryd.func12 (by kernel_rfl) rfl #[.int .i64 by0, .int .i64 255] (by rfl) rfl rfl (by simp only [List.map_toArray, List.map_cons, List.map_nil]; rfl) ?_
              with_reducible refine ((HPl.out _)).mono ?_
              rintro e w14 ⟨rfl, hd14⟩
              refine ⟨_, rfl, ?_⟩
              have HB14 := Aside0.mk (hHeld.2.trans (hd14.below.mono hHeld.2.size))
              have x14 := HF13.out _ HB14.out
              obtain ⟨_, hblk13⟩ := own_typed HO13.out gT rfl; have z14 := blk_frozen ((HB14.out.block gT (blk_lt hblk13)).trans hblk13) t; clear hblk13
              clear hd14
              refine hK.out _ _ ⟨(HF13.out _ HB14.out), HB14.out⟩ (fun hHeld => ?_)
              clear hK K
              refine norm_ (a' := ?_) ?_ ?_
              rotate_left
              · show Act.put _ (some 184) _ = _
                simp only [Act.put, List.setIfInBounds_toArray, List.set_cons_zero, List.set_cons_succ, i64_w, i32_w]
                rfl
              refine pure_ (i := 8) (N := some 185) (v := ?_) (a' := ?_) #[true, true, true, true, true, true, true, true, true, false, false, false, false] rfl rfl (by kernel_rfl) (fun _ _ _ h => h) (Or.inl ⟨by rfl, ?_⟩) ?_ ?_
              rotate_left
              · intro w'
                go_simp
                with_reducible rfl
              rotate_left
              · simp only [Act.put, List.setIfInBounds_toArray, List.set_cons_zero, List.set_cons_succ, i64_w, i32_w]
                rfl
              refine pure_ (i := 9) (N := some 186) (v := ?_) (a' := ?_) #[true, true, true, true, true, true, true, true, true, true, false, false, false] rfl rfl (by kernel_rfl) (fun _ _ _ h => h) (Or.inl ⟨by rfl, ?_⟩) ?_ ?_
              rotate_left
              · intro w'
                go_simp
                with_reducible rfl
              rotate_left
              · simp only [Act.put, List.setIfInBounds_toArray, List.set_cons_zero, List.set_cons_succ, i64_w, i32_w]
                rfl
              refine pure_ (i := 10) (N := some 187) (v := ?_) (a' := ?_) #[true, true, true, true, true, true, true, true, true, true, true, false, false] rfl rfl (by kernel_rfl) (fun _ _ _ h => h) (Or.inl ⟨by rfl, ?_⟩) ?_ ?_
              rotate_left
              · intro w'
                go_simp
                with_reducible rfl
              rotate_left
              · simp only [Act.put, List.setIfInBounds_toArray, List.set_cons_zero, List.set_cons_succ, i64_w, i32_w]
                rfl
              refine pure_ (i := 11) (N := some 188) (v := ?_) (a' := ?_) #[true, true, true, true, true, true, true, true, true, true, true, true, false] rfl rfl (by kernel_rfl) (fun _ _ _ h => h) (Or.inl ⟨by rfl, ?_⟩) ?_ ?_
              rotate_left
              · intro w'
                go_simp
                with_reducible rfl
              rotate_left
              · simp only [Act.put, List.setIfInBounds_toArray, List.set_cons_zero, List.set_cons_succ, i64_w, i32_w]
                rfl
              refine last_ (i := 12) (N := none) #[true, true, true, true, true, true, true, true, true, true, true, true, true] rfl rfl (by kernel_rfl) (by decide) (fun K hK => ?_)
              refine skip_ (w1 := ?_) (by rfl) rfl ?_ ?_
              rotate_left
              · go_simp
                rfl
              refine hK.out _ _ ?_
              clear hK K
              refine done_ (by kernel_rfl) ?_
              obtain ⟨y, hy⟩ : ∃ y, y = IntKind.u8.wrap (xT + IntKind.u8.wrap (wrap64 (1 + p))) := ⟨_, rfl⟩
              rw [← hy]
              have hxb : 0 ≤ xT ∧ xT < 256 := by rw [HXT.out]; exact getD_byt HDb.out t
              have hy2 : y = (xT + (1 + p)) % 256 := by
                rw [hy, IntKind.wrap_u8, IntKind.wrap_u8, wr (by omega) (by omega)]
                omega
              have hyb : 0 ≤ y ∧ y < 256 := by omega
              have hyx : xT ≠ y := by omega
              obtain ⟨w15, hw15⟩ : ∃ w15, w15 = w14.setCell ⟨gT, t, none⟩ (.int .u8 y) := ⟨_, rfl⟩
              rw [← hw15]
              have hrow14 := own_move (w1 := w14) HO13.out fun k hk => HB14.out.block k (own_lt HO13.out k hk)
              have hg15 : w12.heap.size ≤ gT := own_base HO13.out gT rfl
              have hb15 : Below w12.heap.size w12 w15 := by rw [hw15]; exact (HB13.out.trans (HB14.out.mono HB13.out.size)).setCell (p := ⟨gT, t, none⟩) hg15 _
              obtain ⟨B2, hB2⟩ : ∃ B2, B2 = (datN sn bs K).set t y := ⟨_, rfl⟩
              have hB2l : B2.length = N := by rw [hB2, List.length_set, HLen.out]
              have hr15 : ReadsInt w15 .u8 (some ⟨gT, 0, none⟩) N B2 := by rw [hw15, hB2]; have h14 := hrow14; rw [← HLen.out] at h14; have h14b := own_put h14 (t : Int) y; rw [List.length_set, Int.toNat_natCast, HLen.out] at h14b; exact own_reads' h14b
              have hts := turn_stands HSn.out HBy.out HK12.out HnK.out (t := t) (by rw [HN.out]; exact HtN.out) Hn1.out Hn2.out hyb (by rw [← HXT.out]; exact hyx) (by rw [← HSt.out]; exact HX.out)
              dsimp only at hts
              rw [← hB2] at hts
              have HB2l := Aside0.mk hB2l
              have HR15 := Aside0.mk hr15
              have HB15 := Aside0.mk hb15
              have HTs : Aside0 (((One B2 B2.length (-1) 0 0 false).opn sn).err = 0 ∧ ((One B2 B2.length (-1) 0 0 false).opn sn).summary = [] ∧ ((One B2 B2.length (-1) 0 0 false).opn sn).recs = if no = true then [] else recN bs n) := ⟨hts.1, hts.2.1, by rw [hts.2.2, ← HNo.out]; simp only [decide_eq_true_eq]⟩
              have HB2b : Aside0 (Byt B2) := ⟨by rw [hB2]; exact byt_set HDb.out t hyb⟩
              have y0 : w15.cell? ⟨gl, 0, none⟩ = some (.string (nameS 1)) := ((HB12.out.trans (HB15.out.mono HB12.out.size)).cell (p := ⟨gl, 0, none⟩) HGl.out).trans HF0.out
              have hno : decide ((t : Int) < 18) = no := by rw [← HNo.out, decide_eq_decide]; omega
              have hno2 := HNo.out
              clear hHeld x14 z14 hy hxb hy2 hyb hyx hw15 hrow14 hg15 hb15 hB2 hB2l hr15 hts hp0 hp1 hKc hstt s0
              go_wp2_with (go_at_call 11; have hst := stands_w (B := B2) (no := no) (((HCE.out.below HB10.out).below HB12.out).below HB15.out) HLmE.out HK12.out (HVP.out w15 (HB12w.out.trans (HB15.out.mono HB12w.out.size))) (Nat.le_trans HB12w.out.size HB15.out.size) HSn.out HnK.out (by rw [HB2l.out]; exact HR15.out) (by rw [HB2l.out]; exact HC13.out) HB2b.out (by rw [HB2l.out]; have := HN4k.out; omega) HTs.out.1 HTs.out.2.1 HTs.out.2.2; rw [HB2l.out] at hst; refine hst.mono ?_; rintro e w16 ⟨rfl, hb16⟩; have HB16 := Aside0.mk (HB15.out.trans (hb16.mono HB15.out.size)); clear hst hb16 y0)
              go_ret
              exact ⟨rfl, HB12w.out.trans (HB16.out.mono HB12w.out.size)⟩
            clear hK36
            by_cases h9 : 9 ≤ t - sN
            · have a1 : (t : Int) - (sN : Int) ≥ 9 := by omega
              have a2 : decide ((t : Int) - (sN : Int) ≥ 9) = true := decide_eq_true a1
              have a3 : decide ((9 : Int) ≤ (t : Int) - (sN : Int)) = true := decide_eq_true a1
              by_cases h13 : t - sN < 13
              · have a4 : (t : Int) - (sN : Int) < 13 := by omega
                have a5 : decide ((t : Int) - (sN : Int) < 13) = true := decide_eq_true a4
                go_wp2
                go_ret
                exact ⟨rfl, HB12w.out⟩
              · have a4 : (13 : Int) ≤ (t : Int) - (sN : Int) := by omega
                have a5 : decide ((t : Int) - (sN : Int) < 13) = false := decide_eq_false (by omega)
                have HH := Aside0.mk h13
                clear h9 h13
                go_wp2
                exact hrK36 () _ _ _ _ _ _ _ _ _ _ _ _ _ _ _ _ _ _ _ _ _ _ _ _ _ _ _ _ _ _ _ _ _ _ _ _ _ _ _ _ _ _ _ _ _ _ _ _ _ _ _ _ _ _ _ _ _ _ _ _ _ _ _ _ _ _ _ _ _ _ _ _ _ _ _ _ _ _ _ _ _ _ _ _ _ _ _ _ _ _ _ _ _ _ _ _ _ _ _ _ _ _ _ _ _ _ _ _ _ _ _ _ _ _ _ _ _ _ _ _ _ _ _ _ _ _ _ _ _ _ _ _ _ _ _ _ _ _ _ _ _ _ _ _ _ _ _ _ _ _ _ _ _ _ _ _ _ _ _ _ _ _ _ _ _ _ _ _ _ _ _ _ _ _ _ _ _ _ _ _ _ _ _ _ _ _ _ _ _ (fun h => HH.out h.2)
            · have a1 : (t : Int) - (sN : Int) < 9 := by omega
              have a2 : decide ((t : Int) - (sN : Int) ≥ 9) = false := decide_eq_false (by omega)
              have a3 : decide ((9 : Int) ≤ (t : Int) - (sN : Int)) = false := decide_eq_false (by omega)
              have HH := Aside0.mk h9
              clear h9
              go_wp2
              exact hrK36 () _ _ _ _ _ _ _ _ _ _ _ _ _ _ _ _ _ _ _ _ _ _ _ _ _ _ _ _ _ _ _ _ _ _ _ _ _ _ _ _ _ _ _ _ _ _ _ _ _ _ _ _ _ _ _ _ _ _ _ _ _ _ _ _ _ _ _ _ _ _ _ _ _ _ _ _ _ _ _ _ _ _ _ _ _ _ _ _ _ _ _ _ _ _ _ _ _ _ _ _ _ _ _ _ _ _ _ _ _ _ _ _ _ _ _ _ _ _ _ _ _ _ _ _ _ _ _ _ _ _ _ _ _ _ _ _ _ _ _ _ _ _ _ _ _ _ _ _ _ _ _ _ _ _ _ _ _ _ _ _ _ _ _ _ _ _ _ _ _ _ _ _ _ _ _ _ _ _ _ _ _ _ _ _ _ _ _ _ _ (fun h => HH.out h.1)
          clear hK34
          have HSt1 := Aside0.mk hst1
          clear hst1
          by_cases hn0 : 0 < n
          · have k1 : (n : Int) > 0 := by omega
            have k2 : decide ((n : Int) > 0) = true := decide_eq_true k1
            have k3 : decide (0 < n) = true := decide_eq_true hn0
            have k4 : decide ((0 : Int) < (n : Int)) = true := decide_eq_true (by omega)
            have hz : ¬ t < 18 := by have := sizeN_ge bs n; rcases Hn1.out with h | h <;> omega
            have hnn : (n : Int) ≤ 12 := by have := HnK.out; have := HK12.out; omega
            have hlK : n - 1 < K := by have := HnK.out; omega
            obtain ⟨ad, hAe, hce⟩ := HEr.out (n - 1) hlK
            subst hAe
            have hce2 : w12.cell? (ad.add (n - 1)) = some (.int .i64 (sizeN bs n : Nat)) := by
              rw [HB12.out.cell (World.block_lt_of_cell? _ _ hce), hce, show n - 1 + 1 = n by omega]
            have k5 : ((n : Int) - 1).toNat = n - 1 := by omega
            have k6 : (0 : Int) ≤ (n : Int) - 1 := by omega
            have k7 : (n : Int) - 1 < (K : Int) := by have := HnK.out; omega
            clear hce
            go_wp2
            exact hrK34 ((sizeN bs n : Nat) : Int) _ _ _ _ _ _ _ _ _ _ _ _ _ _ _ _ _ _ _ _ _ _ _ _ _ _ _ _ _ _ _ _ _ _ _ _ _ _ _ _ _ _ _ _ _ _ _ _ _ _ _ _ _ _ _ _ _ _ _ _ _ _ _ _ _ _ _ _ _ _ _ _ _ _ _ _ _ _ _ _ _ _ _ _ _ _ _ _ _ _ _ _ _ _ _ _ _ _ _ _ _ _ _ _ _ _ _ _ _ _ _ _ _ _ _ _ _ _ _ _ _ _ _ _ _ _ _ _ _ _ _ _ _ _ _ _ _ _ _ _ _ _ _ _ _ _ _ _ _ _ _ _ _ _ _ _ _ _ _ _ _ _ _ _ _ _ _ _ _ _ _ _ _ _ _ _ _ _ _ _ _ _ _ _ _ _ _ _ (by rw [if_neg hz]) (by rcases Hn1.out with h | h <;> omega)
          · have HN00 := Aside0.mk (show n = 0 by omega)
            have k1 : ¬ (n : Int) > 0 := by omega
            have k2 : decide ((n : Int) > 0) = false := decide_eq_false k1
            have k3 : decide (0 < n) = false := decide_eq_false hn0
            have k4 : decide ((0 : Int) < (n : Int)) = false := decide_eq_false (by omega)
            clear hn0
            by_cases h18 : t < 18
            · have e1 : st1 = 0 := by rw [HSt1.out, if_pos h18]
              subst e1
              go_wp2
              exact hrK34 0 _ _ _ _ _ _ _ _ _ _ _ _ _ _ _ _ _ _ _ _ _ _ _ _ _ _ _ _ _ _ _ _ _ _ _ _ _ _ _ _ _ _ _ _ _ _ _ _ _ _ _ _ _ _ _ _ _ _ _ _ _ _ _ _ _ _ _ _ _ _ _ _ _ _ _ _ _ _ _ _ _ _ _ _ _ _ _ _ _ _ _ _ _ _ _ _ _ _ _ _ _ _ _ _ _ _ _ _ _ _ _ _ _ _ _ _ _ _ _ _ _ _ _ _ _ _ _ _ _ _ _ _ _ _ _ _ _ _ _ _ _ _ _ _ _ _ _ _ _ _ _ _ _ _ _ _ _ _ _ _ _ _ _ _ _ _ _ _ _ _ _ _ _ _ _ _ _ _ _ _ _ _ _ _ _ _ _ _ (by rw [if_pos h18]) (by omega)
            · have e1 : st1 = 18 := by rw [HSt1.out, if_neg h18]
              subst e1
              go_wp2
              exact hrK34 18 _ _ _ _ _ _ _ _ _ _ _ _ _ _ _ _ _ _ _ _ _ _ _ _ _ _ _ _ _ _ _ _ _ _ _ _ _ _ _ _ _ _ _ _ _ _ _ _ _ _ _ _ _ _ _ _ _ _ _ _ _ _ _ _ _ _ _ _ _ _ _ _ _ _ _ _ _ _ _ _ _ _ _ _ _ _ _ _ _ _ _ _ _ _ _ _ _ _ _ _ _ _ _ _ _ _ _ _ _ _ _ _ _ _ _ _ _ _ _ _ _ _ _ _ _ _ _ _ _ _ _ _ _ _ _ _ _ _ _ _ _ _ _ _ _ _ _ _ _ _ _ _ _ _ _ _ _ _ _ _ _ _ _ _ _ _ _ _ _ _ _ _ _ _ _ _ _ _ _ _ _ _ _ _ _ _ _ _ (by rw [if_neg h18, HN00.out]; rfl) (by omega)
        clear hK32
        by_cases h18 : t < 18
        · have k1 : ¬ (t : Int) ≥ 18 := by omega
          have k2 : decide ((t : Int) ≥ 18) = false := decide_eq_false k1
          have k3 : decide (18 ≤ t) = false := decide_eq_false (by omega)
          have k4 : decide ((18 : Int) ≤ (t : Int)) = false := decide_eq_false (by omega)
          go_wp2
          all_goals exact hrK32 0 _ _ _ _ _ _ _ _ _ _ _ _ _ _ _ _ _ _ _ _ _ _ _ _ _ _ _ _ _ _ _ _ _ _ _ _ _ _ _ _ _ _ _ _ _ _ _ _ _ _ _ _ _ _ _ _ _ _ _ _ _ _ _ _ _ _ _ _ _ _ _ _ _ _ _ _ _ _ _ _ _ _ _ _ _ _ _ _ _ _ _ _ _ _ _ _ _ _ _ _ _ _ _ _ _ _ _ _ _ _ _ _ _ _ _ _ _ _ _ _ _ _ _ _ _ _ _ _ _ _ _ _ _ _ _ _ _ _ _ _ _ _ _ _ _ _ _ _ _ _ _ _ _ _ _ _ _ _ _ _ _ _ _ _ _ _ _ _ _ _ _ _ _ _ _ _ _ _ _ _ _ _ _ _ _ _ _ _ (by rw [if_pos h18])
        · have k1 : (t : Int) ≥ 18 := by omega
          have k2 : decide ((t : Int) ≥ 18) = true := decide_eq_true k1
          have k3 : decide (18 ≤ t) = true := decide_eq_true (by omega)
          have k4 : decide ((18 : Int) ≤ (t : Int)) = true := decide_eq_true (by omega)
          go_wp2
          all_goals exact hrK32 18 _ _ _ _ _ _ _ _ _ _ _ _ _ _ _ _ _ _ _ _ _ _ _ _ _ _ _ _ _ _ _ _ _ _ _ _ _ _ _ _ _ _ _ _ _ _ _ _ _ _ _ _ _ _ _ _ _ _ _ _ _ _ _ _ _ _ _ _ _ _ _ _ _ _ _ _ _ _ _ _ _ _ _ _ _ _ _ _ _ _ _ _ _ _ _ _ _ _ _ _ _ _ _ _ _ _ _ _ _ _ _ _ _ _ _ _ _ _ _ _ _ _ _ _ _ _ _ _ _ _ _ _ _ _ _ _ _ _ _ _ _ _ _ _ _ _ _ _ _ _ _ _ _ _ _ _ _ _ _ _ _ _ _ _ _ _ _ _ _ _ _ _ _ _ _ _ _ _ _ _ _ _ _ _ _ _ _ _ (by rw [if_neg h18])
      clear hKL
      go_loopw [15] (fun v15 wq => ∃ n : Nat, n ≤ K ∧ v15 = .int .i64 (n : Nat) ∧ (n = 0 ∨ sizeN bs n ≤ t) ∧ wq = w10) (fun v15 _ => K - (intOf v15).toNat)
      case atStart => exact ⟨0, Nat.zero_le _, rfl, .inl rfl, rfl⟩
      case round =>
        obtain ⟨n, hnK, rfl, hn1, rfl⟩ := hrel
        by_cases hlt : n < K
        · obtain ⟨ad, hAe, hce⟩ := HEr.out n hlt
          subst hAe
          have k1 : (n : Int) < (K : Int) := by omega
          have k0 : (0 : Int) ≤ (n : Int) := by omega
          have k2 : decide ((n : Int) < (K : Int)) = true := decide_eq_true k1
          have k5 : decide (n < K) = true := decide_eq_true hlt
          have k7 : (n : Int) < 12 := by have := HK12.out; omega
          by_cases hle : sizeN bs (n + 1) ≤ t
          · have k3 : ((sizeN bs (n + 1) : Nat) : Int) ≤ (t : Int) := by omega
            have k4 : decide (((sizeN bs (n + 1) : Nat) : Int) ≤ (t : Int)) = true := decide_eq_true k3
            have k6 : decide (sizeN bs (n + 1) ≤ t) = true := decide_eq_true hle
            go_wp2
            exact ⟨⟨n + 1, hlt, congrArg _ (by omega), .inr hle, by first | rfl | trivial⟩, meas_lt2 hlt⟩
          · have k3 : ¬ ((sizeN bs (n + 1) : Nat) : Int) ≤ (t : Int) := by omega
            have k4 : decide (((sizeN bs (n + 1) : Nat) : Int) ≤ (t : Int)) = false := decide_eq_false k3
            have k6 : decide (sizeN bs (n + 1) ≤ t) = false := decide_eq_false hle
            go_wp2
            exact hrKL n _ _ _ _ _ _ _ _ _ _ _ _ _ _ _ _ _ _ _ _ _ _ _ _ _ _ _ _ _ _ _ _ _ _ _ _ _ _ _ _ _ _ _ _ _ _ _ _ _ _ _ _ _ _ _ _ _ _ _ _ _ _ _ _ _ _ _ _ _ _ _ _ _ _ _ _ _ _ _ _ _ _ _ _ _ _ _ _ _ _ _ _ _ _ _ _ _ _ _ _ _ _ _ _ _ _ _ _ _ _ _ _ _ _ _ _ _ _ _ _ _ _ _ _ _ _ _ _ _ _ _ _ _ _ _ _ _ _ _ _ _ _ _ _ _ _ _ _ _ _ _ _ _ _ _ _ _ _ _ _ _ _ _ _ _ _ _ _ _ _ _ _ _ _ _ _ _ _ _ _ _ _ _ _ _ _ _ _ _ (Nat.le_of_lt hlt) hn1 (fun _ => by omega)
        · have k1 : ¬ (n : Int) < (K : Int) := by omega
          have k2 : decide ((n : Int) < (K : Int)) = false := decide_eq_false k1
          have k5 : decide (n < K) = false := decide_eq_false hlt
          go_wp2
          exact hrKL n _ _ _ _ _ _ _ _ _ _ _ _ _ _ _ _ _ _ _ _ _ _ _ _ _ _ _ _ _ _ _ _ _ _ _ _ _ _ _ _ _ _ _ _ _ _ _ _ _ _ _ _ _ _ _ _ _ _ _ _ _ _ _ _ _ _ _ _ _ _ _ _ _ _ _ _ _ _ _ _ _ _ _ _ _ _ _ _ _ _ _ _ _ _ _ _ _ _ _ _ _ _ _ _ _ _ _ _ _ _ _ _ _ _ _ _ _ _ _ _ _ _ _ _ _ _ _ _ _ _ _ _ _ _ _ _ _ _ _ _ _ _ _ _ _ _ _ _ _ _ _ _ _ _ _ _ _ _ _ _ _ _ _ _ _ _ _ _ _ _ _ _ _ _ _ _ _ _ _ _ _ _ _ _ _ _ _ _ _ hnK hn1 (fun h => absurd h hlt)
    clear hK2
    by_cases hlt : at0 < 0
    · have h1 : decide (at0 < 0) = true := decide_eq_true hlt
      have a0 := HAt.out.1
      go_wp2
      exact hrK2 (-(at0 + 1)) _ _ _ _ _ _ _ _ _ _ _ _ _ _ _ _ _ _ _ _ _ _ _ _ _ _ _ _ _ _ _ _ _ _ _ _ _ _ _ _ _ _ _ _ _ _ _ _ _ _ _ _ _ _ _ _ _ _ _ _ _ _ _ _ _ _ _ _ _ _ _ _ _ _ _ _ _ _ _ _ _ _ _ _ _ _ _ _ _ _ _ _ _ _ _ _ _ _ _ _ _ _ _ _ _ _ _ _ _ _ _ _ _ _ _ _ _ _ _ _ _ _ _ _ _ _ _ _ _ _ _ _ _ _ _ _ _ _ _ _ _ _ _ _ _ _ _ _ _ _ _ _ _ _ _ _ _ _ _ _ _ _ _ _ _ _ _ _ _ _ _ _ _ _ _ _ _ _ _ _ _ _ _ _ _ _ _ _ _ _ (by omega) (by omega)
    · have h1 : decide (at0 < 0) = false := decide_eq_false hlt
      have a1 := HAt.out.2
      go_wp2
      exact hrK2 at0 _ _ _ _ _ _ _ _ _ _ _ _ _ _ _ _ _ _ _ _ _ _ _ _ _ _ _ _ _ _ _ _ _ _ _ _ _ _ _ _ _ _ _ _ _ _ _ _ _ _ _ _ _ _ _ _ _ _ _ _ _ _ _ _ _ _ _ _ _ _ _ _ _ _ _ _ _ _ _ _ _ _ _ _ _ _ _ _ _ _ _ _ _ _ _ _ _ _ _ _ _ _ _ _ _ _ _ _ _ _ _ _ _ _ _ _ _ _ _ _ _ _ _ _ _ _ _ _ _ _ _ _ _ _ _ _ _ _ _ _ _ _ _ _ _ _ _ _ _ _ _ _ _ _ _ _ _ _ _ _ _ _ _ _ _ _ _ _ _ _ _ _ _ _ _ _ _ _ _ _ _ _ _ _ _ _ _ _ _ _ (by omega) a1
  clear hKE
  go_loopw [10, 11, 12] (fun v10 v11 v12 wq => ∃ (i : Nat) (col : RCol) (vr : Value) (L : List (Rec × Value)), i ≤ K ∧ v12 = .int .i64 (i : Nat) ∧ v11 = .int .i64 (sizeN bs i : Nat) ∧ CtS e0 wq col g gW gx (One (datN sn bs i) (datN sn bs i).length (-1) 0 0 false) ⟨sn, 1, i, false⟩ (sn : Nat) v3 vr L v10 (endsN bs i) ∧ L.map (·.1) = recN bs i ∧ Below w.heap.size w wq) (fun _ _ v12 _ => K - (intOf v12).toNat)
  case atStart => exact ⟨0, col2, nilV, [], Nat.zero_le _, rfl, rfl, by rw [datN_zero, pc0_len]; exact HL2.out, rfl, HB02.out⟩
  case round =>
    obtain ⟨i, col, vr, L, hiK, rfl, rfl, hct, hLm, hbq⟩ := hrel
    have HIK := Aside0.mk hiK
    have HCt := Aside0.mk hct
    have HLm := Aside0.mk hLm
    have HBq := Aside0.mk hbq
    clear hct hLm hbq hiK
    by_cases hi : i < K
    · have hi1 : i < bs.length := by have := HK.out; omega
      have hi2 : i < 12 := by have := HK.out; omega
      obtain ⟨ad, A0, c0, hBA, hcell, hlc, hrb⟩ := body_at HRd.out hi1
      subst hBA
      have HHr := Aside0.mk hrb
      rw [← HBq.out.cell (World.block_lt_of_cell? _ _ hcell)] at hcell
      have HLc := Aside0.mk hlc
      have j0 : (0 : Int) ≤ (i : Int) := by omega
      have j1 : (i : Int) < (bs.length : Int) := by omega
      have j2 : decide ((i : Int) < (bs.length : Int)) = true := decide_eq_true j1
      have j3 : (i : Int) < 12 := by omega
      have j4 : decide ((i : Int) < 12) = true := decide_eq_true j3
      have j5 : decide (i < bs.length) = true := decide_eq_true hi1
      obtain ⟨n, hn⟩ : ∃ n, n = (bodN bs i).length := ⟨_, rfl⟩
      obtain ⟨ln, hln⟩ : ∃ ln, ln = (bs.getD i []).length := ⟨_, rfl⟩
      rw [← hln] at hcell hlc
      have hnm : n = if 300 < ln then 300 else ln := by rw [hn]; unfold bodN; rw [List.length_take, ← hln]; split <;> omega
      have hmin : (if (300 : Int) < (ln : Int) then (300 : Int) else (ln : Int)) = (n : Int) := by rw [hnm]; split <;> split <;> omega
      have n0 : (0 : Int) ≤ (n : Int) := by omega
      have n1 : (n : Int) ≤ (c0 : Int) := by rw [hnm]; split <;> omega
      have HN := Aside0.mk hn
      clear hrb hlc hln hnm hn
      go_upto_region 11 with fail
      go_quiet (fail)
      go_upto_region 12 with fail
      obtain ⟨w3, hw3⟩ : ∃ w3, w3 = wr.drewN nq := ⟨_, rfl⟩
      rw [← hw3]
      have hb3 : Below wr.heap.size wr w3 := by rw [hw3]; exact (Drawn0.below ⟨⟨nq, rfl⟩⟩)
      have HC3 := Aside0.mk (HCt.out.below hb3)
      have HB3 := Aside0.mk (HBq.out.trans (hb3.mono HBq.out.size))
      have HRec : Aside0 (∀ W, Below w3.heap.size w3 W → Calls Tryd.prog 9 #[.int .i64 (i : Nat), .slice A0 n c0] W fun e w' => ∃ A2 c2, e = .returned (.agg #[.int .u8 (i : Nat), .slice A2 n c2]) ∧ w'.ownsRow W.heap.size 5 1 (.slice A2 n c2) n (nums .u8 (bodN bs i)) ∧ n ≤ c2 ∧ Below W.heap.size W w') := ⟨fun W hW => rec_n W i n (by omega) A0 c0 _ HN.out (bodN_len bs i) (HHr.out.below (HB3.out.trans (hW.mono HB3.out.size)))⟩
      have HPut : Aside0 (∀ W A c, Below w3.heap.size w3 W → W.ownsRow w3.heap.size 5 1 (.slice A n c) n (nums .u8 (bodN bs i)) → n ≤ c → Calls Tryd.prog 8 #[.pointer (some ⟨gx, 0, none⟩), .agg #[.int .u8 (i : Nat), .slice A n c]] W fun e' w' => e' = .returned (.int .i64 0) ∧ ∃ col', CtS e0 w' col' g gW gx (One (datN sn bs (i + 1)) (datN sn bs (i + 1)).length (-1) 0 0 false) ⟨sn, 1, i + 1, false⟩ (sn : Nat) v3 vr L u10 (endsN bs i) ∧ Below e0 W w') := ⟨fun W A c hW hr hc => by
        have hn := HN.out
        subst hn
        exact put_c (HC3.out.below hW) (cut_put sn bs i hi2) (show 1 < 100000000 by decide) HSn.out (by show i < 4294967295; omega) ⟨by omega, by omega⟩ A c (bodN_byt HBy.out i) (own_reads' hr) hc⟩
      have HF3 : Aside0 (∀ W, Below w3.heap.size w3 W → W.cell? ⟨gW, 1, none⟩ = some (.pointer (some ⟨gx, 0, none⟩))) := ⟨fun W hW => (HC3.out.below hW).cells.2.1⟩
      clear hw3 hb3 hcell hmin j2 j4 j5
      refine start_ (n := 9) (S := fun w' => w'.cell? ⟨gW, 1, none⟩ = some (.pointer (some ⟨gx, 0, none⟩)) ∧ Below w3.heap.size w3 w') (ds := [7]) #[false, false, false, false, false, false, false, false, false] (by kernel_rfl) rfl rfl ⟨(HF3.out _ (below_drew (Below.refl _ _))), (below_drew (Below.refl _ _))⟩ (fun hHeld => ?_)
      refine pure_ (i := 0) (N := some 58) (v := ?_) (a' := ?_) #[true, false, false, false, false, false, false, false, false] rfl rfl (by kernel_rfl) (fun _ _ _ h => h) (Or.inl ⟨by rfl, ?_⟩) ?_ ?_
      rotate_left
      · intro w'
        go_simp
        with_reducible rfl
      rotate_left
      · simp only [Act.put, List.setIfInBounds_toArray, List.set_cons_zero, List.set_cons_succ, i64_w, i32_w]
        rfl
      refine pure_ (i := 1) (N := some 59) (v := ?_) (a' := ?_) #[true, true, false, false, false, false, false, false, false] rfl rfl (by kernel_rfl) (fun _ _ _ h => h) (Or.inl ⟨by rfl, ?_⟩) ?_ ?_
      rotate_left
      · intro w'
        go_simp
        with_reducible rfl
      rotate_left
      · simp only [Act.put, List.setIfInBounds_toArray, List.set_cons_zero, List.set_cons_succ, i64_w, i32_w]
        rfl
      refine pure_ (i := 2) (N := some 60) (v := ?_) (a' := ?_) #[true, true, true, false, false, false, false, false, false] rfl rfl (by kernel_rfl) (fun _ _ _ h => h) (Or.inl ⟨by rfl, ?_⟩) ?_ ?_
      rotate_left
      · intro w'
        go_simp
        with_reducible rfl
      rotate_left
      · simp only [Act.put, List.setIfInBounds_toArray, List.set_cons_zero, List.set_cons_succ, i64_w, i32_w]
        rfl
      refine pure_ (i := 4) (N := some 62) (v := ?_) (a' := ?_) #[true, true, true, false, true, false, false, false, false] rfl rfl (by kernel_rfl) (fun _ _ _ h => h) (Or.inl ⟨by rfl, ?_⟩) ?_ ?_
      rotate_left
      · intro w'
        go_simp
        with_reducible rfl
      rotate_left
      · simp only [Act.put, List.setIfInBounds_toArray, List.set_cons_zero, List.set_cons_succ, i64_w, i32_w]
        rfl
      refine pure_ (i := 5) (N := some 63) (v := ?_) (a' := ?_) #[true, true, true, false, true, true, false, false, false] rfl rfl (by kernel_rfl) (fun _ _ _ h => h) (Or.inl ⟨by rfl, ?_⟩) ?_ ?_
      rotate_left
      · intro w'
        go_simp
        with_reducible rfl
      rotate_left
      · simp only [Act.put, List.setIfInBounds_toArray, List.set_cons_zero, List.set_cons_succ, i64_w, i32_w]
        rfl
      refine take_ (i := 3) (N := some 61) (v := ?_) (a' := ?_) #[true, true, true, true, true, true, false, false, false] rfl rfl (by kernel_rfl) (fun _ _ _ h => h) (Or.inl ⟨by rfl, ?_⟩) hHeld ?_ ?_
      rotate_left
      · rintro w' ⟨s0, s1⟩
        go_simp
        with_reducible rfl
      rotate_left
      · simp only [Act.put, List.setIfInBounds_toArray, List.set_cons_zero, List.set_cons_succ, i64_w, i32_w]
        rfl
      refine one_ (i := 6) (N := some 64) #[true, true, true, true, true, true, true, false, false] rfl rfl (by kernel_rfl) (by decide) (fun K hK => ?_)
      refine goes_ Tryd.func9 (by kernel_rfl) rfl #[.int .i64 (i : Nat), .slice A0 n c0] (by rfl) rfl rfl (by simp only [List.map_toArray, List.map_cons, List.map_nil]; rfl) ?_
      with_reducible refine ((HRec.out _ hHeld.2)).mono ?_
      rintro e w4 ⟨A4, c4, rfl, ho4, hc4, hb4⟩
      refine ⟨_, rfl, ?_⟩
      have HO4 := Aside0.mk (own_lower ho4 hHeld.2.size)
      have HB4 := Aside0.mk (hHeld.2.trans (hb4.mono hHeld.2.size))
      have HC4 := Aside0.mk hc4
      clear ho4 hb4 hc4
      refine hK.out _ _ ⟨(HF3.out _ HB4.out), HB4.out⟩ (fun hHeld => ?_)
      clear hK K
      refine norm_ (a' := ?_) ?_ ?_
      rotate_left
      · show Act.put _ (some 64) _ = _
        simp only [Act.put, List.setIfInBounds_toArray, List.set_cons_zero, List.set_cons_succ, i64_w, i32_w]
        rfl
      refine last_ (i := 7) (N := some 65) #[true, true, true, true, true, true, true, true, false] rfl rfl (by kernel_rfl) (by decide) (fun K hK => ?_)
      refine goes_ Tryd.func8 (by kernel_rfl) rfl #[.pointer (some ⟨gx, 0, none⟩), .agg #[.int .u8 (i : Nat), .slice A4 n c4]] (by rfl) rfl rfl (by simp only [List.map_toArray, List.map_cons, List.map_nil]; rfl) ?_
      with_reducible refine ((HPut.out _ A4 c4 hHeld.2 HO4.out HC4.out)).mono ?_
      rintro e w5 ⟨rfl, col5, hc5, hb5⟩
      refine ⟨_, rfl, ?_⟩
      have HC5 := Aside0.mk hc5
      have HB5 := Aside0.mk (HB3.out.trans (((HB4.out.mono HC3.out.base).trans hb5).mono HE0b.out))
      clear hc5 hb5
      refine hK.out _ _ ?_
      clear hK K
      refine norm_ (a' := ?_) ?_ ?_
      rotate_left
      · show Act.put _ (some 65) _ = _
        simp only [Act.put, List.setIfInBounds_toArray, List.set_cons_zero, List.set_cons_succ, i64_w, i32_w]
        rfl
      refine pure_ (i := 8) (N := some 66) (v := ?_) (a' := ?_) #[true, true, true, true, true, true, true, true, true] rfl rfl (by kernel_rfl) (fun _ _ _ h => h) (Or.inl ⟨by rfl, ?_⟩) ?_ ?_
      rotate_left
      · intro w'
        go_simp
        with_reducible rfl
      rotate_left
      · simp only [Act.put, List.setIfInBounds_toArray, List.set_cons_zero, List.set_cons_succ, i64_w, i32_w]
        rfl
      refine done_ (by kernel_rfl) ?_
      go_upto_region 14 with fail
      have HF5 : Aside0 (∀ W, Below w5.heap.size w5 W → W.cell? ⟨gW, 4, none⟩ = some vr) := ⟨fun W hW => (HC5.out.below hW).cells.2.2.2.1⟩
      have HRec5 : Aside0 (∀ W, Below w5.heap.size w5 W → Calls Tryd.prog 9 #[.int .i64 (i : Nat), .slice A0 n c0] W fun e w' => ∃ A2 c2, e = .returned (.agg #[.int .u8 (i : Nat), .slice A2 n c2]) ∧ w'.ownsRow W.heap.size 5 1 (.slice A2 n c2) n (nums .u8 (bodN bs i)) ∧ n ≤ c2 ∧ Below W.heap.size W w') := ⟨fun W hW => rec_n W i n (by omega) A0 c0 _ HN.out (bodN_len bs i) (HHr.out.below (HB5.out.trans (hW.mono HB5.out.size)))⟩
      have HLl : Aside0 (L.length = i) := ⟨by have := congrArg List.length HLm.out; rwa [List.length_map, recN_len] at this⟩
      clear hHeld
      refine start_ (n := 13) (S := fun w' => w'.cell? ⟨gW, 4, none⟩ = some vr ∧ Below w5.heap.size w5 w') (ds := [9, 12]) #[false, false, false, false, false, false, false, false, false, false, false, false, false] (by kernel_rfl) rfl rfl ⟨(HF5.out _ (below_drew (Below.refl _ _))), (below_drew (Below.refl _ _))⟩ (fun hHeld => ?_)
      refine pure_ (i := 0) (N := some 67) (v := ?_) (a' := ?_) #[true, false, false, false, false, false, false, false, false, false, false, false, false] rfl rfl (by kernel_rfl) (fun _ _ _ h => h) (Or.inl ⟨by rfl, ?_⟩) ?_ ?_
      rotate_left
      · intro w'
        go_simp
        with_reducible rfl
      rotate_left
      · simp only [Act.put, List.setIfInBounds_toArray, List.set_cons_zero, List.set_cons_succ, i64_w, i32_w]
        rfl
      refine pure_ (i := 1) (N := some 68) (v := ?_) (a' := ?_) #[true, true, false, false, false, false, false, false, false, false, false, false, false] rfl rfl (by kernel_rfl) (fun _ _ _ h => h) (Or.inl ⟨by rfl, ?_⟩) ?_ ?_
      rotate_left
      · intro w'
        go_simp
        with_reducible rfl
      rotate_left
      · simp only [Act.put, List.setIfInBounds_toArray, List.set_cons_zero, List.set_cons_succ, i64_w, i32_w]
        rfl
      refine pure_ (i := 2) (N := some 69) (v := ?_) (a' := ?_) #[true, true, true, false, false, false, false, false, false, false, false, false, false] rfl rfl (by kernel_rfl) (fun _ _ _ h => h) (Or.inl ⟨by rfl, ?_⟩) ?_ ?_
      rotate_left
      · intro w'
        go_simp
        with_reducible rfl
      rotate_left
      · simp only [Act.put, List.setIfInBounds_toArray, List.set_cons_zero, List.set_cons_succ, i64_w, i32_w]
        rfl
      refine pure_ (i := 3) (N := some 70) (v := ?_) (a' := ?_) #[true, true, true, true, false, false, false, false, false, false, false, false, false] rfl rfl (by kernel_rfl) (fun _ _ _ h => h) (Or.inl ⟨by rfl, ?_⟩) ?_ ?_
      rotate_left
      · intro w'
        go_simp
        with_reducible rfl
      rotate_left
      · simp only [Act.put, List.setIfInBounds_toArray, List.set_cons_zero, List.set_cons_succ, i64_w, i32_w]
        rfl
      refine pure_ (i := 5) (N := some 72) (v := ?_) (a' := ?_) #[true, true, true, true, false, true, false, false, false, false, false, false, false] rfl rfl (by kernel_rfl) (fun _ _ _ h => h) (Or.inl ⟨by rfl, ?_⟩) ?_ ?_
      rotate_left
      · intro w'
        go_simp
        with_reducible rfl
      rotate_left
      · simp only [Act.put, List.setIfInBounds_toArray, List.set_cons_zero, List.set_cons_succ, i64_w, i32_w]
        rfl
      refine pure_ (i := 6) (N := some 73) (v := ?_) (a' := ?_) #[true, true, true, true, false, true, true, false, false, false, false, false, false] rfl rfl (by kernel_rfl) (fun _ _ _ h => h) (Or.inl ⟨by rfl, ?_⟩) ?_ ?_
      rotate_left
      · intro w'
        go_simp
        with_reducible rfl
      rotate_left
      · simp only [Act.put, List.setIfInBounds_toArray, List.set_cons_zero, List.set_cons_succ, i64_w, i32_w]
        rfl
      refine take_ (i := 4) (N := some 71) (v := ?_) (a' := ?_) #[true, true, true, true, true, true, true, false, false, false, false, false, false] rfl rfl (by kernel_rfl) (fun _ _ _ h => h) (Or.inl ⟨by rfl, ?_⟩) hHeld ?_ ?_
      rotate_left
      · rintro w' ⟨s0, s1⟩
        go_simp
        with_reducible rfl
      rotate_left
      · simp only [Act.put, List.setIfInBounds_toArray, List.set_cons_zero, List.set_cons_succ, i64_w, i32_w]
        rfl
      refine one_ (i := 7) (N := some 74) #[true, true, true, true, true, true, true, true, false, false, false, false, false] rfl rfl (by kernel_rfl) (by decide) (fun K hK => ?_)
      refine goes_ Tryd.func9 (by kernel_rfl) rfl #[.int .i64 (i : Nat), .slice A0 n c0] (by rfl) rfl rfl (by simp only [List.map_toArray, List.map_cons, List.map_nil]; rfl) ?_
      with_reducible refine ((HRec5.out _ hHeld.2)).mono ?_
      rintro e w6 ⟨A6, c6, rfl, ho6, hc6, hb6⟩
      refine ⟨_, rfl, ?_⟩
      have hb56 := hHeld.2.trans (hb6.mono hHeld.2.size)
      have HO6 := Aside0.mk (own_lower ho6 hHeld.2.size)
      have HB56 := Aside0.mk hb56
      have HC6 := Aside0.mk (HC5.out.fresh hb56)
      have HT6 := Aside0.mk (noP_new (w := w5) (col := col5) ho6 hHeld.2.size)
      have HE56 := Aside0.mk HC5.out.base
      have HL6 : Aside0 ((L.length + 1) * 32 ≤ 140737488355328) := ⟨by rw [HLl.out]; omega⟩
      clear ho6 hc6 hb6 hb56
      refine hK.out _ _ ⟨(HF5.out _ HB56.out), HB56.out⟩ (fun hHeld => ?_)
      clear hK K
      refine norm_ (a' := ?_) ?_ ?_
      rotate_left
      · show Act.put _ (some 74) _ = _
        simp only [Act.put, List.setIfInBounds_toArray, List.set_cons_zero, List.set_cons_succ, i64_w, i32_w]
        rfl
      refine one_ (i := 8) (N := some 75) #[true, true, true, true, true, true, true, true, true, false, false, false, false] rfl rfl (by kernel_rfl) (by decide) (fun K hK => ?_)
      refine value_ (w1 := ?_) (v := ?_) (by rfl) rfl ?_ ?_
      rotate_left 2
      · go_simp
        constructor
        · rfl
        · rfl
      refine hK.out _ _ ⟨(HF5.out _ (below_alloc HB56.out _)), (below_alloc HB56.out _)⟩ (fun hHeld => ?_)
      clear hK K
      refine norm_ (a' := ?_) ?_ ?_
      rotate_left
      · show Act.put _ (some 75) _ = _
        simp only [Act.put, List.setIfInBounds_toArray, List.set_cons_zero, List.set_cons_succ, i64_w, i32_w]
        rfl
      refine last_ (i := 9) (N := some 76) #[true, true, true, true, true, true, true, true, true, true, false, false, false] rfl rfl (by kernel_rfl) (by decide) (fun K hK => ?_)
      refine step_append_cells (w0 := w6) (W := w6) e0 (by rfl) (.tmp 71) (.tmp 75) 30 37 (.agg #[.int .u8 0, .slice none 0 0]) 2 32 rfl Tryd.underlying30 infoRec rfl (by decide) (by decide) vr L.length (flatR L) [.int .u8 (i : Nat), .slice A6 n c6] rfl rfl rfl ?b1 HC6.out.rcl.own (Below.refl _ _) HC6.out.base HL6.out ?_
      (case b1 => intro u hu; simp only [List.mem_cons, List.not_mem_nil, or_false] at hu; rcases hu with rfl | rfl <;> rfl)
      intro v7 w7 ho7 _ hg7 hat7
      obtain ⟨A7, c7, rfl, _⟩ := own_form ho7
      obtain ⟨hcs7, hbs7⟩ := HC6.out.snoc (p := (⟨(i : Int), bodN bs i⟩, .slice A6 n c6)) (by have := HO6.out; rw [HN.out] at this ⊢; exact own_lower this HE56.out) HT6.out hg7 ho7 hat7
      have hx7 := (hg7.block gW (blk_lt HC6.out.box) (own_ne HC6.out.rcl.own HC6.out.box (by decide))).trans HC6.out.box
      have x7 : w7.cell? ⟨gW, 4, none⟩ = some vr := (blk_cell hx7 4).trans rfl
      have y7 := blk_frozen hx7 4
      have HC7 := Aside0.mk hcs7
      have HBs7 := Aside0.mk hbs7
      clear ho7 hg7 hat7 hcs7 hbs7 hx7
      refine hK.out _ _ ?_
      clear hK K
      refine norm_ (a' := ?_) ?_ ?_
      rotate_left
      · show Act.put _ (some 76) _ = _
        simp only [Act.put, List.setIfInBounds_toArray, List.set_cons_zero, List.set_cons_succ, i64_w, i32_w]
        rfl
      refine pure_ (i := 10) (N := some 77) (v := ?_) (a' := ?_) #[true, true, true, true, true, true, true, true, true, true, true, false, false] rfl rfl (by kernel_rfl) (fun _ _ _ h => h) (Or.inl ⟨by rfl, ?_⟩) ?_ ?_
      rotate_left
      · intro w'
        go_simp
        with_reducible rfl
      rotate_left
      · simp only [Act.put, List.setIfInBounds_toArray, List.set_cons_zero, List.set_cons_succ, i64_w, i32_w]
        rfl
      refine pure_ (i := 11) (N := some 78) (v := ?_) (a' := ?_) #[true, true, true, true, true, true, true, true, true, true, true, true, false] rfl rfl (by kernel_rfl) (fun _ _ _ h => h) (Or.inl ⟨by rfl, ?_⟩) ?_ ?_
      rotate_left
      · intro w'
        go_simp
        with_reducible rfl
      rotate_left
      · simp only [Act.put, List.setIfInBounds_toArray, List.set_cons_zero, List.set_cons_succ, i64_w, i32_w]
        rfl
      refine last_ (i := 12) (N := none) #[true, true, true, true, true, true, true, true, true, true, true, true, true] rfl rfl (by kernel_rfl) (by decide) (fun K hK => ?_)
      refine skip_ (w1 := ?_) (by rfl) rfl ?_ ?_
      rotate_left
      · go_simp
        rfl
      refine hK.out _ _ ?_
      clear hK K
      refine done_ (by kernel_rfl) ?_
      obtain ⟨w8, hw8⟩ : ∃ w8, w8 = w7.setCell ⟨gW, 4, none⟩ (.slice A7 (L.length + 1) c7) := ⟨_, rfl⟩
      rw [← hw8]
      have hc8 := HC7.out
      have hb8 := HBs7.out
      rw [← hw8] at hc8 hb8
      have HB8 : Aside0 (Below w.heap.size w w8) := ⟨(HB5.out.trans ((HB56.out.mono HC5.out.base).trans hb8 |>.mono HE0b.out))⟩
      obtain ⟨vr8, hvr8⟩ : ∃ vr8, vr8 = Value.slice A7 (L.length + 1) c7 := ⟨_, rfl⟩
      obtain ⟨L8, hL8⟩ : ∃ L8, L8 = L ++ [((⟨(i : Int), bodN bs i⟩ : Rec), Value.slice A6 n c6)] := ⟨_, rfl⟩
      rw [← hvr8, ← hL8] at hc8
      have HLm8 : Aside0 (L8.map (·.1) = recN bs (i + 1)) := ⟨by rw [hL8, List.map_append, HLm.out, recN_succ]; rfl⟩
      obtain ⟨col8, hc8⟩ : ∃ col8, CtS e0 w8 col8 g gW gx (One (datN sn bs (i + 1)) (datN sn bs (i + 1)).length (-1) 0 0 false) ⟨sn, 1, i + 1, false⟩ (sn : Nat) v3 vr8 L8 u10 (endsN bs i) := ⟨_, hc8⟩
      have HC8 := Aside0.mk hc8
      have hsz := sizeN_succ bs i
      have hsl := sizeN_le bs i
      have hnl := bodN_len bs i
      rw [← HN.out] at hsz hnl
      obtain ⟨sI, hsI⟩ : ∃ sI : Int, sI = (sizeN bs i : Nat) := ⟨_, rfl⟩
      rw [← hsI]
      have t0 : 0 ≤ sI := by omega
      have t1 : sI ≤ 10000 := by omega
      have t2 : (n : Int) ≤ 300 := by omega
      have HSz : Aside0 (sI + 18 + (n : Int) = ((sizeN bs (i + 1) : Nat) : Int)) := ⟨by omega⟩
      have HEl : Aside0 ((endsN bs i).length = i) := ⟨endsN_len bs i⟩
      have HI12 := Aside0.mk hi2
      clear hw8 hb8 hc8 hvr8 hL8 hHeld x7 y7 hsz hsl hnl hsI hi2
      go_upto_region 10 with ((with_reducible refine gate_builtin (b := .append) (xs := #[.tmp 84, .tmp 86]) rfl ?_); at_builtin; refine print_append_cells (w0 := w8) (W := w8) e0 rfl (.tmp 84) (.tmp 86) 33 3 (.int .i64 0) 1 8 rfl Tryd.underlying33 infoIn rfl (by decide) (by decide) u10 i (nums .i64 (endsN bs i)) [.int .i64 (sI + 18 + (n : Int))] rfl rfl rfl ?b1 (by have := HC8.out.en; rwa [HEl.out] at this) (Below.refl _ _) HC8.out.base (by have := HI12.out; omega) ?_; (case b1 => intro u hu; simp only [List.mem_cons, List.not_mem_nil, or_false] at hu; subst hu; rfl); intro v9 w9 ho9 _ hg9 hat9; have HO9 := Aside0.mk ho9; have HG9 := Aside0.mk hg9; have HA9 := Aside0.mk hat9; clear ho9 hg9 hat9)
      have hends : CtS e0 w9 (colN col8 w8.heap.size fun _ => .tm) g gW gx (One (datN sn bs (i + 1)) (datN sn bs (i + 1)).length (-1) 0 0 false) ⟨sn, 1, i + 1, false⟩ (sn : Nat) v3 vr8 L8 v9 (endsN bs (i + 1)) ∧ Below e0 w8 w9 := by
        have ho := HO9.out
        rw [HSz.out] at ho
        rw [endsN_succ]
        refine HC8.out.ends HG9.out ?_ HA9.out
        rw [List.length_append, HEl.out, nums_append]
        exact ho
      have HE9 := Aside0.mk hends.1
      have HB9 : Aside0 (Below w.heap.size w w9) := ⟨HB8.out.trans (hends.2.mono HE0b.out)⟩
      have HI12b := HI12.out
      have HKi := Aside0.mk hi
      clear hends hi
      go_wp2
      have e1 : ((i : Nat) : Int) + 1 = ((i + 1 : Nat) : Int) := by omega
      exact ⟨⟨i + 1, _, vr8, L8, HKi.out, congrArg _ e1, congrArg _ HSz.out, HE9.out, HLm8.out, HB9.out⟩, meas_lt2 HKi.out⟩
    · have hiE : i = K := by have := HIK.out; omega
      subst hiE
      by_cases hl : i < bs.length
      · have j2 : decide ((i : Int) < (bs.length : Int)) = true := decide_eq_true (by omega)
        have j5 : decide (i < bs.length) = true := decide_eq_true hl
        have j3 : ¬ (i : Int) < 12 := by have := HK.out; omega
        have j4 : decide ((i : Int) < 12) = false := decide_eq_false j3
        go_wp2
        exact hrKE wr col vr L u10 _ _ _ _ _ _ _ _ _ _ _ _ _ _ _ _ _ _ _ _ _ _ _ _ _ _ _ _ _ _ _ _ _ _ _ _ _ _ _ _ _ _ _ _ _ _ _ _ _ _ _ _ _ _ _ _ _ _ _ _ _ _ _ _ _ _ _ _ _ _ _ _ _ _ _ _ _ _ _ _ _ _ _ _ _ _ _ _ _ _ _ _ _ _ _ _ _ _ _ _ _ _ _ _ _ _ _ _ _ _ _ _ _ _ _ _ _ _ _ _ _ _ _ _ _ _ _ _ _ _ _ _ _ _ _ _ _ _ _ _ _ _ _ _ _ _ _ _ _ _ _ _ _ _ _ _ _ _ _ _ _ _ _ _ _ _ _ _ _ _ _ _ _ _ _ _ _ _ _ _ _ _ _ _ _ _ _ _ _ _ _ HCt.out HLm.out HBq.out
      · have j2 : decide ((i : Int) < (bs.length : Int)) = false := decide_eq_false (by omega)
        have j5 : decide (i < bs.length) = false := decide_eq_false hl
        go_wp2
        exact hrKE wr col vr L u10 _ _ _ _ _ _ _ _ _ _ _ _ _ _ _ _ _ _ _ _ _ _ _ _ _ _ _ _ _ _ _ _ _ _ _ _ _ _ _ _ _ _ _ _ _ _ _ _ _ _ _ _ _ _ _ _ _ _ _ _ _ _ _ _ _ _ _ _ _ _ _ _ _ _ _ _ _ _ _ _ _ _ _ _ _ _ _ _ _ _ _ _ _ _ _ _ _ _ _ _ _ _ _ _ _ _ _ _ _ _ _ _ _ _ _ _ _ _ _ _ _ _ _ _ _ _ _ _ _ _ _ _ _ _ _ _ _ _ _ _ _ _ _ _ _ _ _ _ _ _ _ _ _ _ _ _ _ _ _ _ _ _ _ _ _ _ _ _ _ _ _ _ _ _ _ _ _ _ _ _ _ _ _ _ _ _ _ _ _ _ _ HCt.out HLm.out HBq.out
end Go.Proofs.YthneomomhoilkaaDoor.PA
end
