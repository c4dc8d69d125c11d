/- Several texts of this claim in one, each in a section of its own; what nothing reaches is left out. Conditions: each law's own. -/
import Derived.Test.YthneomomhoilkaaDoorMW
import Derived.Laws.BitsLemmas
import Derived.Test.YthneomomhoilkaaDoorML
import Derived.Test.YthneomomhoilkaaDoorMB
import Derived.Maps.AppendAt
import Derived.Test.YthneomomhoilkaaDoorMD
import Derived.Laws.CopyOwn
import Derived.Deep.Slices
set_option linter.unusedVariables false
set_option linter.unusedSimpArgs false
set_option linter.unusedSectionVars false
section
namespace Go.Proofs.YthneomomhoilkaaDoor.Dw
def le32 (n : Nat) : List Int := [((n % 256 : Nat) : Int), ((n / 256 % 256 : Nat) : Int), ((n / 65536 % 256 : Nat) : Int), ((n / 16777216 % 256 : Nat) : Int)]
def fnv (h : Nat) (x : Int) : Nat := (h ^^^ x.toNat) * 16777619 % 4294967296
def sumN (l : List Int) : Nat := l.foldl fnv 2166136261
def Byt (l : List Int) : Prop := ∀ x ∈ l, 0 ≤ x ∧ x < 256
def headS (num sum : Nat) (kind : Int) (body : List Int) : List Int := 82 :: (le32 num ++ (le32 sum ++ (le32 body.length ++ (kind :: body))))
def pieceS (num sum : Nat) (kind : Int) (body : List Int) : List Int := headS num sum kind body ++ le32 (sumN (headS num sum kind body))
def get32 (l : List Int) (i : Nat) : Nat := (l.getD i 0).toNat + 256 * (l.getD (i + 1) 0).toNat + 65536 * (l.getD (i + 2) 0).toNat + 16777216 * (l.getD (i + 3) 0).toNat
structure Rec where
  kind : Int
  body : List Int
def wholeS (data : List Int) (num : Nat) : Option (Nat × Rec × Nat) :=
  if data.length < 18 ∨ data.getD 0 0 ≠ 82 ∨ get32 data 1 ≠ num then none
  else if get32 data 9 > 1048576 ∨ get32 data 9 > data.length - 18 ∨ (num = 0 ∧ data.getD 13 0 ≠ 0) then none
  else if get32 data (14 + get32 data 9) ≠ sumN (data.take (14 + get32 data 9)) then none
  else some (get32 data 5, ⟨data.getD 13 0, (data.drop 14).take (get32 data 9)⟩, 18 + get32 data 9)
theorem le32_len (n : Nat) : (le32 n).length = 4 := rfl
theorem le32_byt (n : Nat) : Byt (le32 n) := by
  intro x hx
  simp only [le32, List.mem_cons, List.not_mem_nil, or_false] at hx
  rcases hx with rfl | rfl | rfl | rfl <;> omega
theorem fnv_lt (h : Nat) (x : Int) : fnv h x < 4294967296 := Nat.mod_lt _ (by omega)
theorem foldl_lt (l : List Int) (h : Nat) (hh : h < 4294967296) : l.foldl fnv h < 4294967296 := by
  induction l generalizing h with
  | nil => exact hh
  | cons x r ih => exact ih _ (fnv_lt _ _)
theorem sumN_lt (l : List Int) : sumN l < 4294967296 := foldl_lt l _ (by omega)
theorem headS_len (num sum : Nat) (kind : Int) (body : List Int) : (headS num sum kind body).length = 14 + body.length := by
  simp [headS, le32_len]; omega
theorem pieceS_len (num sum : Nat) (kind : Int) (body : List Int) : (pieceS num sum kind body).length = 18 + body.length := by
  simp [pieceS, headS_len, le32_len]; omega
theorem byt_append {a b : List Int} : Byt (a ++ b) ↔ Byt a ∧ Byt b := by
  unfold Byt
  constructor
  · intro h; exact ⟨fun x hx => h x (List.mem_append_left _ hx), fun x hx => h x (List.mem_append_right _ hx)⟩
  · rintro ⟨h1, h2⟩ x hx
    rcases List.mem_append.1 hx with h | h
    · exact h1 x h
    · exact h2 x h
theorem byt_cons {x : Int} {l : List Int} : Byt (x :: l) ↔ (0 ≤ x ∧ x < 256) ∧ Byt l := by
  unfold Byt; simp
theorem Byt.take {l : List Int} (h : Byt l) (n : Nat) : Byt (l.take n) := fun x hx => h x (List.mem_of_mem_take hx)
theorem Byt.drop {l : List Int} (h : Byt l) (n : Nat) : Byt (l.drop n) := fun x hx => h x (List.mem_of_mem_drop hx)
theorem headS_byt {num sum : Nat} {kind : Int} {body : List Int} (hk : 0 ≤ kind ∧ kind < 256) (hb : Byt body) : Byt (headS num sum kind body) := by
  unfold headS
  simp only [byt_cons, byt_append]
  exact ⟨⟨by omega, by omega⟩, le32_byt _, le32_byt _, le32_byt _, hk, hb⟩
theorem pieceS_byt {num sum : Nat} {kind : Int} {body : List Int} (hk : 0 ≤ kind ∧ kind < 256) (hb : Byt body) : Byt (pieceS num sum kind body) := by
  unfold pieceS
  rw [byt_append]
  exact ⟨headS_byt hk hb, le32_byt _⟩
theorem get32_le32 (n : Nat) (hn : n < 4294967296) (l : List Int) (i : Nat) (r : List Int) (h : l.drop i = le32 n ++ r) : get32 l i = n := by
  have g : ∀ j, l.getD (i + j) 0 = (l.drop i).getD j 0 := fun j => by simp [List.getD_eq_getElem?_getD]
  unfold get32
  have g0 := g 0
  rw [Nat.add_zero] at g0
  rw [g0, g 1, g 2, g 3, h]
  simp [le32]
  omega
theorem drop_get32 {l : List Int} (hb : Byt l) (i : Nat) (hi : i + 4 ≤ l.length) : l.drop i = le32 (get32 l i) ++ l.drop (i + 4) := by
  have e1 : l.drop i = l[i] :: l[i+1] :: l[i+2] :: l[i+3] :: l.drop (i + 4) := by
    rw [List.drop_eq_getElem_cons (by omega), List.drop_eq_getElem_cons (by omega), List.drop_eq_getElem_cons (by omega), List.drop_eq_getElem_cons (by omega)]
  rw [e1]
  have b0 := hb l[i] (List.getElem_mem _)
  have b1 := hb l[i+1] (List.getElem_mem _)
  have b2 := hb l[i+2] (List.getElem_mem _)
  have b3 := hb l[i+3] (List.getElem_mem _)
  have g : ∀ j (hj : j < l.length), l.getD j 0 = l[j] := fun j hj => by simp [List.getD_eq_getElem?_getD, hj]
  unfold get32
  rw [g i (by omega), g (i+1) (by omega), g (i+2) (by omega), g (i+3) (by omega)]
  simp only [le32, List.cons_append, List.nil_append, List.cons.injEq, and_true]
  generalize l[i] = a at *
  generalize l[i+1] = b at *
  generalize l[i+2] = c at *
  generalize l[i+3] = d at *
  refine ⟨?_, ?_, ?_, ?_⟩ <;> omega
theorem get32_lt {l : List Int} (hb : Byt l) (i : Nat) : get32 l i < 4294967296 := by
  have g : ∀ j, (l.getD j 0).toNat < 256 := fun j => by
    rw [List.getD_eq_getElem?_getD]
    rcases h : l[j]? with _ | x
    · simp
    · have := hb x (List.mem_of_getElem? h)
      simp; omega
  have := g i; have := g (i+1); have := g (i+2); have := g (i+3)
  unfold get32
  omega
theorem whole_piece {num sum : Nat} {kind : Int} {body rest : List Int} (hn : num < 4294967296) (hs : sum < 4294967296) (hl : body.length ≤ 1048576) (hk : num = 0 → kind = 0) :
    wholeS (pieceS num sum kind body ++ rest) num = some (sum, ⟨kind, body⟩, 18 + body.length) := by
  have hlen : (pieceS num sum kind body ++ rest).length = 18 + body.length + rest.length := by rw [List.length_append, pieceS_len]
  obtain ⟨data, hd⟩ : ∃ data, data = pieceS num sum kind body ++ rest := ⟨_, rfl⟩
  rw [← hd] at hlen ⊢
  have e : data = 82 :: (le32 num ++ (le32 sum ++ (le32 body.length ++ (kind :: (body ++ (le32 (sumN (headS num sum kind body)) ++ rest)))))) := by
    rw [hd]; simp [pieceS, headS]
  have d0 : data.getD 0 0 = 82 := by rw [e]; rfl
  have d1 : get32 data 1 = num := get32_le32 num hn data 1 _ (by rw [e]; rfl)
  have d5 : get32 data 5 = sum := get32_le32 sum hs data 5 _ (by rw [e]; rfl)
  have d9 : get32 data 9 = body.length := get32_le32 body.length (by omega) data 9 _ (by rw [e]; rfl)
  have d13 : data.getD 13 0 = kind := by rw [e]; rfl
  have dd : data.drop 14 = body ++ (le32 (sumN (headS num sum kind body)) ++ rest) := by rw [e]; rfl
  have dt : data.take (14 + body.length) = headS num sum kind body := by
    rw [hd, pieceS, List.append_assoc, List.take_left' (headS_len _ _ _ _)]
  have ds : get32 data (14 + body.length) = sumN (headS num sum kind body) := get32_le32 _ (sumN_lt _) data _ rest (by
    rw [hd, pieceS, List.append_assoc, List.drop_left' (headS_len _ _ _ _)])
  unfold wholeS
  rw [d9, d0, d1, d5, d13, dd, dt, ds, if_neg (by omega), if_neg (by omega), if_neg (by omega), List.take_left' rfl]
theorem whole_inv {data : List Int} {num : Nat} {s : Nat} {r : Rec} {sz : Nat} (hb : Byt data) (h : wholeS data num = some (s, r, sz)) :
    (∃ rest, data = pieceS num s r.kind r.body ++ rest) ∧ r.body.length ≤ 1048576 ∧ (num = 0 → r.kind = 0) ∧ s < 4294967296 ∧ sz = 18 + r.body.length ∧ (0 ≤ r.kind ∧ r.kind < 256) ∧ Byt r.body := by
  unfold wholeS at h
  split at h
  · cases h
  rename_i h1
  split at h
  · cases h
  rename_i h2
  split at h
  · cases h
  rename_i h3
  injection h with h
  injection h with e1 h
  injection h with e2 e3
  obtain ⟨n, hn⟩ : ∃ n, n = get32 data 9 := ⟨_, rfl⟩
  rw [← hn] at h2 h3 e2 e3
  have hl : 18 + n ≤ data.length := by omega
  have hbl : ((data.drop 14).take n).length = n := by rw [List.length_take, List.length_drop]; omega
  subst e1 e2 e3
  have k13 : data.drop 13 = data.getD 13 0 :: data.drop 14 := by
    rw [List.drop_eq_getElem_cons (by omega)]
    simp [List.getD_eq_getElem?_getD, show 13 < data.length by omega]
  have k0 : data = data.getD 0 0 :: data.drop 1 := by
    have := List.drop_eq_getElem_cons (l := data) (i := 0) (by omega)
    rw [List.drop_zero] at this
    rw [List.getD_eq_getElem?_getD, List.getElem?_eq_getElem (show 0 < data.length by omega)]
    exact this
  have hd : data = headS num (get32 data 5) (data.getD 13 0) ((data.drop 14).take n) ++ data.drop (14 + n) := by
    unfold headS
    rw [hbl]
    have c1 := drop_get32 hb 1 (by omega)
    have c5 := drop_get32 hb 5 (by omega)
    have c9 := drop_get32 hb 9 (by omega)
    have d0 : data.getD 0 0 = 82 := by omega
    have d1 : get32 data 1 = num := by omega
    have ct : data.drop 14 = (data.drop 14).take n ++ data.drop (14 + n) := by
      rw [← List.drop_drop]; exact (List.take_append_drop n _).symm
    rw [d0, c1, d1, c5, c9, k13, ← hn] at k0
    simp only [List.cons_append, List.append_assoc]
    rw [← ct]
    exact k0
  have ht : data.take (14 + n) = headS num (get32 data 5) (data.getD 13 0) ((data.drop 14).take n) := by
    have e := congrArg (List.take (14 + n)) hd
    rw [List.take_left' (by rw [headS_len, hbl])] at e
    exact e
  have hs : get32 data (14 + n) = sumN (headS num (get32 data 5) (data.getD 13 0) ((data.drop 14).take n)) := by
    rw [← ht]; omega
  refine ⟨⟨data.drop (18 + n), ?_⟩, ?_, ?_, get32_lt hb 5, ?_, ?_, ?_⟩
  · show data = pieceS num (get32 data 5) (data.getD 13 0) ((data.drop 14).take n) ++ _
    unfold pieceS
    rw [← hs, List.append_assoc]
    have c := drop_get32 hb (14 + n) (by omega)
    rw [show 14 + n + 4 = 18 + n by omega] at c
    rw [← c]
    exact hd
  · show ((data.drop 14).take n).length ≤ _; omega
  · show num = 0 → data.getD 13 0 = 0
    intro h0; omega
  · show 18 + n = 18 + ((data.drop 14).take n).length; omega
  · show 0 ≤ data.getD 13 0 ∧ data.getD 13 0 < 256
    have : data.getD 13 0 ∈ data := by
      rw [List.getD_eq_getElem?_getD, List.getElem?_eq_getElem (show 13 < data.length by omega)]
      exact List.getElem_mem _
    exact hb _ this
  · exact (hb.drop 14).take n
theorem mul_inj {a b : Nat} (ha : a < 4294967296) (hb : b < 4294967296) (h : a * 16777619 % 4294967296 = b * 16777619 % 4294967296) : a = b := by
  have e : ∀ c, c < 4294967296 → c * 16777619 % 4294967296 * 899433627 % 4294967296 = c := by
    intro c hc
    rw [Nat.mod_mul_mod, Nat.mul_assoc, show 16777619 * 899433627 = 1 + 4294967296 * 3513497 from rfl, Nat.mul_add, Nat.mul_one, Nat.mul_left_comm, Nat.add_mul_mod_self_left]
    exact Nat.mod_eq_of_lt hc
  rw [← e a ha, h, e b hb]
theorem xor_lt {a b : Nat} (ha : a < 4294967296) (hb : b < 256) : a ^^^ b < 4294967296 := Nat.xor_lt_two_pow (n := 32) ha (by omega)
theorem fnv_inj {h h' : Nat} {x : Int} (ha : h < 4294967296) (hb : h' < 4294967296) (hx : 0 ≤ x ∧ x < 256) (e : fnv h x = fnv h' x) : h = h' := by
  have e1 := mul_inj (xor_lt ha (by omega)) (xor_lt hb (by omega)) e
  have := congrArg (· ^^^ x.toNat) e1
  simpa [Nat.xor_assoc] using this
theorem fnv_inj2 {h : Nat} {x y : Int} (ha : h < 4294967296) (hx : 0 ≤ x ∧ x < 256) (hy : 0 ≤ y ∧ y < 256) (e : fnv h x = fnv h y) : x = y := by
  have e1 := mul_inj (xor_lt ha (by omega)) (xor_lt ha (by omega)) e
  have := congrArg (h ^^^ ·) e1
  simp only [← Nat.xor_assoc, Nat.xor_self, Nat.zero_xor] at this
  omega
theorem foldl_inj {l : List Int} (hb : Byt l) : ∀ {h h' : Nat}, h < 4294967296 → h' < 4294967296 → l.foldl fnv h = l.foldl fnv h' → h = h' := by
  induction l with
  | nil => intro h h' _ _ e; exact e
  | cons x r ih =>
    intro h h' h1 h2 e
    obtain ⟨hx, hr⟩ := byt_cons.1 hb
    exact fnv_inj h1 h2 hx (ih hr (fnv_lt _ _) (fnv_lt _ _) e)
theorem sum_turn {l : List Int} (hb : Byt l) {i : Nat} {y : Int} (hi : i < l.length) (hy : 0 ≤ y ∧ y < 256) (hne : l.getD i 0 ≠ y) : sumN (l.set i y) ≠ sumN l := by
  intro e
  have e0 : l = l.take i ++ l.getD i 0 :: l.drop (i + 1) := by
    rw [List.getD_eq_getElem?_getD, List.getElem?_eq_getElem hi]
    simp
  have e1 : l.set i y = l.take i ++ y :: l.drop (i + 1) := by
    rw [List.set_eq_take_append_cons_drop, if_pos hi]
  unfold sumN at e
  rw [e1] at e
  rw [e0] at e
  have ht : (l.take i ++ l.getD i 0 :: l.drop (i+1)).take i = l.take i := by rw [← e0]
  have hd : (l.take i ++ l.getD i 0 :: l.drop (i+1)).drop (i+1) = l.drop (i+1) := by rw [← e0]
  rw [ht, hd] at e
  simp only [List.foldl_append, List.foldl_cons] at e
  have h1 := foldl_lt (l.take i) 2166136261 (by omega)
  have e2 := foldl_inj (hb.drop (i+1)) (fnv_lt _ _) (fnv_lt _ _) e
  have hgi : 0 ≤ l.getD i 0 ∧ l.getD i 0 < 256 := by
    rw [List.getD_eq_getElem?_getD, List.getElem?_eq_getElem hi]
    exact hb _ (List.getElem_mem hi)
  exact hne (fnv_inj2 h1 hy hgi e2).symm
theorem whole_cut {num sum : Nat} {kind : Int} {body rest : List Int} (hk' : 0 ≤ kind ∧ kind < 256) (hb : Byt body) (hr : Byt rest) (hn : num < 4294967296) (hs : sum < 4294967296) (hl : body.length ≤ 1048576) (hk : num = 0 → kind = 0) {k : Nat} (h : k < 18 + body.length) :
    wholeS ((pieceS num sum kind body ++ rest).take k) num = none := by
  have hB : Byt (pieceS num sum kind body ++ rest) := byt_append.2 ⟨pieceS_byt hk' hb, hr⟩
  rcases e : wholeS ((pieceS num sum kind body ++ rest).take k) num with _ | ⟨s, r, sz⟩
  · rfl
  · obtain ⟨⟨rest', h1⟩, h2, h3, h4, h5, h6, h7⟩ := whole_inv (hB.take k) e
    have e1 : pieceS num sum kind body ++ rest = pieceS num s r.kind r.body ++ (rest' ++ (pieceS num sum kind body ++ rest).drop k) := by
      rw [← List.append_assoc, ← h1, List.take_append_drop]
    have w1 := whole_piece (rest := rest) hn hs hl hk
    have w2 := whole_piece (rest := rest' ++ (pieceS num sum kind body ++ rest).drop k) hn h4 h2 h3
    rw [e1, w2] at w1
    injection w1 with w1
    injection w1 with a1 w1
    injection w1 with a2 a3
    have hlen := congrArg List.length h1
    simp only [List.length_take, List.length_append, pieceS_len] at hlen
    omega
theorem getD_set {l : List Int} {i j : Nat} {y : Int} (hi : i < l.length) : (l.set i y).getD j 0 = if i = j then y else l.getD j 0 := by
  rw [List.getD_eq_getElem?_getD, List.getD_eq_getElem?_getD, List.getElem?_set]
  split
  · simp [hi]
  · rfl
theorem byt_set {l : List Int} (hb : Byt l) (i : Nat) {y : Int} (hy : 0 ≤ y ∧ y < 256) : Byt (l.set i y) := fun x hx => by
  rcases List.mem_or_eq_of_mem_set hx with h | rfl
  · exact hb x h
  · exact hy
theorem getD_byt {l : List Int} (hb : Byt l) (i : Nat) : 0 ≤ l.getD i 0 ∧ l.getD i 0 < 256 := by
  rw [List.getD_eq_getElem?_getD]
  rcases h : l[i]? with _ | x
  · simp
  · exact hb x (List.mem_of_getElem? h)
theorem get32_set_out {l : List Int} {o i : Nat} {y : Int} (hi : o < l.length) (h : o < i ∨ i + 4 ≤ o) : get32 (l.set o y) i = get32 l i := by
  unfold get32
  rw [getD_set hi, getD_set hi, getD_set hi, getD_set hi, if_neg (by omega), if_neg (by omega), if_neg (by omega), if_neg (by omega)]
theorem get32_set_in {l : List Int} (hb : Byt l) {o i : Nat} {y : Int} (hi : o < l.length) (hy : 0 ≤ y ∧ y < 256) (hne : l.getD o 0 ≠ y) (h : i ≤ o ∧ o < i + 4) : get32 (l.set o y) i ≠ get32 l i := by
  have b0 := getD_byt hb i
  have b1 := getD_byt hb (i+1)
  have b2 := getD_byt hb (i+2)
  have b3 := getD_byt hb (i+3)
  unfold get32
  rw [getD_set hi, getD_set hi, getD_set hi, getD_set hi]
  have hc : o = i ∨ o = i + 1 ∨ o = i + 2 ∨ o = i + 3 := by omega
  rcases hc with rfl | rfl | rfl | rfl
  · rw [if_pos rfl, if_neg (by omega), if_neg (by omega), if_neg (by omega)]; omega
  · rw [if_neg (by omega), if_pos rfl, if_neg (by omega), if_neg (by omega)]; omega
  · rw [if_neg (by omega), if_neg (by omega), if_pos rfl, if_neg (by omega)]; omega
  · rw [if_neg (by omega), if_neg (by omega), if_neg (by omega), if_pos rfl]; omega
theorem whole_turn {num sum : Nat} {kind : Int} {body rest : List Int} (hk' : 0 ≤ kind ∧ kind < 256) (hb : Byt body) (hr : Byt rest) (hn : num < 4294967296) (hs : sum < 4294967296) (hl : body.length ≤ 1048576) (hk : num = 0 → kind = 0) {o : Nat} {y : Int} (ho : o < 18 + body.length) (hx : ¬ (9 ≤ o ∧ o < 13)) (hy : 0 ≤ y ∧ y < 256)
    (hne : (pieceS num sum kind body ++ rest).getD o 0 ≠ y) : wholeS ((pieceS num sum kind body ++ rest).set o y) num = none := by
  have hlen : (pieceS num sum kind body ++ rest).length = 18 + body.length + rest.length := by rw [List.length_append, pieceS_len]
  have hB : Byt (pieceS num sum kind body ++ rest) := byt_append.2 ⟨pieceS_byt hk' hb, hr⟩
  have hw := whole_piece (rest := rest) hn hs hl hk
  obtain ⟨l, hd⟩ : ∃ l, l = pieceS num sum kind body ++ rest := ⟨_, rfl⟩
  rw [← hd] at hlen hB hne hw ⊢
  have hol : o < l.length := by omega
  unfold wholeS at hw
  split at hw
  · cases hw
  rename_i h1
  split at hw
  · cases hw
  rename_i h2
  split at hw
  · cases hw
  rename_i h3
  injection hw with hw
  injection hw with a1 hw
  injection hw with a2 a3
  have hn9 : get32 l 9 = body.length := by omega
  have e9 : get32 (l.set o y) 9 = get32 l 9 := get32_set_out hol (by omega)
  unfold wholeS
  rw [e9, hn9, List.length_set]
  rw [hn9] at h2 h3
  by_cases c0 : o < 5
  · rw [if_pos]
    by_cases c1 : o = 0
    · subst c1
      refine .inr (.inl ?_)
      rw [getD_set hol, if_pos rfl]
      intro e; apply hne; rw [e]; omega
    · refine .inr (.inr ?_)
      have := get32_set_in hB hol hy hne (i := 1) (by omega)
      omega
  · rw [if_neg (by
      rw [getD_set hol, if_neg (by omega), get32_set_out hol (by omega)]
      exact h1)]
    split
    · rfl
    · rename_i h2'
      rw [if_pos]
      have hsum : get32 l (14 + body.length) = sumN (l.take (14 + body.length)) := by omega
      by_cases c2 : o < 14 + body.length
      · rw [get32_set_out hol (by omega), hsum, List.take_set]
        have hgt : (l.take (14 + body.length)).getD o 0 = l.getD o 0 := by
          rw [List.getD_eq_getElem?_getD, List.getElem?_take, if_pos c2, ← List.getD_eq_getElem?_getD]
        exact (sum_turn (hB.take _) (by rw [List.length_take]; omega) hy (by rw [hgt]; exact hne)).symm
      · have e := get32_set_in hB hol hy hne (i := 14 + body.length) (by omega)
        rw [List.take_set_of_le (by omega), ← hsum]
        exact e
def scanS (sum : Nat) : Nat → List Int → Nat → List Rec
  | 0, _, _ => []
  | k + 1, data, n => match wholeS data n with
    | some (s, r, sz) => if s = sum then r :: scanS sum k (data.drop sz) (n + 1) else []
    | none => []
def recsB (sum : Nat) : Nat → List Rec → List Int
  | _, [] => []
  | n, r :: rs => pieceS n sum r.kind r.body ++ recsB sum (n + 1) rs
structure Rec.Ok (r : Rec) : Prop where
  k0 : 0 ≤ r.kind
  k1 : r.kind < 256
  byt : Byt r.body
  len : r.body.length ≤ 1048576
theorem recsB_append (sum : Nat) : ∀ (n : Nat) (a b : List Rec), recsB sum n (a ++ b) = recsB sum n a ++ recsB sum (n + a.length) b
  | _, [], _ => by simp [recsB]
  | n, r :: a, b => by
    rw [List.cons_append, recsB, recsB, recsB_append sum (n + 1) a b, List.append_assoc, List.length_cons]
    congr 3; omega
theorem recsB_len (sum : Nat) : ∀ (n : Nat) (a : List Rec), (recsB sum n a).length = (a.map fun r => 18 + r.body.length).sum
  | _, [] => rfl
  | n, r :: a => by rw [recsB, List.length_append, pieceS_len, recsB_len sum (n + 1) a, List.map_cons, List.sum_cons]
theorem recsB_byt (sum : Nat) : ∀ (n : Nat) (a : List Rec), (∀ r ∈ a, r.Ok) → Byt (recsB sum n a)
  | _, [], _ => fun x hx => by cases hx
  | n, r :: a, h => by
    rw [recsB, byt_append]
    have hr := h r (by simp)
    exact ⟨pieceS_byt ⟨hr.k0, hr.k1⟩ hr.byt, recsB_byt sum (n + 1) a (fun q hq => h q (List.mem_cons_of_mem _ hq))⟩
theorem scan_recs {sum : Nat} (hs : sum < 4294967296) : ∀ (rs : List Rec) (k n : Nat) (rest : List Int), (∀ r ∈ rs, r.Ok) → 1 ≤ n → n + rs.length < 4294967296 → rs.length < k → (∀ s r sz, wholeS rest (n + rs.length) = some (s, r, sz) → s ≠ sum) →
    scanS sum k (recsB sum n rs ++ rest) n = rs
  | [], k + 1, n, rest, _, _, _, _, h => by
    rw [recsB, List.nil_append, scanS]
    rcases e : wholeS rest n with _ | ⟨s, r, sz⟩
    · rfl
    · have := h s r sz (by simpa using e)
      simp [this]
  | r :: rs, k + 1, n, rest, hok, hn, hl, hk, h => by
    have hr := hok r (by simp)
    rw [recsB, List.append_assoc, scanS, whole_piece (by omega) hs hr.len (by omega)]
    simp only [if_true]
    rw [List.drop_left' (pieceS_len _ _ _ _)]
    rw [scan_recs hs rs k (n + 1) rest (fun q hq => hok q (List.mem_cons_of_mem _ hq)) (by omega) (by simp at hl; omega) (by simp at hk; omega) (fun s r' sz e => h s r' sz (by rw [List.length_cons, show n + (rs.length + 1) = n + 1 + rs.length by omega]; exact e))]
  | rs, 0, _, _, _, _, _, hk, _ => by omega
theorem scan_inv {sum : Nat} : ∀ (k : Nat) (data : List Int) (n : Nat), Byt data → ∃ rest, data = recsB sum n (scanS sum k data n) ++ rest ∧ (∀ r ∈ scanS sum k data n, r.Ok) ∧ (data.length < k → ∀ s r sz, wholeS rest (n + (scanS sum k data n).length) = some (s, r, sz) → s ≠ sum)
  | 0, data, n, _ => ⟨data, by simp [scanS, recsB], fun r hr => by simp [scanS] at hr, fun h => by omega⟩
  | k + 1, data, n, hb => by
    rcases e : wholeS data n with _ | ⟨s, r, sz⟩
    · refine ⟨data, by simp [scanS, e, recsB], fun r hr => by simp [scanS, e] at hr, fun _ s r sz h => ?_⟩
      simp [scanS, e] at h
    · by_cases h1 : s = sum
      · subst h1
        obtain ⟨⟨rest, h1⟩, h2, h3, h4, h5, h6, h7⟩ := whole_inv hb e
        have hd : data.drop sz = rest := by rw [h1, h5, List.drop_left' (pieceS_len _ _ _ _)]
        have hrb : Byt rest := by rw [h1, byt_append] at hb; exact hb.2
        obtain ⟨rest2, g1, g2, g3⟩ := scan_inv (sum := s) k rest (n + 1) hrb
        refine ⟨rest2, ?_, ?_, ?_⟩
        · simp only [scanS, e, if_true, hd, recsB]
          rw [List.append_assoc, ← g1, ← h1]
        · simp only [scanS, e, if_true, hd]
          intro q hq
          rcases List.mem_cons.1 hq with rfl | hq
          · exact ⟨h6.1, h6.2, h7, h2⟩
          · exact g2 q hq
        · simp only [scanS, e, if_true, hd]
          intro hk s' r' sz' hw
          rw [List.length_cons, show n + ((scanS s k rest (n+1)).length + 1) = n + 1 + (scanS s k rest (n+1)).length by omega] at hw
          refine g3 ?_ s' r' sz' hw
          have := congrArg List.length h1
          rw [List.length_append, pieceS_len] at this
          omega
      · refine ⟨data, by simp [scanS, e, h1, recsB], fun r hr => by simp [scanS, e, h1] at hr, fun _ s' r' sz' h => ?_⟩
        simp only [scanS, e, if_neg h1, List.length_nil, Nat.add_zero] at h
        injection h with h
        injection h with h
        omega
end Go.Proofs.YthneomomhoilkaaDoor.Dw
end
section
namespace Go.Proofs.YthneomomhoilkaaDoor.Dw
open Go.RowKit Go.Proofs.YthneomomhoilkaaDoorW.PrintWords Go.Proofs.YthneomomhoilkaaDoorW.PrintLast Go.Proofs.YthneomomhoilkaaDoorW.PrintMore Go.Proofs.YthneomomhoilkaaDoor.PA
theorem u32w (n : Int) (h0 : 0 ≤ n) (h1 : n < 2 ^ 32) : IntKind.u32.wrap n = n := by rw [IntKind.wrap_u32]; omega
theorem xor_u32 (a b : Nat) (ha : a < 4294967296) (hb : b < 4294967296) : bits .xor .u32 (a : Int) (b : Int) = ((a ^^^ b : Nat) : Int) := by
  have hx : a ^^^ b < 2 ^ 32 := Nat.xor_lt_two_pow ha hb
  have ha' : a % 2 ^ IntKind.u32.bits = a := Nat.mod_eq_of_lt ha
  have hb' : b % 2 ^ IntKind.u32.bits = b := Nat.mod_eq_of_lt hb
  simp only [bits, BitVec.ofInt_natCast, BitVec.toNat_xor, BitVec.toNat_ofNat, ha', hb']
  exact u32w _ (Int.natCast_nonneg _) (by exact_mod_cast hx)
theorem or_u32 (i a b : Nat) (hb : b < 2 ^ i) (h : a * 2 ^ i + b < 4294967296) (hb2 : b < 4294967296) (ha2 : a * 2 ^ i < 4294967296) : bits .or .u32 (b : Int) ((a * 2 ^ i : Nat) : Int) = ((a * 2 ^ i + b : Nat) : Int) := by
  rw [(bits_nat .u32 32 (by decide) u32w b _ hb2 ha2).2, Nat.or_comm, Nat.mul_comm a, ← Nat.two_pow_add_eq_or_of_lt hb a]
theorem rd_nat {l : List Int} (hb : Byt l) (j : Nat) : rd l (j : Int) = (((l.getD j 0).toNat : Nat) : Int) ∧ (l.getD j 0).toNat < 256 := by
  have := getD_byt hb j
  unfold rd
  rw [Int.toNat_natCast]
  omega
theorem get32_f {l : List Int} (hb : Byt l) (hl : 4 ≤ l.length) : drawer_get32.f l = some (get32 l 0 : Int) := by
  have c0 : (0 : Int) < (l.length : Int) := by omega
  have c1 : (1 : Int) < (l.length : Int) := by omega
  have c2 : (2 : Int) < (l.length : Int) := by omega
  have c3 : (3 : Int) < (l.length : Int) := by omega
  obtain ⟨r0, b0⟩ := rd_nat hb 0
  obtain ⟨r1, b1⟩ := rd_nat hb 1
  obtain ⟨r2, b2⟩ := rd_nat hb 2
  obtain ⟨r3, b3⟩ := rd_nat hb 3
  have r0 : rd l 0 = _ := r0
  have r1 : rd l 1 = _ := r1
  have r2 : rd l 2 = _ := r2
  have r3 : rd l 3 = _ := r3
  unfold drawer_get32.f get32
  rw [if_pos c0, if_pos c1, if_pos c2, if_pos c3, r0, r1, r2, r3]
  generalize (l.getD 0 0).toNat = x0 at *
  generalize (l.getD (0 + 1) 0).toNat = x1 at *
  generalize (l.getD (0 + 2) 0).toNat = x2 at *
  generalize (l.getD (0 + 3) 0).toNat = x3 at *
  have e0 : (x0 : Int) % 4294967296 = (x0 : Int) := by omega
  have e1 : (((x1 : Int) % 4294967296) * 256) % 4294967296 = ((x1 * 2 ^ 8 : Nat) : Int) := by omega
  have e2 : (((x2 : Int) % 4294967296) * 65536) % 4294967296 = ((x2 * 2 ^ 16 : Nat) : Int) := by omega
  have e3 : (((x3 : Int) % 4294967296) * 16777216) % 4294967296 = ((x3 * 2 ^ 24 : Nat) : Int) := by omega
  rw [e0, e1, e2, e3, or_u32 8 x1 x0 (by omega) (by omega) (by omega) (by omega), or_u32 16 x2 _ (by omega) (by omega) (by omega) (by omega), or_u32 24 x3 _ (by omega) (by omega) (by omega) (by omega)]
  congr 1
  omega
theorem sum_go (l : List Int) (hb : Byt l) (hl : l.length ≤ 9223372036854775807) : ∀ (n j h : Nat), j + n = l.length → h < 4294967296 → pack_Sum.l0 (n + 1) (h : Int) l (l.length : Int) (j : Int) = some (((l.drop j).foldl fnv h : Nat) : Int)
  | 0, j, h, hj, hh => by
    have e : ¬ (j : Int) < (l.length : Int) := by omega
    rw [pack_Sum.l0, if_neg e, List.drop_of_length_le (by omega)]
    rfl
  | n + 1, j, h, hj, hh => by
    have hjl : j < l.length := by omega
    have e1 : (j : Int) < (l.length : Int) := by omega
    have e2 : (0 : Int) ≤ (j : Int) := by omega
    obtain ⟨r0, b0⟩ := rd_nat hb j
    have hg : l.getD j 0 = l[j] := by rw [List.getD_eq_getElem?_getD, List.getElem?_eq_getElem hjl]; rfl
    have ew : wrap64 ((j : Int) + 1) = ((j + 1 : Nat) : Int) := by unfold wrap64; omega
    rw [pack_Sum.l0, if_pos e1, if_pos e2, if_pos e1, r0, ew, List.drop_eq_getElem_cons hjl, List.foldl_cons]
    have ex : ((((l.getD j 0).toNat : Nat) : Int)) % 4294967296 = (((l.getD j 0).toNat : Nat) : Int) := by omega
    rw [ex, xor_u32 h _ hh (by omega)]
    have ef : (((h ^^^ (l.getD j 0).toNat : Nat) : Int) * 16777619) % 4294967296 = ((fnv h l[j] : Nat) : Int) := by
      unfold fnv
      rw [hg]
      omega
    rw [ef]
    exact sum_go l hb hl n (j + 1) (fnv h l[j]) (by omega) (fnv_lt _ _)
theorem sum_f {l : List Int} (hb : Byt l) (hl : l.length ≤ 9223372036854775807) : pack_Sum.f (l.length + 1) l = some ((sumN l : Nat) : Int) := by
  have := sum_go l hb hl l.length 0 2166136261 (by omega) (by omega)
  exact this
end Go.Proofs.YthneomomhoilkaaDoor.Dw
end
section
namespace Go.Proofs.YthneomomhoilkaaDoor.PA
open Go.RowKit Go.Maps Go.Proofs.YthneomomhoilkaaDoorW.PrintWords Go.Proofs.YthneomomhoilkaaDoorW.PrintLast Go.Proofs.YthneomomhoilkaaDoorW.PrintMore Go.Proofs.YthneomomhoilkaaDoor.Dw
theorem own_form2 {W : World} {base n size : Nat} {e : TypeId} {v : Value} {xs : List Value} (h : W.ownsRow base e size v n xs) (hn : 0 < n) : ∃ g cap, v = .slice (some ⟨g, 0, none⟩) n cap := by
  rcases h.2 with ⟨_, h0⟩ | ⟨g, cap, cur, e1, _⟩
  · omega
  · exact ⟨g, cap, e1⟩
section
variable {P : Program} {ops : Array Oper} {rest : List Oper} {o : Oper} {a : Act} {Q : Exit → Act → World → Prop}
theorem append_lit {w0 W : World} (base : Nat) (hgd : o.guard = none) (s x : Operand) (t e : TypeId) (zs : List Int)
    (ho : o.op = .call { callee := .builtin .append, args := #[s, x], argTypes := #[t, t] })
    (ht : P.underlying t = some (.slice e)) (hinfo : (P.info? e).map (fun i => (i.zero, i.size, i.bytes)) = some (some (.int .u8 0), 1, 1))
    (v : Value) (n : Nat) (xs : List Int) (hn : xs.length = n) (hs : a.eval s = v) (hx : a.eval x = .slice (some ⟨W.heap.size, 0, none⟩) zs.length zs.length)
    (HO : W.ownsRow base e 1 v n (nums .u8 xs)) (HB : Below base w0 W) (hbase : base ≤ W.heap.size) (hl : n + zs.length ≤ 140737488355328)
    (h : ∀ v1 w1, w1.ownsRow base e 1 v1 (n + zs.length) (nums .u8 (xs ++ zs)) → Below base w0 w1 → wpList P ops Q rest (a.put o.dst v1) w1) :
    wpList P ops Q (o :: rest) a (W.alloc (.cells (nums .u8 zs).toArray e)) := by
  obtain ⟨i0, hi, hzz⟩ := Option.map_eq_some_iff.1 hinfo
  simp only [Prod.mk.injEq] at hzz
  obtain ⟨hz0, hz1, hz2⟩ := hzz
  refine wpList_append_own_at (W.alloc (.cells (nums .u8 zs).toArray e)) hgd s x t ho base e i0 _ 1 1 ht hi hz0 hz1 hz2 rfl (by omega) v n (nums .u8 xs) hs (HO.alloc _) ⟨W.heap.size, 0, none⟩ zs.length zs.length (nums .u8 zs) hx (by rw [nums_length, Nat.mul_one])
    (by
      have := World.news_of_block (cs := (nums .u8 zs).toArray) (t := e) (fr := (0, 0)) (heap_alloc_new W (.cells (nums .u8 zs).toArray e))
      exact this) (by intro u hu; unfold nums at hu; obtain ⟨q, _, rfl⟩ := List.mem_map.1 hu; rfl) (by simp only [maxLen]; omega) (by omega) (by simp; omega) ?_
  intro v1 w1 hown1 hg1 _ _
  exact h v1 w1 (by simpa [nums] using hown1) ((HB.alloc hbase _).grown hg1 (by simp; omega) (own_base HO))
end
theorem le32_eq (n : Nat) (hn : n < 4294967296) : [(n : Int) % 256, (n : Int) / 256 % 256, (n : Int) / 65536 % 256, (n : Int) / 16777216] = le32 n := by
  unfold le32
  simp only [List.cons.injEq, and_true]
  refine ⟨?_, ?_, ?_, ?_⟩ <;> omega
set_option maxRecDepth 100000 in
set_option maxHeartbeats 4000000 in
theorem put32_calls (base n m : Nat) (v : Value) (xs : List Int) (W : World) (hm : xs.length = m) (HO : W.ownsRow base 5 1 v m (nums .u8 xs)) (hbase : base ≤ W.heap.size) (hl : m + 4 ≤ 140737488355328) (hn : n < 4294967296) :
    Calls Tryd.prog 38 #[v, .int .u32 n] W fun e w' => ∃ v', e = .returned v' ∧ w'.ownsRow base 5 1 v' (m + 4) (nums .u8 (xs ++ le32 n)) ∧ Below base W w' := by
  have h0 : (0 : Int) ≤ (n : Int) := by omega
  have h1 : (n : Int) < 4294967296 := by omega
  have HE := Aside0.mk (le32_eq n hn)
  have HOW := Aside0.mk HO
  have HB := Aside0.mk hbase
  have HL := Aside0.mk hl
  have HM := Aside0.mk hm
  clear HO hbase hl hn hm
  go_enter Tryd.func38, Tryd.ntmps38
  go_wp2_with ((with_reducible refine gate_builtin (b := .append) (xs := #[.tmp 5, .tmp 17]) rfl ?_); at_builtin; refine append_lit (w0 := W) base rfl (.tmp 5) (.tmp 17) 29 5 [(n : Int) % 256, (n : Int) / 256 % 256, (n : Int) / 65536 % 256, (n : Int) / 16777216] rfl Tryd.underlying29 infoB _ m xs HM.out rfl rfl HOW.out (Below.refl _ _) HB.out HL.out ?_; intro v1 w1 ho1 hb1; have HO1 := Aside0.mk ho1; have HB1 := Aside0.mk hb1; clear ho1 hb1)
  go_ret
  exact ⟨_, rfl, by have := HO1.out; rw [HE.out] at this; exact this, HB1.out⟩
set_option maxRecDepth 100000 in
set_option maxHeartbeats 8000000 in
theorem piece_calls (num sum : Nat) (kind : Int) (A : Option Addr) (c : Nat) (body : List Int) (w : World) (hnum : num < 4294967296) (hsum : sum < 4294967296) (hk : 0 ≤ kind ∧ kind < 256) (hb : Byt body) (hl : body.length ≤ 1048576) (hr : ReadsInt w .u8 A body.length body) :
    Calls Tryd.prog 25 #[.int .i64 num, .int .u32 sum, .int .u8 kind, .slice A body.length c] w fun e w' => ∃ v, e = .returned v ∧ w'.ownsRow w.heap.size 5 1 v (pieceS num sum kind body).length (nums .u8 (pieceS num sum kind body)) ∧ Below w.heap.size w w' := by
  obtain ⟨i0, hi, hzz⟩ := Option.map_eq_some_iff.1 infoB
  simp only [Prod.mk.injEq] at hzz
  obtain ⟨hz0, hz1, hz2⟩ := hzz
  have n0 : (0 : Int) ≤ (num : Int) := by omega
  have n1 : (num : Int) < 4294967296 := by omega
  have b0 : (0 : Int) ≤ (body.length : Int) := by omega
  have b1 : (body.length : Int) ≤ 1048576 := by omega
  have HRd : Aside0 (∀ W, Below w.heap.size w W → ReadsInt W .u8 A body.length body) := ⟨fun W h => hr.below h⟩
  have HNum := Aside0.mk hnum
  have HSum := Aside0.mk hsum
  have HByt := Aside0.mk (headS_byt (num := num) (sum := sum) hk hb)
  have HL := Aside0.mk hl
  have HZ2 := Aside0.mk hz2
  clear hnum hsum hk hb hl hr
  go_enter Tryd.func25, Tryd.ntmps25
  go_wp2_with (first
    | (at_make; refine wpList_make_own _ rfl _ _ 29 rfl w.heap.size 5 i0 (.int .u8 0) 1 Tryd.underlying29 hi hz0 hz1 .i64 .i64 _ (18 + body.length) rfl rfl (by omega) (by have := HL.out; rw [HZ2.out]; omega) (by have := HL.out; unfold maxLen; omega) (Nat.le_refl _) ?_; intro w1 hrow1 hg1; have HO0 := Aside0.mk hrow1; have HB0 := Aside0.mk ((Below.refl w.heap.size w).grown hg1 (Nat.le_refl _) (fun j hj => by cases hj)); clear hrow1 hg1)
    | ((with_reducible refine gate_builtin (b := .append) (xs := #[.tmp 14, .tmp 15]) rfl ?_); at_builtin; refine append_lit (w0 := w) w.heap.size rfl (.tmp 14) (.tmp 15) 29 5 [82] rfl Tryd.underlying29 infoB _ 0 [] rfl rfl rfl HO0.out HB0.out HB0.out.size (show 0 + 1 ≤ 140737488355328 by omega) ?_; intro v1 w2 ho1 hb1; have HO1 := Aside0.mk ho1; have HB1 := Aside0.mk hb1; clear ho1 hb1 HO0 HB0)
    | (go_at_call 38; have q_ := HO1.out; clear q_; refine Calls.mono (put32_calls w.heap.size num 1 _ ([] ++ [82]) _ rfl HO1.out HB1.out.size (by omega) HNum.out) ?_; rintro e w3 ⟨v2, rfl, ho2, hb2⟩; have HO2 := Aside0.mk ho2; have HB2 := Aside0.mk (HB1.out.trans hb2); clear ho2 hb2 HO1 HB1)
    | (go_at_call 38; have q_ := HO2.out; clear q_; refine Calls.mono (put32_calls w.heap.size sum 5 _ ([] ++ [82] ++ le32 num) _ (by simp [le32]) HO2.out HB2.out.size (by omega) HSum.out) ?_; rintro e w4 ⟨v3, rfl, ho3, hb3⟩; have HO3 := Aside0.mk ho3; have HB3 := Aside0.mk (HB2.out.trans hb3); clear ho3 hb3 HO2 HB2)
    | (go_at_call 38; have q_ := HO3.out; clear q_; refine Calls.mono (put32_calls w.heap.size body.length 9 _ ([] ++ [82] ++ le32 num ++ le32 sum) _ (by simp [le32]) HO3.out HB3.out.size (by omega) (by have := HL.out; omega)) ?_; rintro e w5 ⟨v4, rfl, ho4, hb4⟩; have HO4 := Aside0.mk ho4; have HB4 := Aside0.mk (HB3.out.trans hb4); clear ho4 hb4 HO3 HB3)
    | ((with_reducible refine gate_builtin (b := .append) (xs := #[.tmp 29, .tmp 31]) rfl ?_); at_builtin; refine append_lit (w0 := w) w.heap.size rfl (.tmp 29) (.tmp 31) 29 5 [kind] rfl Tryd.underlying29 infoB _ 13 ([] ++ [82] ++ le32 num ++ le32 sum ++ le32 body.length) rfl rfl rfl HO4.out HB4.out HB4.out.size (show 13 + 1 ≤ 140737488355328 by omega) ?_; intro v5 w6 ho5 hb5; have HO5 := Aside0.mk ho5; have HB5 := Aside0.mk hb5; clear ho5 hb5 HO4 HB4)
    | ((with_reducible refine gate_builtin (b := .append) (xs := #[.tmp 33, .tmp 34]) rfl ?_); at_builtin; refine print_append_row (w0 := w) w.heap.size rfl (.tmp 33) (.tmp 34) 29 5 .u8 1 rfl Tryd.underlying29 infoB (by decide) _ ([] ++ [82] ++ le32 num ++ le32 sum ++ le32 body.length ++ [kind]) body A body.length c rfl rfl HO5.out (HRd.out _ HB5.out) HB5.out HB5.out.size (by have := HL.out; show (14 + body.length) * 1 ≤ _; omega) ?_; intro v6 w7 ho6 hb6 _ _; rw [show ([] ++ [82] ++ le32 num ++ le32 sum ++ le32 body.length ++ [kind] ++ body : List Int) = headS num sum kind body by simp [headS]] at ho6; obtain ⟨g6, c6, rfl⟩ := own_form2 ho6 (by rw [headS_len]; omega); have hcap6 := own_cap ho6; have HC6 := Aside0.mk hcap6; have HO6 := Aside0.mk ho6; have HB6 := Aside0.mk hb6; clear ho6 hb6 hcap6 HO5 HB5)
    | (go_at_call 39; refine Calls.mono (pack_Sum.calls _ (some ⟨g6, 0, none⟩) c6 (headS num sum kind body) (sumN (headS num sum kind body) : Nat) w7 (Kd.C_of_reads (d := (0 : Int)) (readsInt_of.1 (own_reads' HO6.out))) HC6.out (sum_f HByt.out (by rw [headS_len]; have := HL.out; omega))) ?_; rintro e w8 ⟨rfl, hd8⟩; have HO8 := Aside0.mk (own_move HO6.out (fun k hk => hd8.below.block k (own_lt HO6.out k hk))); have HB8 := Aside0.mk (HB6.out.trans (hd8.below.mono HB6.out.size)); clear hd8 HO6 HB6)
    | (go_at_call 38; have q_ := HO8.out; clear q_; refine Calls.mono (put32_calls w.heap.size (sumN (headS num sum kind body)) (headS num sum kind body).length _ (headS num sum kind body) _ rfl HO8.out HB8.out.size (by rw [headS_len]; have := HL.out; omega) (sumN_lt _)) ?_; rintro e w9 ⟨v9, rfl, ho9, hb9⟩; have HO9 := Aside0.mk ho9; have HB9 := Aside0.mk (HB8.out.trans hb9); clear ho9 hb9 HO8 HB8))
  go_ret
  exact ⟨_, rfl, by have := HO9.out; rw [pieceS_len]; rw [headS_len, show 14 + body.length + 4 = 18 + body.length by omega] at this; exact this, HB9.out⟩
def WholePost (w w' : World) (e : Ending) : Option (Nat × Rec × Nat) → Prop
  | none => e = .returned (.tuple #[.int .u32 0, .agg #[.int .u8 0, .slice none 0 0], .int .i64 0]) ∧ Below w.heap.size w w'
  | some (s, r, sz) => ∃ v, e = .returned (.tuple #[.int .u32 s, .agg #[.int .u8 r.kind, v], .int .i64 sz]) ∧ w'.ownsRow w.heap.size 5 1 v r.body.length (nums .u8 r.body) ∧ Below w.heap.size w w'
set_option maxRecDepth 100000 in
theorem res_whole {W : World} {ge : Nat} {s z : Int} {k : Int} {v : Value} {tmps : Array Value} (h4 : tmps.getD 4 undef = .int .u32 s) (h6 : tmps.getD 6 undef = .int .i64 z) (ht : tmps.getD 5 undef = .pointer (some ⟨ge, 0, none⟩)) (hc : W.heap[ge]? = some (.cells #[.int .u8 k, v] 37 (0, 0))) :
    (results Tryd.f43 tmps).run Tryd.prog W = .ok (.tuple #[.int .u32 s, .agg #[.int .u8 k, v], .int .i64 z]) W := by
  have hr : Tryd.f43.results = #[.tmp 4, .cell 5 37, .tmp 6] := by kernel_rfl
  have a4 : tmps[4]?.getD undef = .int .u32 s := by rw [← h4]; simp
  have a6 : tmps[6]?.getD undef = .int .i64 z := by rw [← h6]; simp
  have ht' : tmps[5]?.getD undef = .pointer (some ⟨ge, 0, none⟩) := by rw [← ht]; simp
  have c0 : W.cell? ⟨ge, 0, none⟩ = some (.int .u8 k) := (blk_cell hc 0).trans rfl
  have c1 : W.cell? ⟨ge, 1, none⟩ = some v := (blk_cell hc 1).trans rfl
  simp [results, hr, go_sem, ht', a4, a6, c0, c1]
theorem reads_drop {W : World} {ad : Addr} {xs : List Int} (h : ReadsInt W .u8 (some ad) xs.length xs) (i : Nat) (hi : 0 < i) (hl : i ≤ xs.length) : ReadsInt W .u8 (some (ad.add i)) (xs.length - i) (xs.drop i) := by
  refine ⟨by rw [List.length_drop], by have := h.2.1; omega, fun h0 => ⟨_, rfl, fun j hj => ?_⟩⟩
  obtain ⟨ad', e, hc⟩ := h.2.2 (by omega)
  cases e
  rw [Go.Deep.add_add, hc (i + j) (by omega), List.getD_eq_getElem?_getD, List.getD_eq_getElem?_getD, List.getElem?_drop]
structure WhIn (w : World) (ad : Addr) (c L : Nat) (z0 z13 : Int) (n : Nat) (g1 g5 gs sm : Int) (body : List Int) : Prop where
  l18 : 18 ≤ L
  cap : L ≤ c
  len : L ≤ 140737488351232
  x0 : ∀ W, Below w.heap.size w W → W.cell? ad = some (.int .u8 z0)
  x13 : ∀ W, Below w.heap.size w W → W.cell? ⟨ad.block, ad.off + 13, none⟩ = some (.int .u8 z13)
  get1 : ∀ W, Below w.heap.size w W → Calls Tryd.prog 55 #[.slice (some ⟨ad.block, ad.off + 1, none⟩) (L - 1) (c - 1)] W fun e w' => e = .returned (.int .u32 g1) ∧ Drawn0 W w'
  get9 : ∀ W, Below w.heap.size w W → Calls Tryd.prog 55 #[.slice (some ⟨ad.block, ad.off + 9, none⟩) (L - 9) (c - 9)] W fun e w' => e = .returned (.int .u32 (n : Nat)) ∧ Drawn0 W w'
  get5 : ∀ W, Below w.heap.size w W → Calls Tryd.prog 55 #[.slice (some ⟨ad.block, ad.off + 5, none⟩) (L - 5) (c - 5)] W fun e w' => e = .returned (.int .u32 g5) ∧ Drawn0 W w'
  getS : 18 + n ≤ L → ∀ W, Below w.heap.size w W → Calls Tryd.prog 55 #[.slice (some (ad.add (14 + n))) (L - (14 + n)) (c - (14 + n))] W fun e w' => e = .returned (.int .u32 gs) ∧ Drawn0 W w'
  sum : 18 + n ≤ L → ∀ W, Below w.heap.size w W → Calls Tryd.prog 39 #[.slice (some ad) (14 + n) c] W fun e w' => e = .returned (.int .u32 sm) ∧ Drawn0 W w'
  bl : 18 + n ≤ L → body.length = n
  body : 18 + n ≤ L → ∀ W, Below w.heap.size w W → ReadsInt W .u8 (some ⟨ad.block, ad.off + 14, none⟩) n body
  n32 : n < 4294967296
  g5n : 0 ≤ g5
theorem whole_end {w W1 w7 : World} {ge n : Nat} {v : Value} {body : List Int} (hge : ge = w.heap.size) (hb : Below w.heap.size w W1) (hg : ge < W1.heap.size) (hd : Below W1.heap.size W1 w7) (ho : w7.ownsRow W1.heap.size 5 1 v n (nums .u8 body)) (a b : Value) :
    ((w7.setCell ⟨ge, 0, none⟩ a).setCell ⟨ge, 1, none⟩ b).ownsRow w.heap.size 5 1 v n (nums .u8 body) ∧ Below w.heap.size w ((w7.setCell ⟨ge, 0, none⟩ a).setCell ⟨ge, 1, none⟩ b) := by
  refine ⟨own_lower (own_move ho fun k hk => ?_) hb.size, ((hb.trans (hd.mono hb.size)).setCell (Nat.le_of_eq hge.symm) _).setCell (Nat.le_of_eq hge.symm) _⟩
  have hk2 := own_base ho k hk
  have hne : k ≠ ge := by omega
  exact (Below.heap_setCell (w7.setCell ⟨ge, 0, none⟩ a) _ b k hne).trans (Below.heap_setCell w7 _ a k hne)
set_option maxRecDepth 100000 in
set_option maxHeartbeats 4000000 in
theorem whole_goodA (ad : Addr) (c L : Nat) (num : Int) (z13 : Int) (n : Nat) (g5 gs : Int) (body : List Int) (w : World) (h : WhIn w ad c L 82 z13 n num g5 gs gs body) (hn0 : 0 ≤ num) (hn : num < 4294967296) (e0 : ¬ num = 0) (c1 : n ≤ 1048576) (c2 : 18 + n ≤ L) :
    Calls Tryd.prog 43 #[.slice (some ad) L c, .int .i64 num] w fun e w' => WholePost w w' e (some (g5.toNat, ⟨z13, body⟩, 18 + n)) := by
  have HG := blk_new w (.cells #[.int .u8 0, .slice none 0 0] 37)
  have HB := below_alloc (Below.refl w.heap.size w) (.cells #[.int .u8 0, .slice none 0 0] 37)
  have H := Aside0.mk h
  have n0 : (0 : Int) ≤ num := hn0
  have n1 : num < 4294967296 := hn
  have d0 : decide (num = 0) = false := decide_eq_false e0
  have d0' : (num == 0) = false := by simp [e0]
  have q0 : (0 : Int) < (L : Int) := by omega
  have q1 : (1 : Int) ≤ (L : Int) := by omega
  have q9 : (9 : Int) ≤ (L : Int) := by omega
  have q5 : (5 : Int) ≤ (L : Int) := by omega
  have hcap := h.cap
  have s1 : ¬ c = 1 := by omega
  have s9 : ¬ c = 9 := by omega
  have s5 : ¬ c = 5 := by omega
  have s14 : ¬ c = 14 := by omega
  have q18 : decide ((L : Int) < 18) = false := decide_eq_false (by omega)
  have q18' : decide (L < 18) = false := decide_eq_false (by omega)
  obtain ⟨W1, hW1⟩ : ∃ W1, w.alloc (.cells #[.int .u8 0, .slice none 0 0] 37) = W1 := ⟨_, rfl⟩
  obtain ⟨ge, hge⟩ : ∃ ge, ge = w.heap.size := ⟨_, rfl⟩
  rw [hW1] at HG HB
  rw [← hge] at HG
  have HW := Aside0.mk hW1
  have HGE := Aside0.mk hge
  have HB1 := Aside0.mk HB
  have hcar : ∀ W, Below W1.heap.size W1 W → Below w.heap.size w W ∧ W.heap[ge]? = some (.cells #[.int .u8 0, .slice none 0 0] 37 (0, 0)) := fun W hb => ⟨HB.trans (hb.mono HB.size), (hb.block ge (blk_lt HG)).trans HG⟩
  have HCar := Aside0.mk hcar
  have HGB := Aside0.mk HG
  have x0 := h.x0 W1 HB
  have m0 : (0 : Int) ≤ (n : Int) := by omega
  have m3 : (n : Int) ≤ 1048576 := by omega
  have lL : (L : Int) ≤ 140737488351232 := by have := h.len; omega
  have HLE := Aside0.mk c2
  have d1 : decide ((1048576 : Int) < (n : Int)) = false := decide_eq_false (by omega)
  have d2 : decide ((L : Int) - 14 - 4 < (n : Int)) = false := decide_eq_false (by omega)
  have r1 : (14 : Int) + (n : Int) ≤ (L : Int) := by omega
  have r2 : (14 : Int) + (n : Int) ≤ (c : Int) := by omega
  have r3 : ¬ c = 14 + n := by omega
  have r5 : (13 : Int) < (L : Int) := by omega
  have r6 : (14 : Int) ≤ (L : Int) := by omega
  have r7 : (14 : Int) ≤ (c : Int) := by omega
  have HN := Aside0.mk h.n32
  obtain ⟨i0, hi, hzz⟩ := Option.map_eq_some_iff.1 infoB
  simp only [Prod.mk.injEq] at hzz
  obtain ⟨hz0, hz1, hz2⟩ := hzz
  have HIN : Aside0 ((Tryd.prog.info? 5).map (·.size) = some 1) := ⟨by rw [hi]; exact congrArg some hz1⟩
  have hmk : ∀ W : World, (Instr.makeSlice 29 (.int .u32 (n : Int)) (.int .u32 (n : Int))).run Tryd.prog W = .ok (.slice (some ⟨W.heap.size, 0, none⟩) n n) (W.alloc (.cells (madeCells #[.int .u8 0] n) 5)) := run_make_row' 29 5 (.int .u8 0) 1 Tryd.underlying29 infoB rfl .u32 .u32 n (by omega) (by omega)
  have TM_ := Aside0.mk (show ((14 : Int) + (n : Int)).toNat - 14 = n by omega)
  have TN_ := Aside0.mk (show ((14 : Int) + (n : Int)).toNat = 14 + n by omega)
  clear hi hz0 hz1 hz2 c1 c2 hcap h hcar HG HB hW1 hge hn hn0 e0
  go_enter Tryd.func43, Tryd.ntmps43
  go_upto_region 1 with fail
  rw [HW.out, ← HGE.out]
  have HT1 := Aside0.mk trivial
  go_upto_region 7 with (first
    | (go_at_call 55; have q_ := HT1.out; clear q_ HT1; refine (H.out.get1 _ HB1.out).mono ?_; rintro e w2 ⟨rfl, hd⟩; obtain ⟨hb2, hg2⟩ := HCar.out w2 hd.below; have HD2 := Aside0.mk hd.below; have HB2 := Aside0.mk hb2; have HG2 := Aside0.mk hg2; have HT2 := Aside0.mk trivial; clear hd hb2 hg2)
    | (go_at_call 55; have q_ := HT2.out; clear q_ HT2; refine (H.out.get9 _ HB2.out).mono ?_; rintro e w3 ⟨rfl, hd⟩; obtain ⟨hb3, hg3⟩ := HCar.out w3 (HD2.out.trans (hd.below.mono HD2.out.size)); have x13 := H.out.x13 w3 hb3; have HD3 := Aside0.mk (HD2.out.trans (hd.below.mono HD2.out.size)); have HB3 := Aside0.mk hb3; have HG3 := Aside0.mk hg3; have f0 := (blk_cell hg3 0).trans rfl; have f1 := (blk_cell hg3 1).trans rfl; have y0 := blk_frozen hg3 0; have y1 := blk_frozen hg3 1; have HT3 := Aside0.mk trivial; clear hd hb3 hg3))
  have HDq : Aside0 (∀ k, Below W1.heap.size W1 (w3.drewN k)) := ⟨fun k => HD3.out.trans (((Drawn0.refl w3).step k).below.mono HD3.out.size)⟩
  have HBq : Aside0 (∀ k, Below w.heap.size w (w3.drewN k)) := ⟨fun k => (HCar.out _ (HDq.out k)).1⟩
  clear x13 f0 f1 y0 y1
  go_quiet (first
    | (go_at_call 55; refine Calls.quiet_of ((H.out.getS HLE.out _ (HBq.out _)).mono fun _ _ h_ => ⟨h_.1, h_.2.out⟩))
    | (go_at_call 39; (try rw [TN_.out]); refine Calls.quiet_of ((H.out.sum HLE.out _ (HBq.out _)).mono fun _ _ h_ => ⟨h_.1, h_.2.out⟩)))
  generalize hW5 : w3.drewN _ = W5
  have hd5 : Below W1.heap.size W1 W5 := by rw [← hW5]; exact HDq.out _
  have HD5 := Aside0.mk hd5
  have HB5 := Aside0.mk (HCar.out _ hd5).1
  have f0 : W5.cell? ⟨ge, 0, none⟩ = some (.int .u8 0) := (blk_cell (HCar.out _ hd5).2 0).trans rfl
  have f1 : W5.cell? ⟨ge, 1, none⟩ = some (.slice none 0 0) := (blk_cell (HCar.out _ hd5).2 1).trans rfl
  have y0 : W5.frozen? ⟨ge, 0, none⟩ = false := blk_frozen (HCar.out _ hd5).2 0
  have y1 : W5.frozen? ⟨ge, 1, none⟩ = false := blk_frozen (HCar.out _ hd5).2 1
  clear hd5 hW5
  go_upto_region 11 with (first
    | ((with_reducible refine gate_builtin (b := .copy) (xs := #[.tmp 68, .tmp 71]) rfl ?_); refine copy_full (w0 := W1) W1.heap.size rfl (.tmp 68) (.tmp 71) 29 29 5 rfl Tryd.underlying29 HIN.out _ n n (c - 14) (some ⟨ad.block, ad.off + 14, none⟩) body _ rfl (by first | rfl | exact congrArg (fun q => Value.slice (some ⟨ad.block, ad.off + 14, none⟩) q (c - 14)) TM_.out) (own_made W5 W1.heap.size 5 .u8 n HD5.out.size (by have := HN.out; omega)) (H.out.body HLE.out _ (below_alloc HB5.out _)) (below_alloc HD5.out _) ?_; intro w6 ho6 hb6; have HO6 := Aside0.mk ho6; have HD6 := Aside0.mk hb6; clear ho6 hb6))
  have HD6d := Aside0.mk (show Below W1.heap.size W1 w6.drew from HD6.out.trans (((Drawn0.refl w6).step 1).below.mono HD6.out.size))
  have HB6d := Aside0.mk (HCar.out _ HD6d.out).1
  clear f0 f1 y0 y1 d1 d2 q1 q9 q18 q18' s1 s9 s14 r1 r2 r3 r6 r7 hmk x0 d0 d0' n0 n1
  refine start_ (n := 13) (S := fun w' => Below W1.heap.size W1 w' ∧ w'.cell? ⟨ad.block, ad.off + 13, none⟩ = some (.int .u8 z13)) (ds := [11]) #[false, false, false, false, false, false, false, false, false, false, false, false, false] (by kernel_rfl) rfl rfl ⟨HD6d.out, (H.out.x13 _ HB6d.out)⟩ (fun hHeld => ?_)
  refine pure_ (i := 0) (N := some 73) (v := ?_) (a' := ?_) #[true, false, false, false, false, false, false, false, false, false, false, false, false] rfl rfl (by kernel_rfl) (fun _ _ _ h => h) (Or.inl ⟨by rfl, ?_⟩) ?_ ?_
  rotate_left
  · intro w'
    go_simp
    with_reducible rfl
  rotate_left
  · simp only [Act.put, List.setIfInBounds_toArray, List.set_cons_zero, List.set_cons_succ, i64_w, i32_w]
    rfl
  refine pure_ (i := 1) (N := some 74) (v := ?_) (a' := ?_) #[true, true, false, false, false, false, false, false, false, false, false, false, false] rfl rfl (by kernel_rfl) (fun _ _ _ h => h) (Or.inl ⟨by rfl, ?_⟩) ?_ ?_
  rotate_left
  · intro w'
    go_simp
    with_reducible rfl
  rotate_left
  · simp only [Act.put, List.setIfInBounds_toArray, List.set_cons_zero, List.set_cons_succ, i64_w, i32_w]
    rfl
  refine pure_ (i := 3) (N := some 76) (v := ?_) (a' := ?_) #[true, true, false, true, false, false, false, false, false, false, false, false, false] rfl rfl (by kernel_rfl) (fun _ _ _ h => h) (Or.inl ⟨by rfl, ?_⟩) ?_ ?_
  rotate_left
  · intro w'
    go_simp
    with_reducible rfl
  rotate_left
  · simp only [Act.put, List.setIfInBounds_toArray, List.set_cons_zero, List.set_cons_succ, i64_w, i32_w]
    rfl
  refine pure_ (i := 4) (N := some 77) (v := ?_) (a' := ?_) #[true, true, false, true, true, false, false, false, false, false, false, false, false] rfl rfl (by kernel_rfl) (fun _ _ _ h => h) (Or.inl ⟨by rfl, ?_⟩) ?_ ?_
  rotate_left
  · intro w'
    go_simp
    with_reducible rfl
  rotate_left
  · simp only [Act.put, List.setIfInBounds_toArray, List.set_cons_zero, List.set_cons_succ, i64_w, i32_w]
    rfl
  refine pure_ (i := 6) (N := some 79) (v := ?_) (a' := ?_) #[true, true, false, true, true, false, true, false, false, false, false, false, false] rfl rfl (by kernel_rfl) (fun _ _ _ h => h) (Or.inl ⟨by rfl, ?_⟩) ?_ ?_
  rotate_left
  · intro w'
    go_simp
    with_reducible rfl
  rotate_left
  · simp only [Act.put, List.setIfInBounds_toArray, List.set_cons_zero, List.set_cons_succ, i64_w, i32_w]
    rfl
  refine pure_ (i := 8) (N := some 81) (v := ?_) (a' := ?_) #[true, true, false, true, true, false, true, false, true, false, false, false, false] rfl rfl (by kernel_rfl) (fun _ _ _ h => h) (Or.inl ⟨by rfl, ?_⟩) ?_ ?_
  rotate_left
  · intro w'
    go_simp
    with_reducible rfl
  rotate_left
  · simp only [Act.put, List.setIfInBounds_toArray, List.set_cons_zero, List.set_cons_succ, i64_w, i32_w]
    rfl
  refine pure_ (i := 9) (N := some 82) (v := ?_) (a' := ?_) #[true, true, false, true, true, false, true, false, true, true, false, false, false] rfl rfl (by kernel_rfl) (fun _ _ _ h => h) (Or.inl ⟨by rfl, ?_⟩) ?_ ?_
  rotate_left
  · intro w'
    go_simp
    with_reducible rfl
  rotate_left
  · simp only [Act.put, List.setIfInBounds_toArray, List.set_cons_zero, List.set_cons_succ, i64_w, i32_w]
    rfl
  refine take_ (i := 5) (N := some 78) (v := ?_) (a' := ?_) #[true, true, false, true, true, true, true, false, true, true, false, false, false] rfl rfl (by kernel_rfl) (fun _ _ _ h => h) (Or.inl ⟨by rfl, ?_⟩) hHeld ?_ ?_
  rotate_left
  · rintro w' ⟨s0, s1⟩
    go_simp
    with_reducible rfl
  rotate_left
  · simp only [Act.put, List.setIfInBounds_toArray, List.set_cons_zero, List.set_cons_succ, i64_w, i32_w]
    rfl
  refine pure_ (i := 7) (N := some 80) (v := ?_) (a' := ?_) #[true, true, false, true, true, true, true, true, true, true, false, false, false] rfl rfl (by kernel_rfl) (fun _ _ _ h => h) (Or.inl ⟨by rfl, ?_⟩) ?_ ?_
  rotate_left
  · intro w'
    go_simp
    with_reducible rfl
  rotate_left
  · simp only [Act.put, List.setIfInBounds_toArray, List.set_cons_zero, List.set_cons_succ, i64_w, i32_w]
    rfl
  refine one_ (i := 2) (N := some 75) #[true, true, true, true, true, true, true, true, true, true, false, false, false] rfl rfl (by kernel_rfl) (by decide) (fun K hK => ?_)
  refine goes_ Tryd.func55 (by kernel_rfl) rfl #[.slice (some ⟨ad.block, ad.off + 5, none⟩) (L - 5) (c - 5)] (by rfl) rfl rfl (by simp only [List.map_toArray, List.map_cons, List.map_nil]; rfl) ?_
  with_reducible refine ((H.out.get5 _ (HCar.out _ hHeld.1).1)).mono ?_
  rintro e w7 ⟨rfl, hd⟩
  refine ⟨_, rfl, ?_⟩
  have hd7 := HD6d.out.trans (hd.below.mono HD6d.out.size)
  have x13p := H.out.x13 w7 (HCar.out _ hd7).1
  have f0p : w7.cell? ⟨ge, 0, none⟩ = some (.int .u8 0) := (blk_cell (HCar.out _ hd7).2 0).trans rfl
  have f1p : w7.cell? ⟨ge, 1, none⟩ = some (.slice none 0 0) := (blk_cell (HCar.out _ hd7).2 1).trans rfl
  have y0p : w7.frozen? ⟨ge, 0, none⟩ = false := blk_frozen (HCar.out _ hd7).2 0
  have y1p : w7.frozen? ⟨ge, 1, none⟩ = false := blk_frozen (HCar.out _ hd7).2 1
  have HO7 := Aside0.mk (own_move HO6.out (fun k hk => hd.below.block k (own_lt HO6.out k hk)))
  have HD7 := Aside0.mk hd7
  clear hd hd7
  refine hK.out _ _ ⟨HD7.out, x13p⟩ (fun hHeld => ?_)
  clear hK K
  refine norm_ (a' := ?_) ?_ ?_
  rotate_left
  · show Act.put _ (some 75) _ = _
    simp only [Act.put, List.setIfInBounds_toArray, List.set_cons_zero, List.set_cons_succ, i64_w, i32_w]
    rfl
  refine pure_ (i := 10) (N := some 4) (v := ?_) (a' := ?_) #[true, true, true, true, true, true, true, true, true, true, true, false, false] rfl rfl (by kernel_rfl) (fun _ _ _ h => h) (Or.inl ⟨by rfl, ?_⟩) ?_ ?_
  rotate_left
  · intro w'
    go_simp
    with_reducible rfl
  rotate_left
  · simp only [Act.put, List.setIfInBounds_toArray, List.set_cons_zero, List.set_cons_succ, i64_w, i32_w]
    rfl
  refine last_ (i := 11) (N := none) #[true, true, true, true, true, true, true, true, true, true, true, true, false] rfl rfl (by kernel_rfl) (by decide) (fun K hK => ?_)
  refine skip_ (w1 := ?_) (by rfl) rfl ?_ ?_
  rotate_left
  · go_simp
    rfl
  refine hK.out _ _ ?_
  clear hK K
  refine pure_ (i := 12) (N := some 6) (v := ?_) (a' := ?_) #[true, true, true, true, true, true, true, true, true, true, true, true, true] rfl rfl (by kernel_rfl) (fun _ _ _ h => h) (Or.inl ⟨by rfl, ?_⟩) ?_ ?_
  rotate_left
  · intro w'
    go_simp
    with_reducible rfl
  rotate_left
  · simp only [Act.put, List.setIfInBounds_toArray, List.set_cons_zero, List.set_cons_succ, i64_w, i32_w]
    rfl
  refine done_ (by kernel_rfl) ?_
  go_wp2
  refine bodyPost_ret (res_whole rfl rfl rfl (blk_set (blk_set (HCar.out _ HD7.out).2 0 _) 1 _)) rfl ?_
  obtain ⟨e1, e2⟩ := whole_end HGE.out HB1.out (blk_lt HGB.out) HD7.out HO7.out (.int .u8 z13) (.slice (some ⟨W5.heap.size, 0, none⟩) n n)
  have hbl := H.out.bl HLE.out
  have h5 := H.out.g5n
  refine ⟨.slice (some ⟨W5.heap.size, 0, none⟩) n n, ?_, by rw [hbl]; exact e1, e2⟩
  have hw : wrap64 (14 + (n : Int) + 4) = 14 + (n : Int) + 4 := by unfold wrap64; omega
  rw [hw, show ((g5.toNat : Nat) : Int) = g5 by omega, show ((18 + n : Nat) : Int) = 14 + (n : Int) + 4 by omega]
  first | done | rfl
set_option maxRecDepth 100000 in
set_option maxHeartbeats 4000000 in
theorem whole_goodB (ad : Addr) (c L : Nat)  (n : Nat) (g5 gs : Int) (body : List Int) (w : World) (h : WhIn w ad c L 82 0 n 0 g5 gs gs body) (c1 : n ≤ 1048576) (c2 : 18 + n ≤ L) :
    Calls Tryd.prog 43 #[.slice (some ad) L c, .int .i64 0] w fun e w' => WholePost w w' e (some (g5.toNat, ⟨0, body⟩, 18 + n)) := by
  have HG := blk_new w (.cells #[.int .u8 0, .slice none 0 0] 37)
  have HB := below_alloc (Below.refl w.heap.size w) (.cells #[.int .u8 0, .slice none 0 0] 37)
  have H := Aside0.mk h
  have q0 : (0 : Int) < (L : Int) := by omega
  have q1 : (1 : Int) ≤ (L : Int) := by omega
  have q9 : (9 : Int) ≤ (L : Int) := by omega
  have q5 : (5 : Int) ≤ (L : Int) := by omega
  have hcap := h.cap
  have s1 : ¬ c = 1 := by omega
  have s9 : ¬ c = 9 := by omega
  have s5 : ¬ c = 5 := by omega
  have s14 : ¬ c = 14 := by omega
  have q18 : decide ((L : Int) < 18) = false := decide_eq_false (by omega)
  have q18' : decide (L < 18) = false := decide_eq_false (by omega)
  obtain ⟨W1, hW1⟩ : ∃ W1, w.alloc (.cells #[.int .u8 0, .slice none 0 0] 37) = W1 := ⟨_, rfl⟩
  obtain ⟨ge, hge⟩ : ∃ ge, ge = w.heap.size := ⟨_, rfl⟩
  rw [hW1] at HG HB
  rw [← hge] at HG
  have HW := Aside0.mk hW1
  have HGE := Aside0.mk hge
  have HB1 := Aside0.mk HB
  have hcar : ∀ W, Below W1.heap.size W1 W → Below w.heap.size w W ∧ W.heap[ge]? = some (.cells #[.int .u8 0, .slice none 0 0] 37 (0, 0)) := fun W hb => ⟨HB.trans (hb.mono HB.size), (hb.block ge (blk_lt HG)).trans HG⟩
  have HCar := Aside0.mk hcar
  have HGB := Aside0.mk HG
  have x0 := h.x0 W1 HB
  have m0 : (0 : Int) ≤ (n : Int) := by omega
  have m3 : (n : Int) ≤ 1048576 := by omega
  have lL : (L : Int) ≤ 140737488351232 := by have := h.len; omega
  have HLE := Aside0.mk c2
  have d1 : decide ((1048576 : Int) < (n : Int)) = false := decide_eq_false (by omega)
  have d2 : decide ((L : Int) - 14 - 4 < (n : Int)) = false := decide_eq_false (by omega)
  have r1 : (14 : Int) + (n : Int) ≤ (L : Int) := by omega
  have r2 : (14 : Int) + (n : Int) ≤ (c : Int) := by omega
  have r3 : ¬ c = 14 + n := by omega
  have r5 : (13 : Int) < (L : Int) := by omega
  have r6 : (14 : Int) ≤ (L : Int) := by omega
  have r7 : (14 : Int) ≤ (c : Int) := by omega
  have HN := Aside0.mk h.n32
  obtain ⟨i0, hi, hzz⟩ := Option.map_eq_some_iff.1 infoB
  simp only [Prod.mk.injEq] at hzz
  obtain ⟨hz0, hz1, hz2⟩ := hzz
  have HIN : Aside0 ((Tryd.prog.info? 5).map (·.size) = some 1) := ⟨by rw [hi]; exact congrArg some hz1⟩
  have hmk : ∀ W : World, (Instr.makeSlice 29 (.int .u32 (n : Int)) (.int .u32 (n : Int))).run Tryd.prog W = .ok (.slice (some ⟨W.heap.size, 0, none⟩) n n) (W.alloc (.cells (madeCells #[.int .u8 0] n) 5)) := run_make_row' 29 5 (.int .u8 0) 1 Tryd.underlying29 infoB rfl .u32 .u32 n (by omega) (by omega)
  have TM_ := Aside0.mk (show ((14 : Int) + (n : Int)).toNat - 14 = n by omega)
  have TN_ := Aside0.mk (show ((14 : Int) + (n : Int)).toNat = 14 + n by omega)
  clear hi hz0 hz1 hz2 c1 c2 hcap h hcar HG HB hW1 hge
  go_enter Tryd.func43, Tryd.ntmps43
  go_upto_region 1 with fail
  rw [HW.out, ← HGE.out]
  have HT1 := Aside0.mk trivial
  go_upto_region 7 with (first
    | (go_at_call 55; have q_ := HT1.out; clear q_ HT1; refine (H.out.get1 _ HB1.out).mono ?_; rintro e w2 ⟨rfl, hd⟩; obtain ⟨hb2, hg2⟩ := HCar.out w2 hd.below; have HD2 := Aside0.mk hd.below; have HB2 := Aside0.mk hb2; have HG2 := Aside0.mk hg2; have HT2 := Aside0.mk trivial; clear hd hb2 hg2)
    | (go_at_call 55; have q_ := HT2.out; clear q_ HT2; refine (H.out.get9 _ HB2.out).mono ?_; rintro e w3 ⟨rfl, hd⟩; obtain ⟨hb3, hg3⟩ := HCar.out w3 (HD2.out.trans (hd.below.mono HD2.out.size)); have x13 := H.out.x13 w3 hb3; have HD3 := Aside0.mk (HD2.out.trans (hd.below.mono HD2.out.size)); have HB3 := Aside0.mk hb3; have HG3 := Aside0.mk hg3; have f0 := (blk_cell hg3 0).trans rfl; have f1 := (blk_cell hg3 1).trans rfl; have y0 := blk_frozen hg3 0; have y1 := blk_frozen hg3 1; have HT3 := Aside0.mk trivial; clear hd hb3 hg3))
  have HDq : Aside0 (∀ k, Below W1.heap.size W1 (w3.drewN k)) := ⟨fun k => HD3.out.trans (((Drawn0.refl w3).step k).below.mono HD3.out.size)⟩
  have HBq : Aside0 (∀ k, Below w.heap.size w (w3.drewN k)) := ⟨fun k => (HCar.out _ (HDq.out k)).1⟩
  clear x13 f0 f1 y0 y1
  go_quiet (first
    | (go_at_call 55; refine Calls.quiet_of ((H.out.getS HLE.out _ (HBq.out _)).mono fun _ _ h_ => ⟨h_.1, h_.2.out⟩))
    | (go_at_call 39; (try rw [TN_.out]); refine Calls.quiet_of ((H.out.sum HLE.out _ (HBq.out _)).mono fun _ _ h_ => ⟨h_.1, h_.2.out⟩)))
  generalize hW5 : w3.drewN _ = W5
  have hd5 : Below W1.heap.size W1 W5 := by rw [← hW5]; exact HDq.out _
  have HD5 := Aside0.mk hd5
  have HB5 := Aside0.mk (HCar.out _ hd5).1
  have f0 : W5.cell? ⟨ge, 0, none⟩ = some (.int .u8 0) := (blk_cell (HCar.out _ hd5).2 0).trans rfl
  have f1 : W5.cell? ⟨ge, 1, none⟩ = some (.slice none 0 0) := (blk_cell (HCar.out _ hd5).2 1).trans rfl
  have y0 : W5.frozen? ⟨ge, 0, none⟩ = false := blk_frozen (HCar.out _ hd5).2 0
  have y1 : W5.frozen? ⟨ge, 1, none⟩ = false := blk_frozen (HCar.out _ hd5).2 1
  clear hd5 hW5
  go_upto_region 11 with (first
    | ((with_reducible refine gate_builtin (b := .copy) (xs := #[.tmp 68, .tmp 71]) rfl ?_); refine copy_full (w0 := W1) W1.heap.size rfl (.tmp 68) (.tmp 71) 29 29 5 rfl Tryd.underlying29 HIN.out _ n n (c - 14) (some ⟨ad.block, ad.off + 14, none⟩) body _ rfl (by first | rfl | exact congrArg (fun q => Value.slice (some ⟨ad.block, ad.off + 14, none⟩) q (c - 14)) TM_.out) (own_made W5 W1.heap.size 5 .u8 n HD5.out.size (by have := HN.out; omega)) (H.out.body HLE.out _ (below_alloc HB5.out _)) (below_alloc HD5.out _) ?_; intro w6 ho6 hb6; have HO6 := Aside0.mk ho6; have HD6 := Aside0.mk hb6; clear ho6 hb6))
  have HD6d := Aside0.mk (show Below W1.heap.size W1 w6.drew from HD6.out.trans (((Drawn0.refl w6).step 1).below.mono HD6.out.size))
  have HB6d := Aside0.mk (HCar.out _ HD6d.out).1
  clear f0 f1 y0 y1 d1 d2 q1 q9 q18 q18' s1 s9 s14 r1 r2 r3 r6 r7 hmk x0
  refine start_ (n := 13) (S := fun w' => Below W1.heap.size W1 w' ∧ w'.cell? ⟨ad.block, ad.off + 13, none⟩ = some (.int .u8 0)) (ds := [11]) #[false, false, false, false, false, false, false, false, false, false, false, false, false] (by kernel_rfl) rfl rfl ⟨HD6d.out, (H.out.x13 _ HB6d.out)⟩ (fun hHeld => ?_)
  refine pure_ (i := 0) (N := some 73) (v := ?_) (a' := ?_) #[true, false, false, false, false, false, false, false, false, false, false, false, false] rfl rfl (by kernel_rfl) (fun _ _ _ h => h) (Or.inl ⟨by rfl, ?_⟩) ?_ ?_
  rotate_left
  · intro w'
    go_simp
    with_reducible rfl
  rotate_left
  · simp only [Act.put, List.setIfInBounds_toArray, List.set_cons_zero, List.set_cons_succ, i64_w, i32_w]
    rfl
  refine pure_ (i := 1) (N := some 74) (v := ?_) (a' := ?_) #[true, true, false, false, false, false, false, false, false, false, false, false, false] rfl rfl (by kernel_rfl) (fun _ _ _ h => h) (Or.inl ⟨by rfl, ?_⟩) ?_ ?_
  rotate_left
  · intro w'
    go_simp
    with_reducible rfl
  rotate_left
  · simp only [Act.put, List.setIfInBounds_toArray, List.set_cons_zero, List.set_cons_succ, i64_w, i32_w]
    rfl
  refine pure_ (i := 3) (N := some 76) (v := ?_) (a' := ?_) #[true, true, false, true, false, false, false, false, false, false, false, false, false] rfl rfl (by kernel_rfl) (fun _ _ _ h => h) (Or.inl ⟨by rfl, ?_⟩) ?_ ?_
  rotate_left
  · intro w'
    go_simp
    with_reducible rfl
  rotate_left
  · simp only [Act.put, List.setIfInBounds_toArray, List.set_cons_zero, List.set_cons_succ, i64_w, i32_w]
    rfl
  refine pure_ (i := 4) (N := some 77) (v := ?_) (a' := ?_) #[true, true, false, true, true, false, false, false, false, false, false, false, false] rfl rfl (by kernel_rfl) (fun _ _ _ h => h) (Or.inl ⟨by rfl, ?_⟩) ?_ ?_
  rotate_left
  · intro w'
    go_simp
    with_reducible rfl
  rotate_left
  · simp only [Act.put, List.setIfInBounds_toArray, List.set_cons_zero, List.set_cons_succ, i64_w, i32_w]
    rfl
  refine pure_ (i := 6) (N := some 79) (v := ?_) (a' := ?_) #[true, true, false, true, true, false, true, false, false, false, false, false, false] rfl rfl (by kernel_rfl) (fun _ _ _ h => h) (Or.inl ⟨by rfl, ?_⟩) ?_ ?_
  rotate_left
  · intro w'
    go_simp
    with_reducible rfl
  rotate_left
  · simp only [Act.put, List.setIfInBounds_toArray, List.set_cons_zero, List.set_cons_succ, i64_w, i32_w]
    rfl
  refine pure_ (i := 8) (N := some 81) (v := ?_) (a' := ?_) #[true, true, false, true, true, false, true, false, true, false, false, false, false] rfl rfl (by kernel_rfl) (fun _ _ _ h => h) (Or.inl ⟨by rfl, ?_⟩) ?_ ?_
  rotate_left
  · intro w'
    go_simp
    with_reducible rfl
  rotate_left
  · simp only [Act.put, List.setIfInBounds_toArray, List.set_cons_zero, List.set_cons_succ, i64_w, i32_w]
    rfl
  refine pure_ (i := 9) (N := some 82) (v := ?_) (a' := ?_) #[true, true, false, true, true, false, true, false, true, true, false, false, false] rfl rfl (by kernel_rfl) (fun _ _ _ h => h) (Or.inl ⟨by rfl, ?_⟩) ?_ ?_
  rotate_left
  · intro w'
    go_simp
    with_reducible rfl
  rotate_left
  · simp only [Act.put, List.setIfInBounds_toArray, List.set_cons_zero, List.set_cons_succ, i64_w, i32_w]
    rfl
  refine take_ (i := 5) (N := some 78) (v := ?_) (a' := ?_) #[true, true, false, true, true, true, true, false, true, true, false, false, false] rfl rfl (by kernel_rfl) (fun _ _ _ h => h) (Or.inl ⟨by rfl, ?_⟩) hHeld ?_ ?_
  rotate_left
  · rintro w' ⟨s0, s1⟩
    go_simp
    with_reducible rfl
  rotate_left
  · simp only [Act.put, List.setIfInBounds_toArray, List.set_cons_zero, List.set_cons_succ, i64_w, i32_w]
    rfl
  refine pure_ (i := 7) (N := some 80) (v := ?_) (a' := ?_) #[true, true, false, true, true, true, true, true, true, true, false, false, false] rfl rfl (by kernel_rfl) (fun _ _ _ h => h) (Or.inl ⟨by rfl, ?_⟩) ?_ ?_
  rotate_left
  · intro w'
    go_simp
    with_reducible rfl
  rotate_left
  · simp only [Act.put, List.setIfInBounds_toArray, List.set_cons_zero, List.set_cons_succ, i64_w, i32_w]
    rfl
  refine one_ (i := 2) (N := some 75) #[true, true, true, true, true, true, true, true, true, true, false, false, false] rfl rfl (by kernel_rfl) (by decide) (fun K hK => ?_)
  refine goes_ Tryd.func55 (by kernel_rfl) rfl #[.slice (some ⟨ad.block, ad.off + 5, none⟩) (L - 5) (c - 5)] (by rfl) rfl rfl (by simp only [List.map_toArray, List.map_cons, List.map_nil]; rfl) ?_
  with_reducible refine ((H.out.get5 _ (HCar.out _ hHeld.1).1)).mono ?_
  rintro e w7 ⟨rfl, hd⟩
  refine ⟨_, rfl, ?_⟩
  have hd7 := HD6d.out.trans (hd.below.mono HD6d.out.size)
  have x13p := H.out.x13 w7 (HCar.out _ hd7).1
  have f0p : w7.cell? ⟨ge, 0, none⟩ = some (.int .u8 0) := (blk_cell (HCar.out _ hd7).2 0).trans rfl
  have f1p : w7.cell? ⟨ge, 1, none⟩ = some (.slice none 0 0) := (blk_cell (HCar.out _ hd7).2 1).trans rfl
  have y0p : w7.frozen? ⟨ge, 0, none⟩ = false := blk_frozen (HCar.out _ hd7).2 0
  have y1p : w7.frozen? ⟨ge, 1, none⟩ = false := blk_frozen (HCar.out _ hd7).2 1
  have HO7 := Aside0.mk (own_move HO6.out (fun k hk => hd.below.block k (own_lt HO6.out k hk)))
  have HD7 := Aside0.mk hd7
  clear hd hd7
  refine hK.out _ _ ⟨HD7.out, x13p⟩ (fun hHeld => ?_)
  clear hK K
  refine norm_ (a' := ?_) ?_ ?_
  rotate_left
  · show Act.put _ (some 75) _ = _
    simp only [Act.put, List.setIfInBounds_toArray, List.set_cons_zero, List.set_cons_succ, i64_w, i32_w]
    rfl
  refine pure_ (i := 10) (N := some 4) (v := ?_) (a' := ?_) #[true, true, true, true, true, true, true, true, true, true, true, false, false] rfl rfl (by kernel_rfl) (fun _ _ _ h => h) (Or.inl ⟨by rfl, ?_⟩) ?_ ?_
  rotate_left
  · intro w'
    go_simp
    with_reducible rfl
  rotate_left
  · simp only [Act.put, List.setIfInBounds_toArray, List.set_cons_zero, List.set_cons_succ, i64_w, i32_w]
    rfl
  refine last_ (i := 11) (N := none) #[true, true, true, true, true, true, true, true, true, true, true, true, false] rfl rfl (by kernel_rfl) (by decide) (fun K hK => ?_)
  refine skip_ (w1 := ?_) (by rfl) rfl ?_ ?_
  rotate_left
  · go_simp
    rfl
  refine hK.out _ _ ?_
  clear hK K
  refine pure_ (i := 12) (N := some 6) (v := ?_) (a' := ?_) #[true, true, true, true, true, true, true, true, true, true, true, true, true] rfl rfl (by kernel_rfl) (fun _ _ _ h => h) (Or.inl ⟨by rfl, ?_⟩) ?_ ?_
  rotate_left
  · intro w'
    go_simp
    with_reducible rfl
  rotate_left
  · simp only [Act.put, List.setIfInBounds_toArray, List.set_cons_zero, List.set_cons_succ, i64_w, i32_w]
    rfl
  refine done_ (by kernel_rfl) ?_
  go_wp2
  refine bodyPost_ret (res_whole rfl rfl rfl (blk_set (blk_set (HCar.out _ HD7.out).2 0 _) 1 _)) rfl ?_
  obtain ⟨e1, e2⟩ := whole_end HGE.out HB1.out (blk_lt HGB.out) HD7.out HO7.out (.int .u8 0) (.slice (some ⟨W5.heap.size, 0, none⟩) n n)
  have hbl := H.out.bl HLE.out
  have h5 := H.out.g5n
  refine ⟨.slice (some ⟨W5.heap.size, 0, none⟩) n n, ?_, by rw [hbl]; exact e1, e2⟩
  have hw : wrap64 (14 + (n : Int) + 4) = 14 + (n : Int) + 4 := by unfold wrap64; omega
  rw [hw, show ((g5.toNat : Nat) : Int) = g5 by omega, show ((18 + n : Nat) : Int) = 14 + (n : Int) + 4 by omega]
  first | done | rfl
set_option maxRecDepth 100000 in
set_option maxHeartbeats 4000000 in
theorem whole_badA (ad : Addr) (c L : Nat) (num : Int) (z13 : Int) (n : Nat) (g5 gs sm : Int) (body : List Int) (w : World) (h : WhIn w ad c L 82 z13 n num g5 gs sm body) (hn0 : 0 ≤ num) (hn : num < 4294967296) (e0 : ¬ num = 0) (c1 : n ≤ 1048576) (c2 : 18 + n ≤ L) (es : ¬ gs = sm) :
    Calls Tryd.prog 43 #[.slice (some ad) L c, .int .i64 num] w fun e w' => WholePost w w' e none := by
  have ds : decide (gs = sm) = false := decide_eq_false es
  have ds' : (gs != sm) = true := by simp [es]
  clear es
  have HG := blk_new w (.cells #[.int .u8 0, .slice none 0 0] 37)
  have HB := below_alloc (Below.refl w.heap.size w) (.cells #[.int .u8 0, .slice none 0 0] 37)
  have H := Aside0.mk h
  have n0 : (0 : Int) ≤ num := hn0
  have n1 : num < 4294967296 := hn
  have d0 : decide (num = 0) = false := decide_eq_false e0
  have d0' : (num == 0) = false := by simp [e0]
  have q0 : (0 : Int) < (L : Int) := by omega
  have q1 : (1 : Int) ≤ (L : Int) := by omega
  have q9 : (9 : Int) ≤ (L : Int) := by omega
  have q5 : (5 : Int) ≤ (L : Int) := by omega
  have hcap := h.cap
  have s1 : ¬ c = 1 := by omega
  have s9 : ¬ c = 9 := by omega
  have s5 : ¬ c = 5 := by omega
  have s14 : ¬ c = 14 := by omega
  have q18 : decide ((L : Int) < 18) = false := decide_eq_false (by omega)
  have q18' : decide (L < 18) = false := decide_eq_false (by omega)
  obtain ⟨W1, hW1⟩ : ∃ W1, w.alloc (.cells #[.int .u8 0, .slice none 0 0] 37) = W1 := ⟨_, rfl⟩
  obtain ⟨ge, hge⟩ : ∃ ge, ge = w.heap.size := ⟨_, rfl⟩
  rw [hW1] at HG HB
  rw [← hge] at HG
  have HW := Aside0.mk hW1
  have HGE := Aside0.mk hge
  have HB1 := Aside0.mk HB
  have hcar : ∀ W, Below W1.heap.size W1 W → Below w.heap.size w W ∧ W.heap[ge]? = some (.cells #[.int .u8 0, .slice none 0 0] 37 (0, 0)) := fun W hb => ⟨HB.trans (hb.mono HB.size), (hb.block ge (blk_lt HG)).trans HG⟩
  have HCar := Aside0.mk hcar
  have HGB := Aside0.mk HG
  have x0 := h.x0 W1 HB
  have m0 : (0 : Int) ≤ (n : Int) := by omega
  have m3 : (n : Int) ≤ 1048576 := by omega
  have lL : (L : Int) ≤ 140737488351232 := by have := h.len; omega
  have HLE := Aside0.mk c2
  have d1 : decide ((1048576 : Int) < (n : Int)) = false := decide_eq_false (by omega)
  have d2 : decide ((L : Int) - 14 - 4 < (n : Int)) = false := decide_eq_false (by omega)
  have r1 : (14 : Int) + (n : Int) ≤ (L : Int) := by omega
  have r2 : (14 : Int) + (n : Int) ≤ (c : Int) := by omega
  have r3 : ¬ c = 14 + n := by omega
  have r5 : (13 : Int) < (L : Int) := by omega
  have r6 : (14 : Int) ≤ (L : Int) := by omega
  have r7 : (14 : Int) ≤ (c : Int) := by omega
  have HN := Aside0.mk h.n32
  obtain ⟨i0, hi, hzz⟩ := Option.map_eq_some_iff.1 infoB
  simp only [Prod.mk.injEq] at hzz
  obtain ⟨hz0, hz1, hz2⟩ := hzz
  have HIN : Aside0 ((Tryd.prog.info? 5).map (·.size) = some 1) := ⟨by rw [hi]; exact congrArg some hz1⟩
  have hmk : ∀ W : World, (Instr.makeSlice 29 (.int .u32 (n : Int)) (.int .u32 (n : Int))).run Tryd.prog W = .ok (.slice (some ⟨W.heap.size, 0, none⟩) n n) (W.alloc (.cells (madeCells #[.int .u8 0] n) 5)) := run_make_row' 29 5 (.int .u8 0) 1 Tryd.underlying29 infoB rfl .u32 .u32 n (by omega) (by omega)
  have TM_ := Aside0.mk (show ((14 : Int) + (n : Int)).toNat - 14 = n by omega)
  have TN_ := Aside0.mk (show ((14 : Int) + (n : Int)).toNat = 14 + n by omega)
  clear hi hz0 hz1 hz2 c1 c2 hcap h hcar HG HB hW1 hge hn hn0 e0
  go_enter Tryd.func43, Tryd.ntmps43
  go_upto_region 1 with fail
  rw [HW.out, ← HGE.out]
  have HT1 := Aside0.mk trivial
  go_upto_region 7 with (first
    | (go_at_call 55; have q_ := HT1.out; clear q_ HT1; refine (H.out.get1 _ HB1.out).mono ?_; rintro e w2 ⟨rfl, hd⟩; obtain ⟨hb2, hg2⟩ := HCar.out w2 hd.below; have HD2 := Aside0.mk hd.below; have HB2 := Aside0.mk hb2; have HG2 := Aside0.mk hg2; have HT2 := Aside0.mk trivial; clear hd hb2 hg2)
    | (go_at_call 55; have q_ := HT2.out; clear q_ HT2; refine (H.out.get9 _ HB2.out).mono ?_; rintro e w3 ⟨rfl, hd⟩; obtain ⟨hb3, hg3⟩ := HCar.out w3 (HD2.out.trans (hd.below.mono HD2.out.size)); have x13 := H.out.x13 w3 hb3; have HD3 := Aside0.mk (HD2.out.trans (hd.below.mono HD2.out.size)); have HB3 := Aside0.mk hb3; have HG3 := Aside0.mk hg3; have f0 := (blk_cell hg3 0).trans rfl; have f1 := (blk_cell hg3 1).trans rfl; have y0 := blk_frozen hg3 0; have y1 := blk_frozen hg3 1; have HT3 := Aside0.mk trivial; clear hd hb3 hg3))
  have HDq : Aside0 (∀ k, Below W1.heap.size W1 (w3.drewN k)) := ⟨fun k => HD3.out.trans (((Drawn0.refl w3).step k).below.mono HD3.out.size)⟩
  have HBq : Aside0 (∀ k, Below w.heap.size w (w3.drewN k)) := ⟨fun k => (HCar.out _ (HDq.out k)).1⟩
  clear x13 f0 f1 y0 y1
  go_quiet (first
    | (go_at_call 55; refine Calls.quiet_of ((H.out.getS HLE.out _ (HBq.out _)).mono fun _ _ h_ => ⟨h_.1, h_.2.out⟩))
    | (go_at_call 39; (try rw [TN_.out]); refine Calls.quiet_of ((H.out.sum HLE.out _ (HBq.out _)).mono fun _ _ h_ => ⟨h_.1, h_.2.out⟩)))
  generalize hW5 : w3.drewN _ = W5
  have hd5 : Below W1.heap.size W1 W5 := by rw [← hW5]; exact HDq.out _
  have HD5 := Aside0.mk hd5
  have HB5 := Aside0.mk (HCar.out _ hd5).1
  have f0 : W5.cell? ⟨ge, 0, none⟩ = some (.int .u8 0) := (blk_cell (HCar.out _ hd5).2 0).trans rfl
  have f1 : W5.cell? ⟨ge, 1, none⟩ = some (.slice none 0 0) := (blk_cell (HCar.out _ hd5).2 1).trans rfl
  have y0 : W5.frozen? ⟨ge, 0, none⟩ = false := blk_frozen (HCar.out _ hd5).2 0
  have y1 : W5.frozen? ⟨ge, 1, none⟩ = false := blk_frozen (HCar.out _ hd5).2 1
  clear hd5 hW5
  clear d1 d2 m3 lL m0 q0 q5 q1 q9 q18 q18' s1 s9 s5 s14 r1 r2 r3 r5 r6 r7 x0 hmk d0 d0' n0 n1
  go_wp2
  refine bodyPost_ret (res_whole rfl rfl rfl (blk_set (blk_set (HCar.out _ HD5.out).2 0 _) 1 _)) rfl ?_
  exact ⟨rfl, (HB5.out.setCell (Nat.le_of_eq HGE.out.symm) _).setCell (Nat.le_of_eq HGE.out.symm) _⟩
set_option maxRecDepth 100000 in
set_option maxHeartbeats 4000000 in
theorem whole_badB (ad : Addr) (c L : Nat)  (n : Nat) (g5 gs sm : Int) (body : List Int) (w : World) (h : WhIn w ad c L 82 0 n 0 g5 gs sm body) (c1 : n ≤ 1048576) (c2 : 18 + n ≤ L) (es : ¬ gs = sm) :
    Calls Tryd.prog 43 #[.slice (some ad) L c, .int .i64 0] w fun e w' => WholePost w w' e none := by
  have ds : decide (gs = sm) = false := decide_eq_false es
  have ds' : (gs != sm) = true := by simp [es]
  clear es
  have HG := blk_new w (.cells #[.int .u8 0, .slice none 0 0] 37)
  have HB := below_alloc (Below.refl w.heap.size w) (.cells #[.int .u8 0, .slice none 0 0] 37)
  have H := Aside0.mk h
  have q0 : (0 : Int) < (L : Int) := by omega
  have q1 : (1 : Int) ≤ (L : Int) := by omega
  have q9 : (9 : Int) ≤ (L : Int) := by omega
  have q5 : (5 : Int) ≤ (L : Int) := by omega
  have hcap := h.cap
  have s1 : ¬ c = 1 := by omega
  have s9 : ¬ c = 9 := by omega
  have s5 : ¬ c = 5 := by omega
  have s14 : ¬ c = 14 := by omega
  have q18 : decide ((L : Int) < 18) = false := decide_eq_false (by omega)
  have q18' : decide (L < 18) = false := decide_eq_false (by omega)
  obtain ⟨W1, hW1⟩ : ∃ W1, w.alloc (.cells #[.int .u8 0, .slice none 0 0] 37) = W1 := ⟨_, rfl⟩
  obtain ⟨ge, hge⟩ : ∃ ge, ge = w.heap.size := ⟨_, rfl⟩
  rw [hW1] at HG HB
  rw [← hge] at HG
  have HW := Aside0.mk hW1
  have HGE := Aside0.mk hge
  have HB1 := Aside0.mk HB
  have hcar : ∀ W, Below W1.heap.size W1 W → Below w.heap.size w W ∧ W.heap[ge]? = some (.cells #[.int .u8 0, .slice none 0 0] 37 (0, 0)) := fun W hb => ⟨HB.trans (hb.mono HB.size), (hb.block ge (blk_lt HG)).trans HG⟩
  have HCar := Aside0.mk hcar
  have HGB := Aside0.mk HG
  have x0 := h.x0 W1 HB
  have m0 : (0 : Int) ≤ (n : Int) := by omega
  have m3 : (n : Int) ≤ 1048576 := by omega
  have lL : (L : Int) ≤ 140737488351232 := by have := h.len; omega
  have HLE := Aside0.mk c2
  have d1 : decide ((1048576 : Int) < (n : Int)) = false := decide_eq_false (by omega)
  have d2 : decide ((L : Int) - 14 - 4 < (n : Int)) = false := decide_eq_false (by omega)
  have r1 : (14 : Int) + (n : Int) ≤ (L : Int) := by omega
  have r2 : (14 : Int) + (n : Int) ≤ (c : Int) := by omega
  have r3 : ¬ c = 14 + n := by omega
  have r5 : (13 : Int) < (L : Int) := by omega
  have r6 : (14 : Int) ≤ (L : Int) := by omega
  have r7 : (14 : Int) ≤ (c : Int) := by omega
  have HN := Aside0.mk h.n32
  obtain ⟨i0, hi, hzz⟩ := Option.map_eq_some_iff.1 infoB
  simp only [Prod.mk.injEq] at hzz
  obtain ⟨hz0, hz1, hz2⟩ := hzz
  have HIN : Aside0 ((Tryd.prog.info? 5).map (·.size) = some 1) := ⟨by rw [hi]; exact congrArg some hz1⟩
  have hmk : ∀ W : World, (Instr.makeSlice 29 (.int .u32 (n : Int)) (.int .u32 (n : Int))).run Tryd.prog W = .ok (.slice (some ⟨W.heap.size, 0, none⟩) n n) (W.alloc (.cells (madeCells #[.int .u8 0] n) 5)) := run_make_row' 29 5 (.int .u8 0) 1 Tryd.underlying29 infoB rfl .u32 .u32 n (by omega) (by omega)
  have TM_ := Aside0.mk (show ((14 : Int) + (n : Int)).toNat - 14 = n by omega)
  have TN_ := Aside0.mk (show ((14 : Int) + (n : Int)).toNat = 14 + n by omega)
  clear hi hz0 hz1 hz2 c1 c2 hcap h hcar HG HB hW1 hge
  go_enter Tryd.func43, Tryd.ntmps43
  go_upto_region 1 with fail
  rw [HW.out, ← HGE.out]
  have HT1 := Aside0.mk trivial
  go_upto_region 7 with (first
    | (go_at_call 55; have q_ := HT1.out; clear q_ HT1; refine (H.out.get1 _ HB1.out).mono ?_; rintro e w2 ⟨rfl, hd⟩; obtain ⟨hb2, hg2⟩ := HCar.out w2 hd.below; have HD2 := Aside0.mk hd.below; have HB2 := Aside0.mk hb2; have HG2 := Aside0.mk hg2; have HT2 := Aside0.mk trivial; clear hd hb2 hg2)
    | (go_at_call 55; have q_ := HT2.out; clear q_ HT2; refine (H.out.get9 _ HB2.out).mono ?_; rintro e w3 ⟨rfl, hd⟩; obtain ⟨hb3, hg3⟩ := HCar.out w3 (HD2.out.trans (hd.below.mono HD2.out.size)); have x13 := H.out.x13 w3 hb3; have HD3 := Aside0.mk (HD2.out.trans (hd.below.mono HD2.out.size)); have HB3 := Aside0.mk hb3; have HG3 := Aside0.mk hg3; have f0 := (blk_cell hg3 0).trans rfl; have f1 := (blk_cell hg3 1).trans rfl; have y0 := blk_frozen hg3 0; have y1 := blk_frozen hg3 1; have HT3 := Aside0.mk trivial; clear hd hb3 hg3))
  have HDq : Aside0 (∀ k, Below W1.heap.size W1 (w3.drewN k)) := ⟨fun k => HD3.out.trans (((Drawn0.refl w3).step k).below.mono HD3.out.size)⟩
  have HBq : Aside0 (∀ k, Below w.heap.size w (w3.drewN k)) := ⟨fun k => (HCar.out _ (HDq.out k)).1⟩
  clear x13 f0 f1 y0 y1
  go_quiet (first
    | (go_at_call 55; refine Calls.quiet_of ((H.out.getS HLE.out _ (HBq.out _)).mono fun _ _ h_ => ⟨h_.1, h_.2.out⟩))
    | (go_at_call 39; (try rw [TN_.out]); refine Calls.quiet_of ((H.out.sum HLE.out _ (HBq.out _)).mono fun _ _ h_ => ⟨h_.1, h_.2.out⟩)))
  generalize hW5 : w3.drewN _ = W5
  have hd5 : Below W1.heap.size W1 W5 := by rw [← hW5]; exact HDq.out _
  have HD5 := Aside0.mk hd5
  have HB5 := Aside0.mk (HCar.out _ hd5).1
  have f0 : W5.cell? ⟨ge, 0, none⟩ = some (.int .u8 0) := (blk_cell (HCar.out _ hd5).2 0).trans rfl
  have f1 : W5.cell? ⟨ge, 1, none⟩ = some (.slice none 0 0) := (blk_cell (HCar.out _ hd5).2 1).trans rfl
  have y0 : W5.frozen? ⟨ge, 0, none⟩ = false := blk_frozen (HCar.out _ hd5).2 0
  have y1 : W5.frozen? ⟨ge, 1, none⟩ = false := blk_frozen (HCar.out _ hd5).2 1
  clear hd5 hW5
  clear d1 d2 m3 lL m0 q0 q5 q1 q9 q18 q18' s1 s9 s5 s14 r1 r2 r3 r5 r6 r7 x0 hmk
  go_wp2
  refine bodyPost_ret (res_whole rfl rfl rfl (blk_set (blk_set (HCar.out _ HD5.out).2 0 _) 1 _)) rfl ?_
  exact ⟨rfl, (HB5.out.setCell (Nat.le_of_eq HGE.out.symm) _).setCell (Nat.le_of_eq HGE.out.symm) _⟩
set_option maxRecDepth 100000 in
set_option maxHeartbeats 4000000 in
theorem whole_long (ad : Addr) (c L : Nat) (num z0 z13 : Int) (n : Nat) (g1 g5 gs sm : Int) (body : List Int) (w : World) (h : WhIn w ad c L z0 z13 n g1 g5 gs sm body) (hn0 : 0 ≤ num) (hn : num < 4294967296) :
    Calls Tryd.prog 43 #[.slice (some ad) L c, .int .i64 num] w fun e w' => WholePost w w' e (if z0 ≠ 82 ∨ g1 ≠ num then none else if n > 1048576 ∨ n > L - 18 ∨ (num = 0 ∧ z13 ≠ 0) then none else if gs ≠ sm then none else some (g5.toNat, ⟨z13, body⟩, 18 + n)) := by
  have HG := blk_new w (.cells #[.int .u8 0, .slice none 0 0] 37)
  have HB := below_alloc (Below.refl w.heap.size w) (.cells #[.int .u8 0, .slice none 0 0] 37)
  have H := Aside0.mk h
  have n0 : (0 : Int) ≤ num := hn0
  have n1 : num < 4294967296 := hn
  have q0 : (0 : Int) < (L : Int) := by have := h.l18; omega
  have q1 : (1 : Int) ≤ (L : Int) := by have := h.l18; omega
  have q9 : (9 : Int) ≤ (L : Int) := by have := h.l18; omega
  have s1 : ¬ c = 1 := by have := h.l18; have := h.cap; omega
  have s9 : ¬ c = 9 := by have := h.l18; have := h.cap; omega
  have s5 : ¬ c = 5 := by have := h.l18; have := h.cap; omega
  have s14 : ¬ c = 14 := by have := h.l18; have := h.cap; omega
  have q18 : decide ((L : Int) < 18) = false := decide_eq_false (by have := h.l18; omega)
  have q18' : decide (L < 18) = false := decide_eq_false (by have := h.l18; omega)
  obtain ⟨W1, hW1⟩ : ∃ W1, w.alloc (.cells #[.int .u8 0, .slice none 0 0] 37) = W1 := ⟨_, rfl⟩
  obtain ⟨ge, hge⟩ : ∃ ge, ge = w.heap.size := ⟨_, rfl⟩
  rw [hW1] at HG HB
  rw [← hge] at HG
  have HW := Aside0.mk hW1
  have HGE := Aside0.mk hge
  have HB1 := Aside0.mk HB
  have hcar : ∀ W, Below W1.heap.size W1 W → Below w.heap.size w W ∧ W.heap[ge]? = some (.cells #[.int .u8 0, .slice none 0 0] 37 (0, 0)) := fun W hb => ⟨HB.trans (hb.mono HB.size), (hb.block ge (blk_lt HG)).trans HG⟩
  have HCar := Aside0.mk hcar
  have HGB := Aside0.mk HG
  have x0 := h.x0 W1 HB
  clear h hcar HG HB hW1 hge hn hn0
  by_cases h0 : z0 = 82
  · subst h0
    by_cases h1 : g1 = num
    · rw [if_neg (by rintro (hq | hq); exact hq rfl; exact hq h1)]
      subst h1
      have HN := Aside0.mk H.out.n32
      have m0 : (0 : Int) ≤ (n : Int) := by omega
      have m1 : (n : Int) < 4294967296 := by have := HN.out; omega
      have lL : (L : Int) ≤ 140737488351232 := by have := H.out.len; omega
      by_cases c1 : n > 1048576
      · rw [if_pos (.inl c1)]
        have d1 : decide ((1048576 : Int) < (n : Int)) = true := decide_eq_true (by omega)
        have d1' : decide (1048576 < n) = true := decide_eq_true c1
        clear c1 lL m0 m1
        go_enter Tryd.func43, Tryd.ntmps43
        go_upto_region 1 with fail
        rw [HW.out, ← HGE.out]
        have HT1 := Aside0.mk trivial
        go_wp2_with (first
          | (go_at_call 55; have q_ := HT1.out; clear q_ HT1; refine (H.out.get1 _ HB1.out).mono ?_; rintro e w2 ⟨rfl, hd⟩; obtain ⟨hb2, hg2⟩ := HCar.out w2 hd.below; have HD2 := Aside0.mk hd.below; have HB2 := Aside0.mk hb2; have HG2 := Aside0.mk hg2; have HT2 := Aside0.mk trivial; clear hd hb2 hg2)
          | (go_at_call 55; have q_ := HT2.out; clear q_ HT2; refine (H.out.get9 _ HB2.out).mono ?_; rintro e w3 ⟨rfl, hd⟩; obtain ⟨hb3, hg3⟩ := HCar.out w3 (HD2.out.trans (hd.below.mono HD2.out.size)); have x13 := H.out.x13 w3 hb3; have HD3 := Aside0.mk (HD2.out.trans (hd.below.mono HD2.out.size)); have HB3 := Aside0.mk hb3; have HG3 := Aside0.mk hg3; have f0 := (blk_cell hg3 0).trans rfl; have f1 := (blk_cell hg3 1).trans rfl; have y0 := blk_frozen hg3 0; have y1 := blk_frozen hg3 1; have HT3 := Aside0.mk trivial; clear hd hb3 hg3))
        refine bodyPost_ret (res_whole rfl rfl rfl (blk_set (blk_set HG3.out 0 _) 1 _)) rfl ?_
        exact ⟨rfl, (HB3.out.setCell (Nat.le_of_eq HGE.out.symm) _).setCell (Nat.le_of_eq HGE.out.symm) _⟩
      have d1 : decide ((1048576 : Int) < (n : Int)) = false := decide_eq_false (by omega)
      have d1' : decide (1048576 < n) = false := decide_eq_false c1
      have C1 := Aside0.mk c1
      by_cases c2 : n > L - 18
      · rw [if_pos (.inr (.inl c2))]
        have w1 : wrap64 ((L : Int) - 14) = (L : Int) - 14 := by unfold wrap64; omega
        have w2 : wrap64 ((L : Int) - 14 - 4) = (L : Int) - 14 - 4 := by unfold wrap64; omega
        have d2 : (L : Int) - 14 - 4 < (n : Int) := by have := H.out.l18; omega
        have wn : wrap64 (n : Int) = (n : Int) := by unfold wrap64; omega
        clear c1 c2 lL m0 m1
        go_enter Tryd.func43, Tryd.ntmps43
        go_upto_region 1 with fail
        rw [HW.out, ← HGE.out]
        have HT1 := Aside0.mk trivial
        go_wp2_with (first
          | (go_at_call 55; have q_ := HT1.out; clear q_ HT1; refine (H.out.get1 _ HB1.out).mono ?_; rintro e w2 ⟨rfl, hd⟩; obtain ⟨hb2, hg2⟩ := HCar.out w2 hd.below; have HD2 := Aside0.mk hd.below; have HB2 := Aside0.mk hb2; have HG2 := Aside0.mk hg2; have HT2 := Aside0.mk trivial; clear hd hb2 hg2)
          | (go_at_call 55; have q_ := HT2.out; clear q_ HT2; refine (H.out.get9 _ HB2.out).mono ?_; rintro e w3 ⟨rfl, hd⟩; obtain ⟨hb3, hg3⟩ := HCar.out w3 (HD2.out.trans (hd.below.mono HD2.out.size)); have x13 := H.out.x13 w3 hb3; have HD3 := Aside0.mk (HD2.out.trans (hd.below.mono HD2.out.size)); have HB3 := Aside0.mk hb3; have HG3 := Aside0.mk hg3; have f0 := (blk_cell hg3 0).trans rfl; have f1 := (blk_cell hg3 1).trans rfl; have y0 := blk_frozen hg3 0; have y1 := blk_frozen hg3 1; have HT3 := Aside0.mk trivial; clear hd hb3 hg3))
        refine bodyPost_ret (res_whole rfl rfl rfl (blk_set (blk_set HG3.out 0 _) 1 _)) rfl ?_
        exact ⟨rfl, (HB3.out.setCell (Nat.le_of_eq HGE.out.symm) _).setCell (Nat.le_of_eq HGE.out.symm) _⟩
      have C2 := Aside0.mk c2
      have nL : 18 + n ≤ L := by have := H.out.l18; omega
      have hc1 : n ≤ 1048576 := by omega
      by_cases e0 : g1 = 0
      · subst e0
        by_cases e13 : z13 = 0
        · subst e13
          rw [if_neg (by intro hq; rcases hq with hq | hq | hq; exact C1.out hq; exact C2.out hq; exact hq.2 rfl)]
          by_cases es : gs = sm
          · subst es
            rw [if_neg (by simp)]
            exact whole_goodB ad c L n g5 gs body w H.out hc1 nL
          · rw [if_pos es]
            exact whole_badB ad c L n g5 gs sm body w H.out hc1 nL es
        · rw [if_pos (.inr (.inr ⟨rfl, e13⟩))]
          have d13 : decide (z13 = 0) = false := decide_eq_false e13
          have d13' : (z13 != 0) = true := by simp [e13]
          have r5 : (13 : Int) < (L : Int) := by omega
          have d2 : decide ((L : Int) - 14 - 4 < (n : Int)) = false := decide_eq_false (by omega)
          have m3 : (n : Int) ≤ 1048576 := by omega
          clear e13 d1' C1 C2 nL hc1 m1 c1 c2
          go_enter Tryd.func43, Tryd.ntmps43
          go_upto_region 1 with fail
          rw [HW.out, ← HGE.out]
          have HT1 := Aside0.mk trivial
          go_wp2_with (first
            | (go_at_call 55; have q_ := HT1.out; clear q_ HT1; refine (H.out.get1 _ HB1.out).mono ?_; rintro e w2 ⟨rfl, hd⟩; obtain ⟨hb2, hg2⟩ := HCar.out w2 hd.below; have HD2 := Aside0.mk hd.below; have HB2 := Aside0.mk hb2; have HG2 := Aside0.mk hg2; have HT2 := Aside0.mk trivial; clear hd hb2 hg2)
            | (go_at_call 55; have q_ := HT2.out; clear q_ HT2; refine (H.out.get9 _ HB2.out).mono ?_; rintro e w3 ⟨rfl, hd⟩; obtain ⟨hb3, hg3⟩ := HCar.out w3 (HD2.out.trans (hd.below.mono HD2.out.size)); have x13 := H.out.x13 w3 hb3; have HD3 := Aside0.mk (HD2.out.trans (hd.below.mono HD2.out.size)); have HB3 := Aside0.mk hb3; have HG3 := Aside0.mk hg3; have f0 := (blk_cell hg3 0).trans rfl; have f1 := (blk_cell hg3 1).trans rfl; have y0 := blk_frozen hg3 0; have y1 := blk_frozen hg3 1; have HT3 := Aside0.mk trivial; clear hd hb3 hg3))
          refine bodyPost_ret (res_whole rfl rfl rfl (blk_set (blk_set HG3.out 0 _) 1 _)) rfl ?_
          exact ⟨rfl, (HB3.out.setCell (Nat.le_of_eq HGE.out.symm) _).setCell (Nat.le_of_eq HGE.out.symm) _⟩
      · rw [if_neg (by intro hq; rcases hq with hq | hq | hq; exact C1.out hq; exact C2.out hq; exact e0 hq.1)]
        by_cases es : gs = sm
        · subst es
          rw [if_neg (by simp)]
          exact whole_goodA ad c L g1 z13 n g5 gs body w H.out n0 n1 e0 hc1 nL
        · rw [if_pos es]
          exact whole_badA ad c L g1 z13 n g5 gs sm body w H.out n0 n1 e0 hc1 nL es
    · rw [if_pos (.inr h1)]
      have d1 : decide (g1 = num) = false := decide_eq_false (by omega)
      have d1' : (g1 != num) = true := by simp [h1]
      clear h1
      go_enter Tryd.func43, Tryd.ntmps43
      go_upto_region 1 with fail
      rw [HW.out, ← HGE.out]
      go_wp2_with (go_at_call 55; refine (H.out.get1 _ HB1.out).mono ?_; rintro e w2 ⟨rfl, hd⟩; obtain ⟨hb2, hg2⟩ := HCar.out w2 hd.below; have HB2 := Aside0.mk hb2; have HG2 := Aside0.mk hg2; have f0 := (blk_cell hg2 0).trans rfl; have f1 := (blk_cell hg2 1).trans rfl; have y0 := blk_frozen hg2 0; have y1 := blk_frozen hg2 1; clear hd hb2 hg2)
      refine bodyPost_ret (res_whole rfl rfl rfl (blk_set (blk_set HG2.out 0 _) 1 _)) rfl ?_
      exact ⟨rfl, (HB2.out.setCell (Nat.le_of_eq HGE.out.symm) _).setCell (Nat.le_of_eq HGE.out.symm) _⟩
  · rw [if_pos (.inl h0)]
    have d1 : decide (z0 = 82) = false := decide_eq_false h0
    have d1' : (z0 != 82) = true := by simp [h0]
    have f0 := (blk_cell HGB.out 0).trans rfl
    have f1 := (blk_cell HGB.out 1).trans rfl
    have y0 := blk_frozen HGB.out 0
    have y1 := blk_frozen HGB.out 1
    clear h0 n0 n1 q1 q9 s1 s9 s5 s14
    go_enter Tryd.func43, Tryd.ntmps43
    go_upto_region 1 with fail
    rw [HW.out, ← HGE.out]
    go_wp2
    refine bodyPost_ret (res_whole rfl rfl rfl (blk_set (blk_set HGB.out 0 _) 1 _)) rfl ?_
    exact ⟨rfl, (HB1.out.setCell (Nat.le_of_eq HGE.out.symm) _).setCell (Nat.le_of_eq HGE.out.symm) _⟩
theorem add_pos {ad : Addr} {n : Nat} (h : 0 < n) : ad.add n = ⟨ad.block, ad.off + n, none⟩ := by unfold Addr.add; rw [if_neg (by omega)]
theorem reads_take {W : World} {ad : Addr} {xs : List Int} (h : ReadsInt W .u8 (some ad) xs.length xs) (n : Nat) (hl : n ≤ xs.length) : ReadsInt W .u8 (some ad) n (xs.take n) := by
  refine ⟨by rw [List.length_take]; omega, by have := h.2.1; omega, fun h0 => ⟨_, rfl, fun j hj => ?_⟩⟩
  obtain ⟨ad', e, hc⟩ := h.2.2 (by omega)
  cases e
  rw [hc j (by omega), List.getD_eq_getElem?_getD, List.getD_eq_getElem?_getD, List.getElem?_take, if_pos hj]
theorem get32_drop (xs : List Int) (i : Nat) : get32 (xs.drop i) 0 = get32 xs i := by
  unfold get32
  simp [List.getD_eq_getElem?_getD, Nat.add_comm]
theorem get32_at {w : World} {ad : Addr} {c : Nat} {xs : List Int} (hb : Byt xs) (hr : ReadsInt w .u8 (some ad) xs.length xs) (hc : xs.length ≤ c) (i : Nat) (hi : 0 < i) (hl : i + 4 ≤ xs.length) :
    Calls Tryd.prog 55 #[.slice (some ⟨ad.block, ad.off + i, none⟩) (xs.length - i) (c - i)] w fun e w' => e = .returned (.int .u32 (get32 xs i : Nat)) ∧ Drawn0 w w' := by
  have h := reads_drop hr i hi (by omega)
  have hld : (xs.drop i).length = xs.length - i := List.length_drop
  have hf := get32_f (hb.drop i) (by omega)
  rw [get32_drop] at hf
  rw [← hld] at h
  have := drawer_get32.calls (some (ad.add i)) (c - i) (xs.drop i) _ w (Kd.C_of_reads (d := (0 : Int)) (readsInt_of.1 h)) (by omega) hf
  rw [hld, add_pos hi] at this
  exact this
theorem sum_at {w : World} {ad : Addr} {c : Nat} {xs : List Int} (hb : Byt xs) (hr : ReadsInt w .u8 (some ad) xs.length xs) (hc : xs.length ≤ c) (n : Nat) (hl : n ≤ xs.length) (hm : xs.length ≤ 140737488351232) :
    Calls Tryd.prog 39 #[.slice (some ad) n c] w fun e w' => e = .returned (.int .u32 (sumN (xs.take n) : Nat)) ∧ Drawn0 w w' := by
  have h := reads_take hr n hl
  have hlt : (xs.take n).length = n := by rw [List.length_take]; omega
  have hf := sum_f (hb.take n) (by omega)
  have h2 : ReadsInt w .u8 (some ad) (xs.take n).length (xs.take n) := by rw [hlt]; exact h
  have := pack_Sum.calls _ (some ad) c (xs.take n) _ w (Kd.C_of_reads (d := (0 : Int)) (readsInt_of.1 h2)) (by omega) hf
  rw [hlt] at this
  exact this
theorem ite_same {α : Sort _} {p q : Prop} [Decidable p] [Decidable q] {a b c d : α} (h : p ↔ q) (h1 : a = b) (h2 : c = d) : (if p then a else c) = if q then b else d := by
  subst h1 h2
  by_cases hp : p
  · rw [if_pos hp, if_pos (h.1 hp)]
  · rw [if_neg hp, if_neg (fun hq => hp (h.2 hq))]
set_option maxRecDepth 100000 in
set_option maxHeartbeats 4000000 in
theorem whole_short (A : Option Addr) (c L : Nat) (num : Int) (w : World) (hL : L < 18) :
    Calls Tryd.prog 43 #[.slice A L c, .int .i64 num] w fun e w' => WholePost w w' e none := by
  have HG := blk_new w (.cells #[.int .u8 0, .slice none 0 0] 37)
  have HB := below_alloc (Below.refl w.heap.size w) (.cells #[.int .u8 0, .slice none 0 0] 37)
  have q18 : decide ((L : Int) < 18) = true := decide_eq_true (by omega)
  have q18' : decide (L < 18) = true := decide_eq_true hL
  obtain ⟨W1, hW1⟩ : ∃ W1, w.alloc (.cells #[.int .u8 0, .slice none 0 0] 37) = W1 := ⟨_, rfl⟩
  obtain ⟨ge, hge⟩ : ∃ ge, ge = w.heap.size := ⟨_, rfl⟩
  rw [hW1] at HG HB
  rw [← hge] at HG
  have HW := Aside0.mk hW1
  have HGE := Aside0.mk hge
  have HB1 := Aside0.mk HB
  have HGB := Aside0.mk HG
  have f0 := (blk_cell HG 0).trans rfl
  have f1 := (blk_cell HG 1).trans rfl
  have y0 := blk_frozen HG 0
  have y1 := blk_frozen HG 1
  clear HG HB hW1 hge hL
  go_enter Tryd.func43, Tryd.ntmps43
  go_upto_region 1 with fail
  rw [HW.out, ← HGE.out]
  go_wp2
  refine bodyPost_ret (res_whole rfl rfl rfl (blk_set (blk_set HGB.out 0 _) 1 _)) rfl ?_
  exact ⟨rfl, (HB1.out.setCell (Nat.le_of_eq HGE.out.symm) _).setCell (Nat.le_of_eq HGE.out.symm) _⟩
theorem whole_calls (A : Option Addr) (c : Nat) (xs : List Int) (num : Nat) (w : World) (hb : Byt xs) (hr : ReadsInt w .u8 A xs.length xs) (hc : xs.length ≤ c) (hl : xs.length ≤ 140737488351232) (hn : num < 4294967296) :
    Calls Tryd.prog 43 #[.slice A xs.length c, .int .i64 num] w fun e w' => WholePost w w' e (wholeS xs num) := by
  by_cases h18 : xs.length < 18
  · have e : wholeS xs num = none := by unfold wholeS; rw [if_pos (.inl h18)]
    rw [e]
    exact whole_short A c xs.length num w h18
  obtain ⟨ad, rfl, hcell⟩ := hr.2.2 (by omega)
  have hH : WhIn w ad c xs.length (xs.getD 0 0) (xs.getD 13 0) (get32 xs 9) (get32 xs 1 : Nat) (get32 xs 5 : Nat) (get32 xs (14 + get32 xs 9) : Nat) (sumN (xs.take (14 + get32 xs 9)) : Nat) ((xs.drop 14).take (get32 xs 9)) := by
    have hgo : ∀ W, Below w.heap.size w W → ReadsInt W .u8 (some ad) xs.length xs := fun W h => hr.below h
    have hcel : ∀ W, Below w.heap.size w W → ∀ j, j < xs.length → W.cell? (ad.add j) = some (.int .u8 (xs.getD j 0)) := fun W h => by
      obtain ⟨ad', e, hx⟩ := (hgo W h).2.2 (by omega)
      cases e
      exact hx
    refine ⟨by omega, hc, hl, fun W h => ?_, fun W h => ?_, fun W h => get32_at hb (hgo W h) hc 1 (by omega) (by omega), fun W h => get32_at hb (hgo W h) hc 9 (by omega) (by omega), fun W h => get32_at hb (hgo W h) hc 5 (by omega) (by omega), fun hL W h => ?_, fun hL W h => sum_at hb (hgo W h) hc _ (by omega) hl, fun hL => ?_, fun hL W h => ?_, get32_lt hb 9, by omega⟩
    · exact hcel W h 0 (by omega)
    · have := hcel W h 13 (by omega)
      rwa [add_pos (by omega)] at this
    · rw [add_pos (by omega)]
      exact get32_at hb (hgo W h) hc _ (by omega) (by omega)
    · rw [List.length_take, List.length_drop]; omega
    · have h1 := reads_drop (hgo W h) 14 (by omega) (by omega)
      rw [add_pos (by omega), ← List.length_drop] at h1
      exact reads_take h1 _ (by rw [List.length_drop]; omega)
  have := whole_long ad c xs.length num (xs.getD 0 0) (xs.getD 13 0) (get32 xs 9) _ _ _ _ _ w hH (by omega) (by omega)
  refine this.mono fun e w' h => ?_
  have e : (if xs.getD 0 0 ≠ 82 ∨ ((get32 xs 1 : Nat) : Int) ≠ (num : Int) then none else if get32 xs 9 > 1048576 ∨ get32 xs 9 > xs.length - 18 ∨ ((num : Int) = 0 ∧ xs.getD 13 0 ≠ 0) then none else if ((get32 xs (14 + get32 xs 9) : Nat) : Int) ≠ ((sumN (xs.take (14 + get32 xs 9)) : Nat) : Int) then none else some (((get32 xs 5 : Nat) : Int).toNat, (⟨xs.getD 13 0, (xs.drop 14).take (get32 xs 9)⟩ : Rec), 18 + get32 xs 9)) = wholeS xs num := by
    unfold wholeS
    exact ite_same (by omega) rfl (ite_same (by omega) rfl (ite_same (by omega) rfl (by rw [Int.toNat_natCast])))
  rw [← e]
  exact h
end Go.Proofs.YthneomomhoilkaaDoor.PA
end
