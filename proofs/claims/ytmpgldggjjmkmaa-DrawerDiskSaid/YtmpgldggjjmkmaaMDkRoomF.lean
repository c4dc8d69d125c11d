/- A room's list of files in memory, as it grows: each file's bytes with marks behind, the list's own marks. Condition: none. -/
import Derived.Test.YtmpgldggjjmkmaaMDkInts
import Derived.Test.YtmpgldggjjmkmaaMB
import Derived.Test.YtmpgldggjjmkmaaML
namespace Go.Proofs.Ytmpgldggjjmkmaa.PA
open Go.RowKit Go.Maps Go.Proofs.YtmpgldggjjmkmaaW.PrintWords Go.Proofs.YtmpgldggjjmkmaaW.PrintLast Go.Proofs.YtmpgldggjjmkmaaW.PrintMore
set_option linter.unusedVariables false
set_option linter.unusedSimpArgs false
def FRel (M : List (Fl × Value)) (BL : List (Value × List Int)) : Prop := ∀ (j : Nat) (p : Fl × Value), M[j]? = some p → ∃ Fj cj, p.2 = .slice (some ⟨Fj, 0, none⟩) p.1.f1.length (p.1.f1.length + 600) ∧ BL[j]? = some (.slice (some ⟨Fj, 0, none⟩) (p.1.f1.length + 600) cj, p.1.f1)
theorem FRel.snoc {M : List (Fl × Value)} {BL : List (Value × List Int)} (h : FRel M BL) (hl : M.length = BL.length) (f : Fl) (F c : Nat) :
    FRel (M ++ [(f, .slice (some ⟨F, 0, none⟩) f.f1.length (f.f1.length + 600))]) (BL ++ [(.slice (some ⟨F, 0, none⟩) (f.f1.length + 600) c, f.f1)]) := by
  intro j p hp
  by_cases hj : j < M.length
  · rw [List.getElem?_append_left hj] at hp
    obtain ⟨Fj, cj, h1, h2⟩ := h j p hp
    exact ⟨Fj, cj, h1, by rw [List.getElem?_append_left (by omega)]; exact h2⟩
  · rw [List.getElem?_append_right (by omega)] at hp
    obtain ⟨k, hk⟩ : ∃ k, k = j - M.length := ⟨_, rfl⟩
    rw [← hk] at hp
    have hj0 : k = 0 := by
      rcases k with _ | k
      · rfl
      · simp at hp
    subst hj0
    simp only [List.getElem?_cons_zero, Option.some.injEq] at hp
    subst hp
    refine ⟨F, c, rfl, ?_⟩
    rw [List.getElem?_append_right (by omega), show j - BL.length = 0 by omega]; rfl
def markF (k : Nat) : Fl × Value := ({ f0 := ⟨#[]⟩, f1 := [], f2 := markS k }, .slice none 0 0)
def marksF (n : Nat) : List (Fl × Value) := (List.range n).map markF
theorem marksF_two (j : Nat) : marksF (2 * j + 2) = marksF (2 * j) ++ [markF (2 * j), markF (2 * j + 1)] := by
  unfold marksF
  rw [List.range_succ, List.range_succ]
  simp only [List.map_append, List.map_cons, List.map_nil, List.append_assoc, List.cons_append, List.nil_append]
theorem marksF_flat (j : Nat) (M : List (Fl × Value)) : flatL (M ++ marksF (2 * j + 2)) = flatL (M ++ marksF (2 * j)) ++ [.string ⟨#[]⟩, .slice none 0 0, .int .i64 (-7701), .string ⟨#[]⟩, .slice none 0 0, .int .i64 (-7702)] := by
  have h1 : markS (2 * j) = -7701 := by unfold markS; rw [if_pos (by omega)]
  have h2 : markS (2 * j + 1) = -7702 := by unfold markS; rw [if_neg (by omega)]
  rw [marksF_two, ← List.append_assoc, flatL_append]
  simp [flatL, markF, h1, h2]
structure FsI (b : Nat) (w : World) (col : RCol) (wr : World) (col' : RCol) (G : Nat) (cg : Array Value) (fs : List Fl) (i q : Nat) (v5 v0 : Value) (M : List (Fl × Value)) (BL : List (Value × List Int)) : Prop where
  fst : M.map (·.1) = fs.take i
  mlen : M.length = i
  own : wr.ownsRow w.heap.size 74 3 v5 (i + q) (flatL (M ++ marksF q))
  tag : ∀ k, v5.ownBlock = some k → col' k = .tm
  rm : RmB b wr col' v0 BL
  len : BL.length = i
  rel : FRel M BL
  blk : wr.heap[G]? = some (.cells (cg.setIfInBounds 0 v0) 65 (0, 0))
  gtag : col' G = .rm
  ch : Ch b w col wr col' isM
theorem FsI.go {b : Nat} {w wr W : World} {col col' : RCol} {G : Nat} {cg : Array Value} {fs : List Fl} {i q : Nat} {v5 v0 : Value} {M : List (Fl × Value)} {BL : List (Value × List Int)} (h : FsI b w col wr col' G cg fs i q v5 v0 M BL) (hb : Below wr.heap.size wr W) : FsI b w col W col' G cg fs i q v5 v0 M BL :=
  ⟨h.fst, h.mlen, own_move h.own fun k hk => hb.block k (own_lt h.own k hk), h.tag, h.rm.ch (S := fun _ => False) (Ch.of_below hb h.ch.le') (fun h => h), h.len, h.rel, (hb.block G (blk_lt h.blk)).trans h.blk, h.gtag, h.ch.trans (Ch.of_below hb h.ch.le')⟩
theorem FsI.step {b : Nat} {w wr w3 w5 : World} {col col' col1 : RCol} {G F c : Nat} {cg : Array Value} {fs : List Fl} {i : Nat} {v5 v0 v1 v6 : Value} {M : List (Fl × Value)} {BL : List (Value × List Int)} {f : Fl} (h : FsI b w col wr col' G cg fs i 0 v5 v0 M BL) (hf : fs[i]? = some f) (hi : i < fs.length)
    (hch : Ch b wr col' w3 col1 isM) (hrm : RmB b w3 col1 v1 (BL ++ [(.slice (some ⟨F, 0, none⟩) (f.f1.length + 600) c, f.f1)])) (hblk : w3.heap[G]? = some (.cells ((cg.setIfInBounds 0 v0).setIfInBounds 0 v1) 65 (0, 0)))
    (hg : w3.grownBy w5 v5.ownBlock) (hat : v6.ownBlock = v5.ownBlock ∨ ∃ k, v6.ownBlock = some k ∧ w3.heap.size ≤ k)
    (ho : w5.ownsRow w.heap.size 74 3 v6 (i + 1) (flatL M ++ [.string f.f0, .slice (some ⟨F, 0, none⟩) f.f1.length (f.f1.length + 600), .int .i64 f.f2])) :
    FsI b w col w5 (colN col1 w3.heap.size fun _ => .tm) G cg fs (i + 1) 0 v6 v1 (M ++ [(f, .slice (some ⟨F, 0, none⟩) f.f1.length (f.f1.length + 600))]) (BL ++ [(.slice (some ⟨F, 0, none⟩) (f.f1.length + 600) c, f.f1)]) := by
  have hc3 : Ch b w3 col1 w5 (colN col1 w3.heap.size fun _ => .tm) (fun r => r = .tm) := by
    have h1 : Ch b w3 col1 w3 col1 (fun r => r = .tm) := Ch.refl hch.le'
    refine ⟨(Below.refl b w3).grown hg hch.le' (fun j hj => Nat.le_trans h.ch.le (own_base h.own j hj)), hch.le', fun k hk => colN_lt hk, fun k hk hn => hg.block k hk (fun e => hn ?_)⟩
    have e' : v5.ownBlock = some k := e.symm
    rw [hch.same k (own_lt h.own k e')]
    exact h.tag k e'
  have hgt3 : col1 G = .rm := (hch.same G (blk_lt h.blk)).trans h.gtag
  have hg5 : w5.heap[G]? = some (.cells ((cg.setIfInBounds 0 v0).setIfInBounds 0 v1) 65 (0, 0)) := hc3.blk hblk (by rw [hgt3]; exact fun h => by cases h)
  refine ⟨by rw [List.map_append, h.fst, fs_snoc hf]; rfl, by rw [List.length_append, h.mlen]; rfl, by rw [show marksF 0 = [] from rfl, List.append_nil, ← flatL_one]; exact ho, fun k hk => ?_, hrm.ch hc3 (fun h => by cases h), by rw [List.length_append, h.len]; rfl, h.rel.snoc (by rw [h.mlen, h.len]) f F c, by rwa [Array.setIfInBounds_setIfInBounds] at hg5, (hc3.same G (blk_lt hblk)).trans hgt3, ?_⟩
  · rcases hat with e | ⟨q, e, hq⟩
    · rw [e] at hk
      have hl := own_lt h.own k hk
      exact ((hc3.same k (Nat.lt_of_lt_of_le hl hch.size)).trans (hch.same k hl)).trans (h.tag k hk)
    · rw [e] at hk; cases hk; exact colN_ge hq
  · have h2 := h.ch.trans hch
    exact ⟨h2.below.trans hc3.below, h2.le, fun k hk => (hc3.same k (Nat.lt_of_lt_of_le hk h2.size)).trans (h2.same k hk), fun k hk hn => (hg.block k (Nat.lt_of_lt_of_le hk h2.size) (fun e => by have := own_base h.own k e.symm; omega)).trans (h2.block k hk hn)⟩
theorem FsI.own0 {b : Nat} {w wr : World} {col col' : RCol} {G : Nat} {cg : Array Value} {fs : List Fl} {i : Nat} {v5 v0 : Value} {M : List (Fl × Value)} {BL : List (Value × List Int)} (h : FsI b w col wr col' G cg fs i 0 v5 v0 M BL) : wr.ownsRow w.heap.size 74 3 v5 i (flatL M) := by
  have := h.own
  rwa [show marksF 0 = [] from rfl, List.append_nil] at this
theorem FsI.mark {b : Nat} {w w3 w5 : World} {col col1 : RCol} {G : Nat} {cg : Array Value} {fs : List Fl} {i j : Nat} {v5 v0 v6 : Value} {M : List (Fl × Value)} {BL : List (Value × List Int)} (h : FsI b w col w3 col1 G cg fs i (2 * j) v5 v0 M BL)
    (hg : w3.grownBy w5 v5.ownBlock) (hat : v6.ownBlock = v5.ownBlock ∨ ∃ k, v6.ownBlock = some k ∧ w3.heap.size ≤ k)
    (ho : w5.ownsRow w.heap.size 74 3 v6 (i + 2 * j + 2) (flatL (M ++ marksF (2 * j)) ++ [.string ⟨#[]⟩, .slice none 0 0, .int .i64 (-7701), .string ⟨#[]⟩, .slice none 0 0, .int .i64 (-7702)])) :
    FsI b w col w5 (colN col1 w3.heap.size fun _ => .tm) G cg fs i (2 * (j + 1)) v6 v0 M BL := by
  have hc3 : Ch b w3 col1 w5 (colN col1 w3.heap.size fun _ => .tm) (fun r => r = .tm) :=
    ⟨(Below.refl b w3).grown hg h.ch.le' (fun j hj => Nat.le_trans h.ch.le (own_base h.own j hj)), h.ch.le', fun k hk => colN_lt hk, fun k hk hn => hg.block k hk (fun e => hn (h.tag k e.symm))⟩
  refine ⟨h.fst, h.mlen, by rw [show 2 * (j + 1) = 2 * j + 2 by omega, marksF_flat]; exact ho, fun k hk => ?_, h.rm.ch hc3 (fun h => by cases h), h.len, h.rel, hc3.blk h.blk (by rw [h.gtag]; exact fun h => by cases h), (hc3.same G (blk_lt h.blk)).trans h.gtag, ?_⟩
  · rcases hat with e | ⟨q, e, hq⟩
    · rw [e] at hk
      exact (hc3.same k (own_lt h.own k hk)).trans (h.tag k hk)
    · rw [e] at hk; cases hk; exact colN_ge hq
  · have h2 := h.ch
    exact ⟨h2.below.trans hc3.below, h2.le, fun k hk => (hc3.same k (Nat.lt_of_lt_of_le hk h2.size)).trans (h2.same k hk), fun k hk hn => (hg.block k (Nat.lt_of_lt_of_le hk h2.size) (fun e => by have := own_base h.own k e.symm; omega)).trans (h2.block k hk hn)⟩
theorem RmB.setG {b : Nat} {W : World} {col : RCol} {v0 : Value} {BL : List (Value × List Int)} (h : RmB b W col v0 BL) {G : Nat} {cs : Array Value} (hG : W.heap[G]? = some (.cells cs 65 (0, 0))) (i : Nat) (u : Value) : RmB b (W.setCell ⟨G, i, none⟩ u) col v0 BL := by
  refine ⟨own_move h.own fun k hk => Below.heap_setCell W _ u k (fun e => own_ne h.own hG (by decide) (hk.trans (congrArg some e)).symm), h.tag, fun p hp => ?_⟩
  obtain ⟨F, cap, e, ho, ht⟩ := h.rows p hp
  exact ⟨F, cap, e, own_move ho fun k hk => Below.heap_setCell W _ u k (fun e' => own_ne ho hG (by decide) (hk.trans (congrArg some e')).symm), ht⟩
structure FsR (b : Nat) (w : World) (col : RCol) (w' : World) (col' : RCol) (G : Nat) (cg : Array Value) (fs : List Fl) (F cap : Nat) (v13 v0 : Value) (M : List (Fl × Value)) (BL : List (Value × List Int)) : Prop where
  fst : M.map (·.1) = fs
  own : w'.ownsRow w.heap.size 74 3 (.slice (some ⟨F, 0, none⟩) (fs.length + 40) cap) (fs.length + 40) (flatL (M ++ marksF 40))
  tag : col' F = .tm
  row : w'.ownsRow w.heap.size 22 1 v13 1 [.slice (some ⟨F, 0, none⟩) (fs.length + 40) cap]
  rm : RmB b w' col' v0 BL
  len : BL.length = fs.length
  rel : FRel M BL
  blk : w'.heap[G]? = some (.cells ((cg.setIfInBounds 0 v0).setIfInBounds 13 v13) 65 (0, 0))
  ch : Ch b w col w' col' isM
def FsPost (b : Nat) (w : World) (col : RCol) (G : Nat) (cg : Array Value) (fs : List Fl) (e : Ending) (w' : World) : Prop :=
  ∃ F cap v13 v0 M BL col', e = .returned (.slice (some ⟨F, 0, none⟩) fs.length (fs.length + 40)) ∧ FsR b w col w' col' G cg fs F cap v13 v0 M BL
theorem FsI.fin {b : Nat} {w W w1 : World} {col col' : RCol} {G : Nat} {cg : Array Value} {fs : List Fl} {v0 v13 : Value} {M : List (Fl × Value)} {BL : List (Value × List Int)} {F cap : Nat} (h : FsI b w col W col' G cg fs fs.length 40 (.slice (some ⟨F, 0, none⟩) (fs.length + 40) cap) v0 M BL) (hgt : G < w.heap.size) (hbG : b ≤ G)
    (hb : Below W.heap.size W w1) (ho : w1.ownsRow w.heap.size 22 1 v13 1 [.slice (some ⟨F, 0, none⟩) (fs.length + 40) cap]) : FsR b w col (w1.setCell ⟨G, 13, none⟩ v13) col' G cg fs F cap v13 v0 M BL := by
  have h1 := h.go hb
  refine ⟨by rw [h.fst, List.take_length], own_move h1.own fun k hk => Below.heap_setCell w1 _ v13 k (fun e => ?_), h1.tag F rfl, own_move ho fun k hk => Below.heap_setCell w1 _ v13 k (fun e => ?_), h1.rm.setG h1.blk 13 v13, h.len, h.rel, blk_set h1.blk 13 v13, h1.ch.set (p := ⟨G, 13, none⟩) hbG (by show isM (col' G); rw [h.gtag]; rfl) v13⟩
  · have := own_base h1.own k hk; have e' : k = G := e; omega
  · have := own_base ho k hk; have e' : k = G := e; omega
end Go.Proofs.Ytmpgldggjjmkmaa.PA
