/- The lent list of files read, its bytes written over in place; a pair in memory. Condition: none. -/
import Derived.Test.YtmpgldggjjmkmaaMDkMade
import Derived.Test.YtmpgldggjjmkmaaML
namespace Go.Proofs.Ytmpgldggjjmkmaa.PA
open Go.RowKit Go.Maps Go.Proofs.YtmpgldggjjmkmaaW.PrintWords Go.Proofs.YtmpgldggjjmkmaaW.PrintLast Go.Proofs.YtmpgldggjjmkmaaW.PrintMore
set_option linter.unusedVariables false
set_option linter.unusedSimpArgs false
section
variable {b : Nat} {w w' : World} {col col' : RCol} {G : Nat} {cg : Array Value} {fs : List Fl} {F cap : Nat} {v13 v0 : Value} {M : List (Fl × Value)} {BL : List (Value × List Int)}
theorem FsR.mlen (h : FsR b w col w' col' G cg fs F cap v13 v0 M BL) : M.length = fs.length := by rw [← h.fst, List.length_map]
theorem FsR.front (h : FsR b w col w' col' G cg fs F cap v13 v0 M BL) : w'.ownsRow w.heap.size 74 3 (.slice (some ⟨F, 0, none⟩) M.length cap) M.length (flatL M) := by
  have ho := own_take (m := fs.length) h.own (by omega)
  rw [← h.mlen] at ho
  rwa [flatL_take, List.take_left' rfl] at ho
theorem FsR.lists (h : FsR b w col w' col' G cg fs F cap v13 v0 M BL) {p : Fl × Value} (hp : p ∈ M) : ∃ Fj, p.2 = .slice (some ⟨Fj, 0, none⟩) p.1.f1.length (p.1.f1.length + 600) ∧ U8B w' Fj p.1.f1.length ∧ ReadsInt w' .u8 (some ⟨Fj, 0, none⟩) p.1.f1.length p.1.f1 ∧ col' Fj = .rm ∧ b ≤ Fj := by
  obtain ⟨j, hj, rfl⟩ := List.getElem_of_mem hp
  obtain ⟨Fj, cj, h1, h2⟩ := h.rel j _ (List.getElem?_eq_getElem hj)
  obtain ⟨F1, c1, e, ho, ht⟩ := h.rm.rows _ (List.mem_of_getElem? h2)
  cases e
  have hot := own_take (m := M[j].1.f1.length) ho (Nat.le_add_right _ _)
  have hot2 : w'.ownsRow b 5 1 (.slice (some ⟨Fj, 0, none⟩) M[j].1.f1.length cj) M[j].1.f1.length (nums .u8 M[j].1.f1) := by
    rw [Nat.mul_one, show (nums .u8 (M[j].1.f1 ++ marksB 600)).take M[j].1.f1.length = nums .u8 M[j].1.f1 by
      unfold nums; rw [List.map_append, List.take_left' (List.length_map _)]] at hot
    exact hot
  exact ⟨Fj, h1, U8B.of_own hot2 rfl (Nat.le_refl _), own_reads' hot2, ht, own_base ho Fj rfl⟩
theorem FsR.reads (h : FsR b w col w' col' G cg fs F cap v13 v0 M BL) : Kd.C k74 w' (some ⟨F, 0, none⟩) fs.length fs := by
  obtain ⟨A, c, e, _, hk⟩ := rows_read h.front (fun p hp => by
    obtain ⟨Fj, h1, _, h2, _⟩ := h.lists hp
    exact ⟨_, _, h1, Nat.le_add_right _ _, h2⟩)
  cases e
  rw [h.mlen, h.fst] at hk
  exact hk
end
structure LW (b : Nat) (W1 : World) (col : RCol) (W : World) (M : List (Fl × Value)) : Prop where
  ch : Ch b W1 col W col isM
  u8 : ∀ p ∈ M, ∃ Fj, p.2 = .slice (some ⟨Fj, 0, none⟩) p.1.f1.length (p.1.f1.length + 600) ∧ U8B W Fj p.1.f1.length ∧ col Fj = .rm ∧ b ≤ Fj
theorem LW.step {b : Nat} {W1 W : World} {col : RCol} {M : List (Fl × Value)} (h : LW b W1 col W M) {Fj : Nat} (hF : col Fj = .rm) (hb : b ≤ Fj) (k : Nat) (x : Int) : LW b W1 col (W.setCell ⟨Fj, k, none⟩ (.int .u8 x)) M :=
  ⟨h.ch.set (p := ⟨Fj, k, none⟩) hb (by show isM (col Fj); rw [hF]; rfl) _, fun p hp => by
    obtain ⟨F, h1, h2, h3⟩ := h.u8 p hp
    exact ⟨F, h1, h2.set Fj k x, h3⟩⟩
theorem LW.drew {b : Nat} {W1 W : World} {col : RCol} {M : List (Fl × Value)} (h : LW b W1 col W M) : LW b W1 col W.drew M :=
  ⟨h.ch.trans (Ch.of_below ((Drawn0.refl W).step 1).below h.ch.le'), h.u8⟩
theorem LW.cells {b B : Nat} {W1 W : World} {col : RCol} {M : List (Fl × Value)} (h : LW b W1 col W M) {F n c : Nat} (ho : W1.ownsRow B 74 3 (.slice (some ⟨F, 0, none⟩) n c) M.length (flatL M)) (ht : col F = .tm) {i : Nat} (hi : i < M.length) :
    ∃ Fj, M[i].2 = .slice (some ⟨Fj, 0, none⟩) M[i].1.f1.length (M[i].1.f1.length + 600) ∧ W.cell? ⟨F, i * 3 + 1, none⟩ = some (.slice (some ⟨Fj, 0, none⟩) M[i].1.f1.length (M[i].1.f1.length + 600)) ∧ U8B W Fj M[i].1.f1.length ∧ col Fj = .rm ∧ b ≤ Fj := by
  obtain ⟨Fj, h1, h2, h3, h4⟩ := h.u8 M[i] (List.getElem_mem hi)
  refine ⟨Fj, h1, ?_, h2, h3, h4⟩
  have hW := own_move ho (fun k hk => h.ch.block k (own_lt ho k hk) (by cases hk; rw [ht]; exact fun h => by cases h))
  have := hW.cells (g := F) rfl (i * 3 + 1) _ (flatL_get M i _ (List.getElem?_eq_getElem hi)).2.1
  rw [add_at, h1] at this
  exact this
theorem LW.reads {b B : Nat} {W1 W : World} {col : RCol} {M : List (Fl × Value)} (h : LW b W1 col W M) {F c : Nat} (ho : W1.ownsRow B 74 3 (.slice (some ⟨F, 0, none⟩) M.length c) M.length (flatL M)) (ht : col F = .tm) (hs : ∀ p ∈ M, p.1.f1.length ≤ 140737488351232) :
    ∃ fs', fs'.length = M.length ∧ Kd.C k74 W (some ⟨F, 0, none⟩) fs'.length fs' ∧ ∀ f ∈ fs', ∃ p ∈ M, f.f0 = p.1.f0 ∧ f.f1.length = p.1.f1.length := by
  have hW := own_move ho (fun k hk => h.ch.block k (own_lt ho k hk) (by cases hk; rw [ht]; exact fun h => by cases h))
  obtain ⟨M', e1, e2, e3, e4⟩ := remake W M (fun p hp => by
    obtain ⟨Fj, h1, h2, _⟩ := h.u8 p hp
    exact ⟨by have := hs p hp; omega, Fj, _, h1, Nat.le_add_right _ _, h2⟩)
  rw [← e1, ← e2] at hW
  obtain ⟨A, c', e, _, hk⟩ := rows_read hW e3
  cases e
  refine ⟨M'.map (·.1), by rw [List.length_map, e2], by rw [List.length_map]; exact hk, fun f hf => ?_⟩
  obtain ⟨p, hp, rfl⟩ := List.mem_map.1 hf
  exact e4 p hp
structure PrSt (b : Nat) (W : World) (col : RCol) (g gP gR : Nat) (d : Dk) : Prop where
  blk : W.heap[g]? = some (.cells #[.pointer (some ⟨gP, 0, none⟩), .pointer none, .pointer (some ⟨gR, 0, none⟩), .pointer none] 32 (0, 0))
  tag : col g = .other
  le : b ≤ g
  args : ∀ k, k < b → col k = .other
  p : PD b W col gP d
  r : RD b W col gR d
  ok : d.Ok
def MadePost (b : Nat) (w w' : World) (e : Ending) : Option (List Fl) → Prop
  | none => ∃ g, e = .returned (.tuple #[.pointer (some ⟨g, 0, none⟩), .bool true]) ∧ w'.heap[g]? = some (.cells #[.pointer none, .pointer none, .pointer none, .pointer none] 32 (0, 0)) ∧ Below b w w'
  | some l => ∃ g gP gR col, e = .returned (.tuple #[.pointer (some ⟨g, 0, none⟩), .bool true]) ∧ PrSt b w' col g gP gR (Dk.start l) ∧ Below b w w'
end Go.Proofs.Ytmpgldggjjmkmaa.PA
