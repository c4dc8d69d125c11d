/- The lent list of files read, its bytes written over in place; a pair in memory. Condition: none. -/
import Derived.Test.YthneomomhoilkaaDoorMDkMade
import Derived.Test.YthneomomhoilkaaDoorML
namespace Go.Proofs.YthneomomhoilkaaDoor.PA
open Go.RowKit Go.Maps Go.Proofs.YthneomomhoilkaaDoorW.PrintWords Go.Proofs.YthneomomhoilkaaDoorW.PrintLast Go.Proofs.YthneomomhoilkaaDoorW.PrintMore
set_option linter.unusedVariables false
set_option linter.unusedSimpArgs false
section
variable {b : Nat} {w w' : World} {col col' : RCol} {G : Nat} {cg : Array Value} {fs : List Fl} {F cap : Nat} {v13 v0 : Value} {M : List (Fl × Value)} {BL : List (Value × List Int)}
end
structure LW (b : Nat) (W1 : World) (col : RCol) (W : World) (M : List (Fl × Value)) : Prop where
  ch : Ch b W1 col W col isM
  u8 : ∀ p ∈ M, ∃ Fj, p.2 = .slice (some ⟨Fj, 0, none⟩) p.1.f1.length (p.1.f1.length + 600) ∧ U8B W Fj p.1.f1.length ∧ col Fj = .rm ∧ b ≤ Fj
theorem LW.step {b : Nat} {W1 W : World} {col : RCol} {M : List (Fl × Value)} (h : LW b W1 col W M) {Fj : Nat} (hF : col Fj = .rm) (hb : b ≤ Fj) (k : Nat) (x : Int) : LW b W1 col (W.setCell ⟨Fj, k, none⟩ (.int .u8 x)) M :=
  ⟨h.ch.set (p := ⟨Fj, k, none⟩) hb (by show isM (col Fj); rw [hF]; rfl) _, fun p hp => by
    obtain ⟨F, h1, h2, h3⟩ := h.u8 p hp
    exact ⟨F, h1, h2.set Fj k x, h3⟩⟩
theorem LW.drew {b : Nat} {W1 W : World} {col : RCol} {M : List (Fl × Value)} (h : LW b W1 col W M) : LW b W1 col W.drew M :=
  ⟨h.ch.trans (Ch.of_below ((Drawn0.refl W).step 1).below h.ch.le'), h.u8⟩
theorem LW.cells {b B : Nat} {W1 W : World} {col : RCol} {M : List (Fl × Value)} (h : LW b W1 col W M) {F n c : Nat} (ho : W1.ownsRow B 42 3 (.slice (some ⟨F, 0, none⟩) n c) M.length (flatL M)) (ht : col F = .tm) {i : Nat} (hi : i < M.length) :
    ∃ Fj, M[i].2 = .slice (some ⟨Fj, 0, none⟩) M[i].1.f1.length (M[i].1.f1.length + 600) ∧ W.cell? ⟨F, i * 3 + 1, none⟩ = some (.slice (some ⟨Fj, 0, none⟩) M[i].1.f1.length (M[i].1.f1.length + 600)) ∧ U8B W Fj M[i].1.f1.length ∧ col Fj = .rm ∧ b ≤ Fj := by
  obtain ⟨Fj, h1, h2, h3, h4⟩ := h.u8 M[i] (List.getElem_mem hi)
  refine ⟨Fj, h1, ?_, h2, h3, h4⟩
  have hW := own_move ho (fun k hk => h.ch.block k (own_lt ho k hk) (by cases hk; rw [ht]; exact fun h => by cases h))
  have := hW.cells (g := F) rfl (i * 3 + 1) _ (flatL_get M i _ (List.getElem?_eq_getElem hi)).2.1
  rw [add_at, h1] at this
  exact this
theorem LW.reads {b B : Nat} {W1 W : World} {col : RCol} {M : List (Fl × Value)} (h : LW b W1 col W M) {F c : Nat} (ho : W1.ownsRow B 42 3 (.slice (some ⟨F, 0, none⟩) M.length c) M.length (flatL M)) (ht : col F = .tm) (hs : ∀ p ∈ M, p.1.f1.length ≤ 140737488351232) :
    ∃ fs', fs'.length = M.length ∧ Kd.C k42 W (some ⟨F, 0, none⟩) fs'.length fs' ∧ ∀ f ∈ fs', ∃ p ∈ M, f.f0 = p.1.f0 ∧ f.f1.length = p.1.f1.length := by
  have hW := own_move ho (fun k hk => h.ch.block k (own_lt ho k hk) (by cases hk; rw [ht]; exact fun h => by cases h))
  obtain ⟨M', e1, e2, e3, e4⟩ := remake W M (fun p hp => by
    obtain ⟨Fj, h1, h2, _⟩ := h.u8 p hp
    exact ⟨by have := hs p hp; omega, Fj, _, h1, Nat.le_add_right _ _, h2⟩)
  rw [← e1, ← e2] at hW
  obtain ⟨A, c', e, _, hk⟩ := rows_read hW e3
  cases e
  refine ⟨M'.map (·.1), by rw [List.length_map, e2], by rw [List.length_map]; exact hk, fun f hf => ?_⟩
  obtain ⟨p, hp, rfl⟩ := List.mem_map.1 hf
  exact e4 p hp
end Go.Proofs.YthneomomhoilkaaDoor.PA
