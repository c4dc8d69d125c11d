/- The room's Ints and its hold of ints, where it handed out one list. Conditions: the room's list of int lists is empty before, the list fits into memory. -/
import Derived.Test.YthneomomhoilkaaDoorMDkHoldB
import Derived.Test.YthneomomhoilkaaDoorML
namespace Go.Proofs.YthneomomhoilkaaDoor.PA
open Go.RowKit Go.Maps Go.Proofs.YthneomomhoilkaaDoorW.PrintWords Go.Proofs.YthneomomhoilkaaDoorW.PrintLast Go.Proofs.YthneomomhoilkaaDoorW.PrintMore
set_option linter.unusedVariables false
set_option linter.unusedSimpArgs false
def markS (k : Nat) : Int := if k % 2 = 0 then -7701 else -7702
def marksL (n : Nat) : List Int := (List.range n).map markS
section
variable {P : Program} {ops : Array Oper} {rest : List Oper} {o : Oper} {a : Act} {Q : Exit → Act → World → Prop}
end
structure RmI (b : Nat) (W : World) (col : RCol) (v0 : Value) (xs : List Int) : Prop where
  ex : ∃ B2 c2 F cap, v0 = .slice (some ⟨B2, 0, none⟩) 1 c2 ∧ W.ownsRow b 33 1 v0 1 [.slice (some ⟨F, 0, none⟩) (xs.length + 40) cap] ∧ W.ownsRow b 3 1 (.slice (some ⟨F, 0, none⟩) (xs.length + 40) cap) (xs ++ marksL 40).length (nums .i64 (xs ++ marksL 40)) ∧ col B2 = .rm ∧ col F = .rm
theorem RmI.ch {b : Nat} {W W' : World} {col col' : RCol} {S : Role → Prop} {v0 : Value} {xs : List Int} (h : RmI b W col v0 xs) (m : Ch b W col W' col' S) (hS : ¬ S .rm) : RmI b W' col' v0 xs := by
  obtain ⟨B2, c2, F, cap, rfl, h1, h2, h3, h4⟩ := h.ex
  refine ⟨B2, c2, F, cap, rfl, own_move h1 fun k hk => m.block k (own_lt h1 k hk) ?_, own_move h2 fun k hk => m.block k (own_lt h2 k hk) ?_, (m.same B2 (own_lt h1 B2 rfl)).trans h3, (m.same F (own_lt h2 F rfl)).trans h4⟩
  · cases hk; rw [h3]; exact hS
  · cases hk; rw [h4]; exact hS
theorem RmI.at {b : Nat} {W : World} {col : RCol} {v0 : Value} {xs : List Int} (h : RmI b W col v0 xs) :
    ∃ B2 c2 F cap, v0 = .slice (some ⟨B2, 0, none⟩) 1 c2 ∧ W.cell? ⟨B2, 0, none⟩ = some (.slice (some ⟨F, 0, none⟩) (xs.length + 40) cap) ∧ ∀ k, k < 40 → W.cell? ⟨F, xs.length + k, none⟩ = some (.int .i64 (markS k)) := by
  obtain ⟨B2, c2, F, cap, rfl, h1, h2, _, _⟩ := h.ex
  have c1 := h1.cells (g := B2) rfl 0 _ rfl
  refine ⟨B2, c2, F, cap, rfl, by rwa [add_at] at c1, fun k hk => ?_⟩
  have c2 := h2.cells (g := F) rfl (xs.length + k) (.int .i64 (markS k)) (by
    unfold nums
    rw [List.getElem?_map, List.getElem?_append_right (by omega), show xs.length + k - xs.length = k by omega]
    unfold marksL
    rw [List.getElem?_map, List.getElem?_range hk]; rfl)
  rwa [add_at] at c2
end Go.Proofs.YthneomomhoilkaaDoor.PA
