/- The room's Bytes walked: a copy of a list of bytes with six hundred marks behind it. Condition: the list is one that can be. -/
import Derived.Test.YthneomomhoilkaaDoorMDkPapp
import Derived.Maps.AppendAt
import Derived.Test.YthneomomhoilkaaDoorML
namespace Go.Proofs.YthneomomhoilkaaDoor.PA
open Go.RowKit Go.Maps Go.Proofs.YthneomomhoilkaaDoorW.PrintWords Go.Proofs.YthneomomhoilkaaDoorW.PrintLast Go.Proofs.YthneomomhoilkaaDoorW.PrintMore
set_option linter.unusedVariables false
set_option linter.unusedSimpArgs false
def markB (k : Nat) : Int := if k % 2 = 0 then 165 else 90
def marksB (n : Nat) : List Int := (List.range n).map markB
def isM : Role → Prop := fun r => r = .rm
structure RmB (b : Nat) (W : World) (col : RCol) (v0 : Value) (BL : List (Value × List Int)) : Prop where
  own : W.ownsRow b 29 1 v0 BL.length (BL.map (·.1))
  tag : ∀ k, v0.ownBlock = some k → col k = .rm
  rows : ∀ p ∈ BL, ∃ F cap, p.1 = .slice (some ⟨F, 0, none⟩) (p.2.length + 600) cap ∧ W.ownsRow b 5 1 p.1 (p.2.length + 600) (nums .u8 (p.2 ++ marksB 600)) ∧ col F = .rm
theorem RmB.nil (b : Nat) (W : World) (col : RCol) : RmB b W col (.slice none 0 0) [] := ⟨own_nil _ _ _ _, fun k hk => by simp [Value.ownBlock] at hk, fun p hp => by cases hp⟩
theorem RmB.ch {b : Nat} {W W' : World} {col col' : RCol} {S : Role → Prop} {v0 : Value} {BL : List (Value × List Int)} (h : RmB b W col v0 BL) (m : Ch b W col W' col' S) (hS : ¬ S .rm) : RmB b W' col' v0 BL := by
  refine ⟨own_move h.own fun k hk => m.block k (own_lt h.own k hk) (by rw [h.tag k hk]; exact hS), fun k hk => (m.same k (own_lt h.own k hk)).trans (h.tag k hk), fun p hp => ?_⟩
  obtain ⟨F, cap, e, ho, ht⟩ := h.rows p hp
  have hF : p.1.ownBlock = some F := by rw [e]; rfl
  refine ⟨F, cap, e, own_move ho fun k hk => ?_, (m.same F (own_lt ho F hF)).trans ht⟩
  rw [hF] at hk
  injection hk with hk
  subst hk
  exact m.block F (own_lt ho F hF) (by rw [ht]; exact hS)
theorem own_form2 {W : World} {base n size : Nat} {e : TypeId} {v : Value} {xs : List Value} (h : W.ownsRow base e size v n xs) (hn : 0 < n) : ∃ g cap, v = .slice (some ⟨g, 0, none⟩) n cap := by
  rcases h.2 with ⟨_, h0⟩ | ⟨g, cap, cur, e1, _⟩
  · omega
  · exact ⟨g, cap, e1⟩
section
variable {P : Program} {ops : Array Oper} {rest : List Oper} {o : Oper} {a : Act} {Q : Exit → Act → World → Prop}
end
end Go.Proofs.YthneomomhoilkaaDoor.PA
