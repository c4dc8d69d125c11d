/- The room's hold of files, where it handed out one list of files, and none. Condition: the marks stand behind the list. -/
import Derived.Test.YthneomomhoilkaaDoorMDkRoomFw
import Derived.Test.YthneomomhoilkaaDoorML
namespace Go.Proofs.YthneomomhoilkaaDoor.PA
open Go.RowKit Go.Maps Go.Proofs.YthneomomhoilkaaDoorW.PrintWords Go.Proofs.YthneomomhoilkaaDoorW.PrintLast Go.Proofs.YthneomomhoilkaaDoorW.PrintMore
set_option linter.unusedVariables false
set_option linter.unusedSimpArgs false
structure FilAt (w : World) (F q : Nat) (n : Int) : Prop where
  c0 : w.cell? ⟨F, q, none⟩ = some (.string ⟨#[]⟩)
  c1 : w.cell? ⟨F, q + 1, none⟩ = some (.slice none 0 0)
  c2 : w.cell? ⟨F, q + 2, none⟩ = some (.int .i64 n)
theorem FilAt.below {B : Nat} {w w' : World} {F q : Nat} {n : Int} (h : FilAt w F q n) (hb : Below B w w') (hF : F < B) : FilAt w' F q n :=
  ⟨(hb.cell hF).trans h.c0, (hb.cell hF).trans h.c1, (hb.cell hF).trans h.c2⟩
end Go.Proofs.YthneomomhoilkaaDoor.PA
