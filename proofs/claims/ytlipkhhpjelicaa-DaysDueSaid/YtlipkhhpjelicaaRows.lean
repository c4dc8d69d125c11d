/-
  No cell of these rows narrows 'for every input' (looked for: loops, veiled, ifaces, maps, wideKeys, modest, calm, conditions, laid).
  DERIVED. THE GIVEN ROWS OF THIS SEAT. 7 by the template 'for every input the law returns true; each argument reads behind the call as it read before'; 0 by the template 'total and deterministic' (their statements: YtlipkhhpjelicaaTotals.lean).
  GIVEN WITH THE SEED: the statements are not yours to turn. If you find one false, say at which input.
  Laid BY PROGRAM, IN A SANDBOX (cutbox-rows.mjs): the forced cells as the released guide's own fill.sh prints them over the translation 609b59912f865dd2… (all of the seat's roots in one cut). By AI agents, Wed Nov 11 2026. No macro, syntax, notation, axiom, sorry.
-/
import Derived.Test.YtlipkhhpjelicaaChecked
import GoSem.Claim
import GoSem.ClaimJoined
import GoSem.ClaimMapViews
import Derived.JoinedTies
import Derived.KernelRfl
namespace Go.Proofs.Ytlipkhhpjelicaa
/- THE CELL 'sum', in the pinned program and in every row, IS THE sha256 OF THE DUMP (.gsa) THAT YtlipkhhpjelicaaProg.lean LOADS. Nothing in Lean hashes anything: it is a label: what it is worth is what the hold of that sum in a sandbox is worth. -/
noncomputable def Try.pinned : Pinned := { name := "ytlipkhhpjelicaa", sum := "609b59912f865dd201f7934eff051b48d70584b6983b814954c36b48c978773b", checked := Try.checked }
namespace Rows
def none {H : Type} : Left H := { results := [], args := [] }

/-- 'levylaw2.DaysNames': WHATEVER THE INPUT: true; the input reads as it did. -/
def daysNamesSpec : ChangeSpec := { name := "daysNames", fn := fun _ => fun
  | [] => { results := [.lit (.bool true)], args := [] }
  | _ => none }
def daysNamesRow : OpenClaim := { program := "ytlipkhhpjelicaa", sum := "609b59912f865dd201f7934eff051b48d70584b6983b814954c36b48c978773b", func := "levy/levylaw2.DaysNames", spec := "daysNames", apart := false }
def DaysNamesSaid : Prop := daysNamesRow.holds Try.pinned (OpenSpec.ofChange daysNamesSpec)

/-- ITS FALSE NEIGHBOUR: 'it returns false'. Refute it at one input. -/
def daysNamesWrong : ChangeSpec := { name := "daysNames", fn := fun _ => fun
  | [] => { results := [.lit (.bool false)], args := [] }
  | _ => none }
def DaysNamesWrongFalsely : Prop := daysNamesRow.holds Try.pinned (OpenSpec.ofChange daysNamesWrong)

/-- 'levylaw4.WordsNames': WHATEVER THE INPUT: true; the input reads as it did. -/
def wordsNamesSpec : ChangeSpec := { name := "wordsNames", fn := fun _ => fun
  | [] => { results := [.lit (.bool true)], args := [] }
  | _ => none }
def wordsNamesRow : OpenClaim := { program := "ytlipkhhpjelicaa", sum := "609b59912f865dd201f7934eff051b48d70584b6983b814954c36b48c978773b", func := "levy/levylaw4.WordsNames", spec := "wordsNames", apart := false }
def WordsNamesSaid : Prop := wordsNamesRow.holds Try.pinned (OpenSpec.ofChange wordsNamesSpec)

/-- ITS FALSE NEIGHBOUR: 'it returns false'. Refute it at one input. -/
def wordsNamesWrong : ChangeSpec := { name := "wordsNames", fn := fun _ => fun
  | [] => { results := [.lit (.bool false)], args := [] }
  | _ => none }
def WordsNamesWrongFalsely : Prop := wordsNamesRow.holds Try.pinned (OpenSpec.ofChange wordsNamesWrong)

/-- 'levylaw5.RulesNames': WHATEVER THE INPUT: true; the input reads as it did. -/
def rulesNamesSpec : ChangeSpec := { name := "rulesNames", fn := fun _ => fun
  | [] => { results := [.lit (.bool true)], args := [] }
  | _ => none }
def rulesNamesRow : OpenClaim := { program := "ytlipkhhpjelicaa", sum := "609b59912f865dd201f7934eff051b48d70584b6983b814954c36b48c978773b", func := "levy/levylaw5.RulesNames", spec := "rulesNames", apart := false }
def RulesNamesSaid : Prop := rulesNamesRow.holds Try.pinned (OpenSpec.ofChange rulesNamesSpec)

/-- ITS FALSE NEIGHBOUR: 'it returns false'. Refute it at one input. -/
def rulesNamesWrong : ChangeSpec := { name := "rulesNames", fn := fun _ => fun
  | [] => { results := [.lit (.bool false)], args := [] }
  | _ => none }
def RulesNamesWrongFalsely : Prop := rulesNamesRow.holds Try.pinned (OpenSpec.ofChange rulesNamesWrong)

/-- 'levylaw20.DeskNames': WHATEVER THE INPUT: true; the input reads as it did. -/
def deskNamesSpec : ChangeSpec := { name := "deskNames", fn := fun _ => fun
  | [] => { results := [.lit (.bool true)], args := [] }
  | _ => none }
def deskNamesRow : OpenClaim := { program := "ytlipkhhpjelicaa", sum := "609b59912f865dd201f7934eff051b48d70584b6983b814954c36b48c978773b", func := "levy/levylaw20.DeskNames", spec := "deskNames", apart := false }
def DeskNamesSaid : Prop := deskNamesRow.holds Try.pinned (OpenSpec.ofChange deskNamesSpec)

/-- ITS FALSE NEIGHBOUR: 'it returns false'. Refute it at one input. -/
def deskNamesWrong : ChangeSpec := { name := "deskNames", fn := fun _ => fun
  | [] => { results := [.lit (.bool false)], args := [] }
  | _ => none }
def DeskNamesWrongFalsely : Prop := deskNamesRow.holds Try.pinned (OpenSpec.ofChange deskNamesWrong)

/-- 'levylaw12.BranchNames': WHATEVER THE INPUT: true; the input reads as it did. -/
def branchNamesSpec : ChangeSpec := { name := "branchNames", fn := fun _ => fun
  | [] => { results := [.lit (.bool true)], args := [] }
  | _ => none }
def branchNamesRow : OpenClaim := { program := "ytlipkhhpjelicaa", sum := "609b59912f865dd201f7934eff051b48d70584b6983b814954c36b48c978773b", func := "levy/levylaw12.BranchNames", spec := "branchNames", apart := false }
def BranchNamesSaid : Prop := branchNamesRow.holds Try.pinned (OpenSpec.ofChange branchNamesSpec)

/-- ITS FALSE NEIGHBOUR: 'it returns false'. Refute it at one input. -/
def branchNamesWrong : ChangeSpec := { name := "branchNames", fn := fun _ => fun
  | [] => { results := [.lit (.bool false)], args := [] }
  | _ => none }
def BranchNamesWrongFalsely : Prop := branchNamesRow.holds Try.pinned (OpenSpec.ofChange branchNamesWrong)

/-- 'levylaw19.DrawerNames': WHATEVER THE INPUT: true; the input reads as it did. -/
def drawerNamesSpec : ChangeSpec := { name := "drawerNames", fn := fun _ => fun
  | [] => { results := [.lit (.bool true)], args := [] }
  | _ => none }
def drawerNamesRow : OpenClaim := { program := "ytlipkhhpjelicaa", sum := "609b59912f865dd201f7934eff051b48d70584b6983b814954c36b48c978773b", func := "levy/levylaw19.DrawerNames", spec := "drawerNames", apart := false }
def DrawerNamesSaid : Prop := drawerNamesRow.holds Try.pinned (OpenSpec.ofChange drawerNamesSpec)

/-- ITS FALSE NEIGHBOUR: 'it returns false'. Refute it at one input. -/
def drawerNamesWrong : ChangeSpec := { name := "drawerNames", fn := fun _ => fun
  | [] => { results := [.lit (.bool false)], args := [] }
  | _ => none }
def DrawerNamesWrongFalsely : Prop := drawerNamesRow.holds Try.pinned (OpenSpec.ofChange drawerNamesWrong)

/-- 'levylaw2.DaysDue': WHATEVER THE INPUT: true; the input reads as it did. -/
def daysDueSpec : ChangeSpec := { name := "daysDue", fn := fun _ => fun
  | [d1, d2] => { results := [.lit (.bool true)], args := [d1, d2] }
  | _ => none }
def daysDueRow : OpenClaim := { program := "ytlipkhhpjelicaa", sum := "609b59912f865dd201f7934eff051b48d70584b6983b814954c36b48c978773b", func := "levy/levylaw2.DaysDue", spec := "daysDue", apart := false }
def DaysDueSaid : Prop := daysDueRow.holds Try.pinned (OpenSpec.ofChange daysDueSpec)

/-- ITS FALSE NEIGHBOUR: 'it returns false'. Refute it at one input. -/
def daysDueWrong : ChangeSpec := { name := "daysDue", fn := fun _ => fun
  | [d1, d2] => { results := [.lit (.bool false)], args := [d1, d2] }
  | _ => none }
def DaysDueWrongFalsely : Prop := daysDueRow.holds Try.pinned (OpenSpec.ofChange daysDueWrong)

/- THE SECOND FORM. 'bulk': how many values and letters a reading holds, each counted each time it is reached (what is shared counts as often as it is met; a slice's spare places count too). A statement '..UptoSaid' is the law's where the arguments, and the package variables that the reading takes, are together of bulk at most 1048576: NARROWER than '..Said'. Prove '..Said' where nothing that the law and all that it calls make is longer than what came in: it says more and counts as full. Else prove '..UptoSaid'. A law counts once. -/
mutual
def uptoBulk {H : Type} : DataW H → Nat
  | .lit (.string bytes) => bytes.length + 1
  | .lit _ => 1
  | .nil => 1
  | .ptr d => uptoBulk d + 1
  | .slice elems spare => uptoBulkAll elems + uptoBulkAll spare + 1
  | .agg parts => uptoBulkAll parts + 1
  | .iface _ d => uptoBulk d + 1
  | .map entries => uptoBulkEntries entries + 1
  | .held _ => 1
def uptoBulkAll {H : Type} : List (DataW H) → Nat
  | [] => 0
  | d :: r => uptoBulk d + uptoBulkAll r
def uptoBulkEntries {H : Type} : List (Lit × DataW H) → Nat
  | [] => 0
  | x :: r => uptoBulkEntry x + uptoBulkEntries r
def uptoBulkEntry {H : Type} : Lit × DataW H → Nat
  | (.string bytes, d) => bytes.length + uptoBulk d + 1
  | (_, d) => uptoBulk d + 1
 end
def uptoSmall : (H : Type) → List (DataW H) → Bool := fun _ ds => decide (uptoBulkAll ds ≤ 1048576)
def OpenSpec.upto (s : _root_.Go.ChangeSpec) : _root_.Go.OpenSpec := { _root_.Go.OpenSpec.ofChange s with cond := some uptoSmall }

/-- 'levylaw2.DaysNames', WHERE WHAT IT READS IS OF BULK AT MOST 1048576: true; the input reads as it did. -/
def daysNamesUptoRow : OpenClaim := { program := "ytlipkhhpjelicaa", sum := "609b59912f865dd201f7934eff051b48d70584b6983b814954c36b48c978773b", func := "levy/levylaw2.DaysNames", spec := "daysNames", apart := false, narrowed := true }
def DaysNamesUptoSaid : Prop := daysNamesUptoRow.holds Try.pinned (OpenSpec.upto daysNamesSpec)

/-- 'levylaw4.WordsNames', WHERE WHAT IT READS IS OF BULK AT MOST 1048576: true; the input reads as it did. -/
def wordsNamesUptoRow : OpenClaim := { program := "ytlipkhhpjelicaa", sum := "609b59912f865dd201f7934eff051b48d70584b6983b814954c36b48c978773b", func := "levy/levylaw4.WordsNames", spec := "wordsNames", apart := false, narrowed := true }
def WordsNamesUptoSaid : Prop := wordsNamesUptoRow.holds Try.pinned (OpenSpec.upto wordsNamesSpec)

/-- 'levylaw5.RulesNames', WHERE WHAT IT READS IS OF BULK AT MOST 1048576: true; the input reads as it did. -/
def rulesNamesUptoRow : OpenClaim := { program := "ytlipkhhpjelicaa", sum := "609b59912f865dd201f7934eff051b48d70584b6983b814954c36b48c978773b", func := "levy/levylaw5.RulesNames", spec := "rulesNames", apart := false, narrowed := true }
def RulesNamesUptoSaid : Prop := rulesNamesUptoRow.holds Try.pinned (OpenSpec.upto rulesNamesSpec)

/-- 'levylaw20.DeskNames', WHERE WHAT IT READS IS OF BULK AT MOST 1048576: true; the input reads as it did. -/
def deskNamesUptoRow : OpenClaim := { program := "ytlipkhhpjelicaa", sum := "609b59912f865dd201f7934eff051b48d70584b6983b814954c36b48c978773b", func := "levy/levylaw20.DeskNames", spec := "deskNames", apart := false, narrowed := true }
def DeskNamesUptoSaid : Prop := deskNamesUptoRow.holds Try.pinned (OpenSpec.upto deskNamesSpec)

/-- 'levylaw12.BranchNames', WHERE WHAT IT READS IS OF BULK AT MOST 1048576: true; the input reads as it did. -/
def branchNamesUptoRow : OpenClaim := { program := "ytlipkhhpjelicaa", sum := "609b59912f865dd201f7934eff051b48d70584b6983b814954c36b48c978773b", func := "levy/levylaw12.BranchNames", spec := "branchNames", apart := false, narrowed := true }
def BranchNamesUptoSaid : Prop := branchNamesUptoRow.holds Try.pinned (OpenSpec.upto branchNamesSpec)

/-- 'levylaw19.DrawerNames', WHERE WHAT IT READS IS OF BULK AT MOST 1048576: true; the input reads as it did. -/
def drawerNamesUptoRow : OpenClaim := { program := "ytlipkhhpjelicaa", sum := "609b59912f865dd201f7934eff051b48d70584b6983b814954c36b48c978773b", func := "levy/levylaw19.DrawerNames", spec := "drawerNames", apart := false, narrowed := true }
def DrawerNamesUptoSaid : Prop := drawerNamesUptoRow.holds Try.pinned (OpenSpec.upto drawerNamesSpec)

/-- 'levylaw2.DaysDue', WHERE WHAT IT READS IS OF BULK AT MOST 1048576: true; the input reads as it did. -/
def daysDueUptoRow : OpenClaim := { program := "ytlipkhhpjelicaa", sum := "609b59912f865dd201f7934eff051b48d70584b6983b814954c36b48c978773b", func := "levy/levylaw2.DaysDue", spec := "daysDue", apart := false, narrowed := true }
def DaysDueUptoSaid : Prop := daysDueUptoRow.holds Try.pinned (OpenSpec.upto daysDueSpec)

end Rows
end Go.Proofs.Ytlipkhhpjelicaa
