/- A list of bytes that came in: what its cells hold, that it is one that can be. No condition. -/
import Derived.Test.YthneomomhoilkaaDoorMO
import Derived.Deep.Slices
import Derived.ChangeArms
import Derived.ChangeSlices
import Derived.SizedLaws
import Derived.Carry
import Derived.Lib.LaidTab
import Derived.Stop.LaidErr
import Derived.Test.YthneomomhoilkaaDoorML
namespace Go.Proofs.YthneomomhoilkaaDoor.Dc
open Go.RowKit Go.ChangeShapes Go.WideShapes Go.Proofs.YthneomomhoilkaaDoorW.PrintWords Go.Proofs.YthneomomhoilkaaDoorW.PrintLast Go.Proofs.YthneomomhoilkaaDoor.PA Go.Proofs.YthneomomhoilkaaDoor.Dw
set_option linter.unusedVariables false
set_option linter.unusedSimpArgs false
def DW {H : Type} (P : Program) (t : TypeId) (d : DataW H) : Prop := ∀ n ∈ d.weights P t, n ≤ reachBytes
section
variable {H : Type} {P : Program} {t e : TypeId}
theorem dw_of {ts : List TypeId} {ds : List (DataW H)} {j : Nat} {d : DataW H} (hsz : (DataW.weightsEach P ts ds).all (· ≤ reachBytes) = true) (ht : ts[j]? = some t) (hd : ds[j]? = some d) : DW P t d := fun n hn => by
  have := List.all_eq_true.1 hsz _ (DataW.weights_mem_each ht hd n hn)
  simpa using this
theorem weightsAll_mem {n : Nat} {d : DataW H} : ∀ {ds : List (DataW H)}, d ∈ ds → n ∈ d.weights P e → n ∈ DataW.weightsAll P e ds
  | d0 :: r, h, hn => by
    rw [DataW.weightsAll, List.mem_append]
    rcases List.mem_cons.1 h with rfl | h
    · exact .inl hn
    · exact .inr (weightsAll_mem h hn)
theorem DW.slice {elems spare : List (DataW H)} (h : DW P t (.slice elems spare)) (hu : P.underlying t = some (.slice e)) : (elems.length + spare.length) * P.bytesOf e ≤ reachBytes ∧ ∀ d ∈ elems, DW P e d := by
  refine ⟨h _ (by simp [DataW.weights, hu]), fun d hd n hn => h n ?_⟩
  have := weightsAll_mem (P := P) (e := e) hd hn
  simp [DataW.weights, hu, this]
end
theorem reach_eq : reachBytes = 140737488351232 := rfl
theorem c5 : Tryd.prog.cellsOf 5 = 1 := by kernel_rfl
theorem b5 : Tryd.prog.bytesOf 5 = 1 := by kernel_rfl
section
variable {H : Type} {enc : TypeId × Value → H} {W : World} {base : Nat} {spare : Nat → Bool} {held : Bool} {n : Nat}
theorem byte_wf {x : Int} (h : (Lit.int .u8 x).wf = true) : 0 ≤ x ∧ x < 256 := by
  have h : 0 ≤ x ∧ x ≤ 255 := by simpa [Lit.wf, IntKind.min, IntKind.max, IntKind.signed, IntKind.bits] using h
  omega
theorem bytes_of {v : Value} {x : DataW H × List MemPlace} (h : DataW.trod enc Tryd.prog W base spare held n 29 [v] = some x) (hw : DW Tryd.prog 29 x.1) : ∃ A c, ∃ xs : List Int, v = .slice A xs.length c ∧ xs.length ≤ c ∧ ReadsInt W .u8 A xs.length xs ∧ xs.length ≤ 140737488351232 ∧ Byt xs := by
  rcases open_ints Tryd.underlying29 Tryd.underlying5 c5 h with ⟨hcs, _⟩ | ⟨a, l, c, zs, hcs, _, hl, hm, hz, hx, hcell, hwf⟩
  · simp at hcs
    subst hcs
    exact ⟨none, 0, [], rfl, Nat.le_refl _, ⟨rfl, by simp, fun h0 => by simp at h0⟩, by simp, byt_nil⟩
  · simp at hcs
    subst hcs
    have hlz : l ≤ zs.length := by rw [hz]; split <;> omega
    have hlen : (zs.take l).length = l := by rw [List.length_take]; omega
    have hmx : c ≤ 9223372036854775807 := by
      have e : maxLen = 9223372036854775807 := by unfold maxLen; rfl
      omega
    refine ⟨some a, c, zs.take l, by rw [hlen], by rw [hlen]; exact hl, ⟨rfl, by rw [hlen]; omega, fun _ => ⟨a, rfl, fun j hj => ?_⟩⟩, ?_, ?_⟩
    · rw [hlen] at hj
      rw [hcell j (by omega), List.getD_eq_getElem?_getD, List.getD_eq_getElem?_getD, List.getElem?_take, if_pos hj]
    · subst hx
      have := (hw.slice Tryd.underlying29).1
      have e1 : (lits (H := H) .u8 (zs.take l)).length = l := by simp [lits]; omega
      rw [e1, b5, reach_eq] at this
      rw [hlen]
      omega
    · exact (show Byt zs from fun y hy => byte_wf (hwf y hy)).take l
theorem u32_wf {x : Int} (h : (Lit.int .u32 x).wf = true) : ∃ n : Nat, x = (n : Int) ∧ n < 4294967296 := by
  have h2 : 0 ≤ x ∧ x < 4294967296 := by
    have h : 0 ≤ x ∧ x ≤ 4294967295 := by simpa [Lit.wf, IntKind.min, IntKind.max, IntKind.signed, IntKind.bits] using h
    omega
  exact ⟨x.toNat, by omega, by omega⟩
theorem vp_of {W : World} {tp : TypeId} {a : Addr} (h0 : Lib.TabIs Tryd.prog W "internal/strconv.uint64pow10" .u64 Lib.pow10Tab) (h1 : W.var? Tryd.prog "strconv.ErrSyntax" = some #[.iface tp (.pointer (some a))]) (hg : Tryd.prog.globalNamed "strconv.ErrSyntax" = some (Tryd.laysPu14_ren.g 0)) : VP W.heap.size W :=
  ⟨W, _, Nat.le_refl _, Below.refl _ _, h0, by simpa using World.var?_cell hg h1 0, .inr ⟨_, _, rfl⟩⟩
end
end Go.Proofs.YthneomomhoilkaaDoor.Dc
