/- A list of lists of bytes that came in. No condition. -/
import Derived.Test.YthneomomhoilkaaDoorMDaArg
import Derived.Test.YthneomomhoilkaaDoorMR
import Derived.Test.YthneomomhoilkaaDoorML
namespace Go.Proofs.YthneomomhoilkaaDoor.Dc
open Go.RowKit Go.ChangeShapes Go.WideShapes Go.Proofs.YthneomomhoilkaaDoorW.PrintWords Go.Proofs.YthneomomhoilkaaDoorW.PrintLast Go.Proofs.YthneomomhoilkaaDoor.PA Go.Proofs.YthneomomhoilkaaDoor.Dw
set_option linter.unusedVariables false
set_option linter.unusedSimpArgs false
theorem one {α : Type} : ∀ (l : List α), l.length = 1 → ∃ v0, l = [v0]
  | [v0], _ => ⟨v0, rfl⟩
section
variable {H : Type} {enc : TypeId × Value → H} {W : World} {base : Nat} {spare : Nat → Bool} {held : Bool} {n : Nat} {a : Option Addr} {len cap : Nat} {d : DataW H} {ps : List MemPlace}
theorem row_of {cs : List Value} {x : DataW H × List MemPlace} (h : DataW.trod enc Tryd.prog W base spare held n 29 cs = some x) (hc : cs.length = 1) (hw : DW Tryd.prog 29 x.1) : ∃ zs : List Int, (Kd.slice 5 (Kd.int .u8)).K W zs cs ∧ Byt zs := by
  obtain ⟨v, rfl⟩ := one cs hc
  obtain ⟨A, c, zs, rfl, hl, hr, _, hb⟩ := bytes_of h hw
  exact ⟨zs, ⟨A, c, rfl, hl, Kd.C_of_reads (d := (0 : Int)) (readsInt_of.1 hr)⟩, hb⟩
theorem open_rows (h : DataW.Trod enc Tryd.prog W base spare held 23 (.slice a len cap) d ps) (hw : DW Tryd.prog 23 d) :
    ∃ bs : List (List Int), bs.length = len ∧ Kd.C (Kd.slice 5 (Kd.int .u8)) W a len bs ∧ len ≤ cap ∧ (∀ b ∈ bs, Byt b) := by
  obtain ⟨fuel, hf⟩ := h
  rcases Go.Deep.open_slice Tryd.underlying23 hf with ⟨hcs, _⟩ | ⟨x, l, c, m, n, D, Pl, hcs, _, hl, hm, hmm, hd, hx⟩
  · simp [Value.cells] at hcs
    obtain ⟨rfl, rfl, rfl⟩ := hcs
    exact ⟨[], rfl, Kd.C_nil _ _, Nat.le_refl _, fun f hf => absurd hf (List.not_mem_nil (a := f))⟩
  · simp [Value.cells] at hcs
    obtain ⟨rfl, rfl, rfl⟩ := hcs
    obtain ⟨rfl, _⟩ := Prod.mk.inj hd
    obtain ⟨hsz, hel⟩ := hw.slice Tryd.underlying23
    have hc : Tryd.prog.cellsOf 29 = 1 := by kernel_rfl
    have hB : Tryd.prog.bytesOf 29 = 24 := by kernel_rfl
    rw [hB, reach_eq, List.length_map, List.length_range] at hsz
    rw [hc] at hx
    have hlm : len ≤ m := by rw [hmm]; split <;> omega
    have each : ∀ i, i < len → ∃ f : List Int, ∃ cs, W.cells? base (x.add (i * 1)) 1 = some cs ∧ cs.length = 1 ∧ (Kd.slice 5 (Kd.int .u8)).K W f cs ∧ Byt f := fun i hi => by
      obtain ⟨cs, h1, h2⟩ := hx i (by omega)
      obtain ⟨_, h3, _⟩ := World.cells?_some h1
      obtain ⟨f, hf⟩ := row_of h2 h3 (hel _ (List.mem_map.2 ⟨i, List.mem_range.2 hi, rfl⟩))
      exact ⟨f, cs, h1, h3, hf⟩
    obtain ⟨q, hq⟩ := Go.Deep.choose_lt each
    have hmx : len ≤ 9223372036854775807 := by omega
    refine ⟨(List.range len).map q, by simp, ⟨by simp, hmx, fun hpos => ⟨x, rfl, fun j p hp => ?_⟩⟩, hl, fun f hf => ?_⟩
    · have hj : j < len := by
        have := (List.getElem?_eq_some_iff.1 hp).1
        simpa using this
      have hpj : q j = p := by simpa [hj] using hp
      subst hpj
      obtain ⟨cs, h1, h3, h2, _⟩ := hq j hj
      obtain ⟨_, _, hcell⟩ := World.cells?_some h1
      refine ⟨cs, h3, h2, fun i u hu => ?_⟩
      have hi : i < 1 := by have := (List.getElem?_eq_some_iff.1 hu).1; omega
      have := hcell i hi
      rw [Go.Deep.add_add] at this
      exact this.trans hu
    · obtain ⟨j, hj, rfl⟩ := List.mem_map.1 hf
      obtain ⟨cs, _, _, _, h4⟩ := hq j (List.mem_range.1 hj)
      exact h4
theorem i64_wf {x : Int} (h : (Lit.int .i64 x).wf = true) : -9223372036854775808 ≤ x ∧ x ≤ 9223372036854775807 := by
  simpa [Lit.wf, IntKind.min, IntKind.max, IntKind.signed, IntKind.bits] using h
theorem cut_walk (a0 a2 a3 : Int) (W : World) (BA : Option Addr) (bc : Nat) (bs : List (List Int)) (hV : VP W.heap.size W) (h0 : ∃ n : Nat, a0 = (n : Int) ∧ n < 4294967296) (hb : ∀ b ∈ bs, Byt b) (hr : Kd.C (Kd.slice 5 (Kd.int .u8)) W BA bs.length bs) (hc : bs.length ≤ bc) (h2 : (Lit.int .i64 a2).wf = true) (h3 : (Lit.int .i64 a3).wf = true) :
    Calls Tryd.prog 3 #[.int .u32 a0, .slice BA bs.length bc, .int .i64 a2, .int .i64 a3] W fun e W' => e = .returned (.bool true) ∧ Below W.heap.size W W' := by
  obtain ⟨n, rfl, hn⟩ := h0
  exact cut_calls n hn BA bc bs a2 a3 W hV (Nat.le_refl _) hb hr hc (i64_wf h2).1 (i64_wf h2).2 (i64_wf h3).1 (i64_wf h3).2
end
end Go.Proofs.YthneomomhoilkaaDoor.Dc
