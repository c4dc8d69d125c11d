/- A list of tokens that came in: what its cells hold. No condition. -/
import Derived.Test.YtjlclkenfmbahaaGreatDoorMHPrints
import Derived.Test.YtjlclkenfmbahaaGreatDoorMPurePrB
import Derived.Test.YtjlclkenfmbahaaGreatDoorMG
import Derived.Deep.Slices
import Derived.ChangeArms
import Derived.Carry
import Derived.Test.YtjlclkenfmbahaaGreatDoorMPAx0
namespace Go.Proofs.YtjlclkenfmbahaaGreatDoor.Gr
open Go.RowKit Go.ChangeShapes Go.WideShapes Go.Proofs.YtjlclkenfmbahaaGreatDoorW.PrintWords Go.Proofs.YtjlclkenfmbahaaGreatDoorW.PrintLast Go.Proofs.YtjlclkenfmbahaaGreatDoor.PA
set_option linter.unusedVariables false
set_option linter.unusedSimpArgs false
instance : Inhabited S57 := ⟨⟨0, 0, ⟨#[]⟩, 0, 0⟩⟩
theorem five {α : Type} : ∀ (l : List α), l.length = 5 → ∃ v0 v1 v2 v3 v4, l = [v0, v1, v2, v3, v4]
 | [v0, v1, v2, v3, v4], _ => ⟨v0, v1, v2, v3, v4, rfl⟩
theorem tok_of {H : Type} {enc : TypeId × Value → H} {W : World} {base : Nat} {spare : Nat → Bool} {held : Bool} {fuel : Nat} {cs : List Value} {x : DataW H × List MemPlace} (h : DataW.trod enc Tryz.prog W base spare held fuel 57 cs = some x) :
  ∃ t : S57, cs = [.int .i64 t.f0, .int .i64 t.f1, .string t.f2, .int .i64 t.f3, .int .i64 t.f4] ∧ tokIn t = true := by
 obtain ⟨xs, n, _, _, hl, hxl, hf⟩ := DataW.trod_struct Tryz.underlying57 h
 have hc : Tryz.prog.cellsOf 57 = 5 := by kernel_rfl
 have c2 : Tryz.prog.cellsOf 2 = 1 := by kernel_rfl
 have c3 : Tryz.prog.cellsOf 3 = 1 := by kernel_rfl
 have c9 : Tryz.prog.cellsOf 9 = 1 := by kernel_rfl
 rw [hc] at hl
 have hxl : xs.length = 5 := hxl
 obtain ⟨y0, y1, y2, y3, y4, rfl⟩ := five xs hxl
 obtain ⟨v0, v1, v2, v3, v4, rfl⟩ := five cs hl
 have g0 : DataW.trod enc Tryz.prog W base spare held n 3 [v0] = some y0 := by
  have g : DataW.trod enc Tryz.prog W base spare held n 3 ((([v0, v1, v2, v3, v4] : List Value).drop 0).take (Tryz.prog.cellsOf 3)) = some y0 := hf 0 _ rfl
  rw [c3] at g
  exact g
 have g1 : DataW.trod enc Tryz.prog W base spare held n 3 [v1] = some y1 := by
  have g : DataW.trod enc Tryz.prog W base spare held n 3 ((([v0, v1, v2, v3, v4] : List Value).drop 1).take (Tryz.prog.cellsOf 3)) = some y1 := hf 1 _ rfl
  rw [c3] at g
  exact g
 have g2 : DataW.trod enc Tryz.prog W base spare held n 9 [v2] = some y2 := by
  have g : DataW.trod enc Tryz.prog W base spare held n 9 ((([v0, v1, v2, v3, v4] : List Value).drop 2).take (Tryz.prog.cellsOf 9)) = some y2 := hf 2 _ rfl
  rw [c9] at g
  exact g
 have g3 : DataW.trod enc Tryz.prog W base spare held n 2 [v3] = some y3 := by
  have g : DataW.trod enc Tryz.prog W base spare held n 2 ((([v0, v1, v2, v3, v4] : List Value).drop 3).take (Tryz.prog.cellsOf 2)) = some y3 := hf 3 _ rfl
  rw [c2] at g
  exact g
 have g4 : DataW.trod enc Tryz.prog W base spare held n 2 [v4] = some y4 := by
  have g : DataW.trod enc Tryz.prog W base spare held n 2 ((([v0, v1, v2, v3, v4] : List Value).drop 4).take (Tryz.prog.cellsOf 2)) = some y4 := hf 4 _ rfl
  rw [c2] at g
  exact g
 obtain ⟨n0, e0, _, _⟩ := DataW.trod_int Tryz.underlying3 (x := y0) g0
 obtain ⟨n1, e1, _, _⟩ := DataW.trod_int Tryz.underlying3 (x := y1) g1
 obtain ⟨s2, e2, _, w2⟩ := DataW.trod_string Tryz.underlying9 (x := y2) g2
 obtain ⟨n3, e3, _, w3⟩ := DataW.trod_int Tryz.underlying2 (x := y3) g3
 obtain ⟨n4, e4, _, w4⟩ := DataW.trod_int Tryz.underlying2 (x := y4) g4
 simp at e0 e1 e2 e3 e4
 subst e0 e1 e2 e3 e4
 refine ⟨⟨n0, n1, s2, n3, n4⟩, rfl, ?_⟩
 have bd : ∀ {x : Int}, (Lit.int .i64 x).wf = true → -9223372036854775808 ≤ x ∧ x ≤ 9223372036854775807 := fun h => by
  simpa [Lit.wf, IntKind.min, IntKind.max, IntKind.signed, IntKind.bits] using h
 have b3 := bd w3
 have b4 := bd w4
 have b2 : s2.size ≤ 9223372036854775807 := by unfold maxLen at w2; omega
 unfold tokIn
 dsimp only
 rw [decide_eq_true b2, decide_eq_true b3.1, decide_eq_true b3.2, decide_eq_true b4.1, decide_eq_true b4.2]
 rfl
theorem open_toks {H : Type} {enc : TypeId × Value → H} {W : World} {base : Nat} {spare : Nat → Bool} {held : Bool} {a : Option Addr} {len cap : Nat} {d : DataW H} {ps : List MemPlace} (h : DataW.Trod enc Tryz.prog W base spare held 22 (.slice a len cap) d ps) :
  ∃ zs : List S57, zs.length = len ∧ Kd.C k57 W a len zs ∧ (∀ t ∈ zs, tokIn t = true) ∧ len ≤ cap := by
 obtain ⟨fuel, hf⟩ := h
 rcases Go.Deep.open_slice Tryz.underlying22 hf with ⟨hcs, _⟩ | ⟨x, l, c, m, n, D, Pl, hcs, _, hl, hm, hmm, _, hx⟩
 ·simp [Value.cells] at hcs
  obtain ⟨rfl, rfl, rfl⟩ := hcs
  exact ⟨[], rfl, Kd.C_nil _ _, fun t ht => absurd ht (List.not_mem_nil (a := t)), Nat.le_refl _⟩
 ·simp [Value.cells] at hcs
  obtain ⟨rfl, rfl, rfl⟩ := hcs
  have hc : Tryz.prog.cellsOf 57 = 5 := by kernel_rfl
  rw [hc] at hx
  have hlm : len ≤ m := by rw [hmm]; split <;> omega
  have each : ∀ i, i < len → ∃ t : S57, W.cells? base (x.add (i * 5)) 5 = some [.int .i64 t.f0, .int .i64 t.f1, .string t.f2, .int .i64 t.f3, .int .i64 t.f4] ∧ tokIn t = true := fun i hi => by
   obtain ⟨cs, h1, h2⟩ := hx i (by omega)
   obtain ⟨t, rfl, ht⟩ := tok_of h2
   exact ⟨t, h1, ht⟩
  obtain ⟨q, hq⟩ := Go.Deep.choose_lt each
  have hmx : len ≤ 9223372036854775807 := by
   have e : maxLen = 9223372036854775807 := by unfold maxLen; rfl
   omega
  refine ⟨(List.range len).map q, by simp, ⟨by simp, hmx, fun hpos => ⟨x, rfl, fun j p hp => ?_⟩⟩, fun t ht => ?_, hl⟩
  ·have hj : j < len := by
    have := (List.getElem?_eq_some_iff.1 hp).1
    simpa using this
   have hpj : q j = p := by simpa [hj] using hp
   subst hpj
   obtain ⟨_, _, hcell⟩ := World.cells?_some (hq j hj).1
   refine ⟨_, rfl, k57_mk W (q j), fun i u hu => ?_⟩
   have hi : i < 5 := (List.getElem?_eq_some_iff.1 hu).1
   have := hcell i hi
   rw [Go.Deep.add_add] at this
   exact this.trans hu
  ·obtain ⟨j, hj, rfl⟩ := List.mem_map.1 ht
   exact (hq j (List.mem_range.1 hj)).2
theorem prints_walk (zs : List S57) (a : Option Addr) (cap : Nat) (W : World) (hT : Tabs W) (hC : Kd.C k57 W a zs.length zs) (hin : ∀ t ∈ zs, tokIn t = true) (hcap : zs.length ≤ cap) :
  Calls Tryz.prog 3 #[.slice a zs.length cap] W fun e w' => e = .returned (.bool true) ∧ Below W.heap.size W w' :=
 prints_calls a cap zs W hT hC hcap hin (fun ks h1 h2 h3 => print_both ks (by omega) h3) (fun h => by
  obtain ⟨K, hK⟩ := same_refl zs (by omega)
  exact ⟨K, hK K (Nat.le_refl _)⟩)
end Go.Proofs.YtjlclkenfmbahaaGreatDoor.Gr
