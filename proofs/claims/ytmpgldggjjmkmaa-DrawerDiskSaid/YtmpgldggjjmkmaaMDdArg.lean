/- A list of files and a script that came in: what their cells hold, and that they are ones that can be. No condition. -/
import Derived.Test.YtmpgldggjjmkmaaMHDrawerDisk
import Derived.Deep.Slices
import Derived.ChangeArms
import Derived.ChangeSlices
import Derived.SizedLaws
import Derived.Carry
import Derived.Test.YtmpgldggjjmkmaaML
namespace Go.Proofs.Ytmpgldggjjmkmaa.Dd
open Go.RowKit Go.ChangeShapes Go.WideShapes Go.Proofs.YtmpgldggjjmkmaaW.PrintWords Go.Proofs.YtmpgldggjjmkmaaW.PrintLast Go.Proofs.Ytmpgldggjjmkmaa.PA
set_option linter.unusedVariables false
set_option linter.unusedSimpArgs false
def DW {H : Type} (P : Program) (t : TypeId) (d : DataW H) : Prop := ∀ n ∈ d.weights P t, n ≤ reachBytes
section
variable {H : Type} {P : Program} {t e : TypeId}
theorem dw_of {ts : List TypeId} {ds : List (DataW H)} {j : Nat} {d : DataW H} (hsz : (DataW.weightsEach P ts ds).all (· ≤ reachBytes) = true) (ht : ts[j]? = some t) (hd : ds[j]? = some d) : DW P t d := fun n hn => by
  have := List.all_eq_true.1 hsz _ (DataW.weights_mem_each ht hd n hn)
  simpa using this
theorem weightsAll_mem {n : Nat} {d : DataW H} : ∀ {ds : List (DataW H)}, d ∈ ds → n ∈ d.weights P e → n ∈ DataW.weightsAll P e ds
  | d0 :: r, h, hn => by
    rw [DataW.weightsAll, List.mem_append]
    rcases List.mem_cons.1 h with rfl | h
    · exact .inl hn
    · exact .inr (weightsAll_mem h hn)
theorem DW.slice {elems spare : List (DataW H)} (h : DW P t (.slice elems spare)) (hu : P.underlying t = some (.slice e)) : (elems.length + spare.length) * P.bytesOf e ≤ reachBytes ∧ ∀ d ∈ elems, DW P e d := by
  refine ⟨h _ (by simp [DataW.weights, hu]), fun d hd n hn => h n ?_⟩
  have := weightsAll_mem (P := P) (e := e) hd hn
  simp [DataW.weights, hu, this]
theorem DW.agg {parts : List (DataW H)} {fs : Array Field} (h : DW P t (.agg parts)) (hu : P.underlying t = some (.struct fs)) {i : Nat} {f : Field} {d : DataW H} (hf : fs[i]? = some f) (hd : parts[i]? = some d) : DW P f.type d := fun n hn => by
  refine h n ?_
  have ht : (fs.toList.map (·.type))[i]? = some f.type := by rw [List.getElem?_map, Array.getElem?_toList, hf]; rfl
  have := DataW.weights_mem_each ht hd n hn
  rw [DataW.weights, hu]
  exact this
theorem DW.string {s : ByteArray} (h : DW (H := H) P t (.lit (.string s.data.toList))) : s.size ≤ reachBytes := by
  have := h s.data.toList.length (by simp [DataW.weights])
  simpa using this
end
theorem reach_eq : reachBytes = 140737488351232 := rfl
section
variable {H : Type} {enc : TypeId × Value → H} {W : World} {base : Nat} {spare : Nat → Bool} {held : Bool} {n : Nat}
theorem ints_of {t e : TypeId} {k : IntKind} {v : Value} {x : DataW H × List MemPlace} (hu : Try.prog.underlying t = some (.slice e)) (he : Try.prog.underlying e = some (.int k)) (hc : Try.prog.cellsOf e = 1)
    (h : DataW.trod enc Try.prog W base spare held n t [v] = some x) (hw : DW Try.prog t x.1) : ∃ A c, ∃ xs : List Int, v = .slice A xs.length c ∧ xs.length ≤ c ∧ ReadsInt W k A xs.length xs ∧ xs.length * Try.prog.bytesOf e ≤ reachBytes := by
  rcases open_ints hu he hc h with ⟨hcs, _⟩ | ⟨a, l, c, zs, hcs, _, hl, hm, hz, hx, hcell, _⟩
  · simp at hcs
    subst hcs
    exact ⟨none, 0, [], rfl, Nat.le_refl _, ⟨rfl, by simp, fun h0 => by simp at h0⟩, by simp⟩
  · simp at hcs
    subst hcs
    have hlz : l ≤ zs.length := by rw [hz]; split <;> omega
    have hlen : (zs.take l).length = l := by rw [List.length_take]; omega
    have hmx : c ≤ 9223372036854775807 := by
      have e : maxLen = 9223372036854775807 := by unfold maxLen; rfl
      omega
    refine ⟨some a, c, zs.take l, by rw [hlen], by rw [hlen]; exact hl, ⟨rfl, by rw [hlen]; omega, fun _ => ⟨a, rfl, fun j hj => ?_⟩⟩, ?_⟩
    · rw [hlen] at hj
      rw [hcell j (by omega), List.getD_eq_getElem?_getD, List.getD_eq_getElem?_getD, List.getElem?_take, if_pos hj]
    · subst hx
      have := (hw.slice hu).1
      have e1 : (lits (H := H) k (zs.take l)).length = l := by simp [lits]; omega
      rw [e1] at this
      rw [hlen]
      exact Nat.le_trans (Nat.mul_le_mul_right _ (Nat.le_add_right _ _)) this
theorem three {α : Type} : ∀ (l : List α), l.length = 3 → ∃ v0 v1 v2, l = [v0, v1, v2]
  | [v0, v1, v2], _ => ⟨v0, v1, v2, rfl⟩
theorem eight {α : Type} : ∀ (l : List α), l.length = 8 → ∃ v0 v1 v2 v3 v4 v5 v6 v7, l = [v0, v1, v2, v3, v4, v5, v6, v7]
  | [v0, v1, v2, v3, v4, v5, v6, v7], _ => ⟨v0, v1, v2, v3, v4, v5, v6, v7, rfl⟩
theorem c3 : Try.prog.cellsOf 3 = 1 := by kernel_rfl
theorem c4 : Try.prog.cellsOf 4 = 1 := by kernel_rfl
theorem c5 : Try.prog.cellsOf 5 = 1 := by kernel_rfl
theorem c9 : Try.prog.cellsOf 9 = 1 := by kernel_rfl
theorem cB : Try.prog.cellsOf 34 = 1 := by kernel_rfl
theorem cI : Try.prog.cellsOf 35 = 1 := by kernel_rfl
theorem cU : Try.prog.cellsOf 36 = 1 := by kernel_rfl
theorem bd {x : Int} (h : (Lit.int .i64 x).wf = true) : -9223372036854775808 ≤ x ∧ x ≤ 9223372036854775807 := by
  simpa [Lit.wf, IntKind.min, IntKind.max, IntKind.signed, IntKind.bits] using h
def FlGot (W : World) (cs : List Value) (f : Fl) : Prop := k74.K W f cs ∧ cs.length = 3 ∧ f.f0.size ≤ 140737488351232 ∧ f.f1.length ≤ 140737488351232
theorem file_of {cs : List Value} {x : DataW H × List MemPlace} (h : DataW.trod enc Try.prog W base spare held n 74 cs = some x) (hw : DW Try.prog 74 x.1) : ∃ f : Fl, FlGot W cs f := by
  obtain ⟨xs, m, _, rfl, hl, hxl, hf⟩ := DataW.trod_struct Try.underlying74 h
  have hc : Try.prog.cellsOf 74 = 3 := by kernel_rfl
  rw [hc] at hl
  have hxl : xs.length = 3 := hxl
  obtain ⟨y0, y1, y2, rfl⟩ := three xs hxl
  obtain ⟨v0, v1, v2, rfl⟩ := three cs hl
  have g0 : DataW.trod enc Try.prog W base spare held m 9 [v0] = some y0 := by
    have g : DataW.trod enc Try.prog W base spare held m 9 ((([v0, v1, v2] : List Value).drop 0).take (Try.prog.cellsOf 9)) = some y0 := hf 0 _ rfl
    rw [c9] at g; exact g
  have g1 : DataW.trod enc Try.prog W base spare held m 34 [v1] = some y1 := by
    have g : DataW.trod enc Try.prog W base spare held m 34 ((([v0, v1, v2] : List Value).drop 1).take (Try.prog.cellsOf 34)) = some y1 := hf 1 _ rfl
    rw [cB] at g; exact g
  have g2 : DataW.trod enc Try.prog W base spare held m 3 [v2] = some y2 := by
    have g : DataW.trod enc Try.prog W base spare held m 3 ((([v0, v1, v2] : List Value).drop 2).take (Try.prog.cellsOf 3)) = some y2 := hf 2 _ rfl
    rw [c3] at g; exact g
  have w0 : DW Try.prog 9 y0.1 := hw.agg Try.underlying74 (i := 0) rfl rfl
  have w1 : DW Try.prog 34 y1.1 := hw.agg Try.underlying74 (i := 1) rfl rfl
  obtain ⟨s0, e0, d0, _⟩ := DataW.trod_string Try.underlying9 (x := y0) g0
  obtain ⟨A1, k1, z1, rfl, l1, r1, b1⟩ := ints_of Try.underlying34 Try.underlying5 c5 g1 w1
  obtain ⟨n2, e2, _, _⟩ := DataW.trod_int Try.underlying3 (x := y2) g2
  simp at e0 e2
  subst e0 e2 d0
  have hs := DW.string w0
  rw [reach_eq] at hs b1
  have hB : Try.prog.bytesOf 5 = 1 := by kernel_rfl
  rw [hB, Nat.mul_one] at b1
  exact ⟨⟨s0, z1, n2⟩, k74_mk W ⟨s0, z1, n2⟩ l1 (Kd.C_of_reads (d := (0 : Int)) (readsInt_of.1 r1)), rfl, hs, b1⟩
theorem op_of {cs : List Value} {x : DataW H × List MemPlace} (h : DataW.trod enc Try.prog W base spare held n 38 cs = some x) (hw : DW Try.prog 38 x.1) : ∃ o : OpV, cs = o.cells.toList ∧ OpIn W o := by
  obtain ⟨xs, m, _, rfl, hl, hxl, hf⟩ := DataW.trod_struct Try.underlying38 h
  have hc : Try.prog.cellsOf 38 = 8 := by kernel_rfl
  rw [hc] at hl
  have hxl : xs.length = 8 := hxl
  obtain ⟨y0, y1, y2, y3, y4, y5, y6, y7, rfl⟩ := eight xs hxl
  obtain ⟨v0, v1, v2, v3, v4, v5, v6, v7, rfl⟩ := eight cs hl
  have g0 : DataW.trod enc Try.prog W base spare held m 3 [v0] = some y0 := by
    have g : DataW.trod enc Try.prog W base spare held m 3 ((([v0, v1, v2, v3, v4, v5, v6, v7] : List Value).drop 0).take (Try.prog.cellsOf 3)) = some y0 := hf 0 _ rfl
    rw [c3] at g; exact g
  have g1 : DataW.trod enc Try.prog W base spare held m 3 [v1] = some y1 := by
    have g : DataW.trod enc Try.prog W base spare held m 3 ((([v0, v1, v2, v3, v4, v5, v6, v7] : List Value).drop 1).take (Try.prog.cellsOf 3)) = some y1 := hf 1 _ rfl
    rw [c3] at g; exact g
  have g2 : DataW.trod enc Try.prog W base spare held m 3 [v2] = some y2 := by
    have g : DataW.trod enc Try.prog W base spare held m 3 ((([v0, v1, v2, v3, v4, v5, v6, v7] : List Value).drop 2).take (Try.prog.cellsOf 3)) = some y2 := hf 2 _ rfl
    rw [c3] at g; exact g
  have g3 : DataW.trod enc Try.prog W base spare held m 4 [v3] = some y3 := by
    have g : DataW.trod enc Try.prog W base spare held m 4 ((([v0, v1, v2, v3, v4, v5, v6, v7] : List Value).drop 3).take (Try.prog.cellsOf 4)) = some y3 := hf 3 _ rfl
    rw [c4] at g; exact g
  have g4 : DataW.trod enc Try.prog W base spare held m 9 [v4] = some y4 := by
    have g : DataW.trod enc Try.prog W base spare held m 9 ((([v0, v1, v2, v3, v4, v5, v6, v7] : List Value).drop 4).take (Try.prog.cellsOf 9)) = some y4 := hf 4 _ rfl
    rw [c9] at g; exact g
  have g5 : DataW.trod enc Try.prog W base spare held m 34 [v5] = some y5 := by
    have g : DataW.trod enc Try.prog W base spare held m 34 ((([v0, v1, v2, v3, v4, v5, v6, v7] : List Value).drop 5).take (Try.prog.cellsOf 34)) = some y5 := hf 5 _ rfl
    rw [cB] at g; exact g
  have g6 : DataW.trod enc Try.prog W base spare held m 35 [v6] = some y6 := by
    have g : DataW.trod enc Try.prog W base spare held m 35 ((([v0, v1, v2, v3, v4, v5, v6, v7] : List Value).drop 6).take (Try.prog.cellsOf 35)) = some y6 := hf 6 _ rfl
    rw [cI] at g; exact g
  have g7 : DataW.trod enc Try.prog W base spare held m 36 [v7] = some y7 := by
    have g : DataW.trod enc Try.prog W base spare held m 36 ((([v0, v1, v2, v3, v4, v5, v6, v7] : List Value).drop 7).take (Try.prog.cellsOf 36)) = some y7 := hf 7 _ rfl
    rw [cU] at g; exact g
  have w4 : DW Try.prog 9 y4.1 := hw.agg Try.underlying38 (i := 4) rfl rfl
  have w5 : DW Try.prog 34 y5.1 := hw.agg Try.underlying38 (i := 5) rfl rfl
  have w6 : DW Try.prog 35 y6.1 := hw.agg Try.underlying38 (i := 6) rfl rfl
  obtain ⟨n0, e0, _, f0⟩ := DataW.trod_int Try.underlying3 (x := y0) g0
  obtain ⟨n1, e1, _, f1⟩ := DataW.trod_int Try.underlying3 (x := y1) g1
  obtain ⟨n2, e2, _, f2⟩ := DataW.trod_int Try.underlying3 (x := y2) g2
  obtain ⟨n3, e3, _⟩ := DataW.trod_bool Try.underlying4 (x := y3) g3
  obtain ⟨s4, e4, d4, _⟩ := DataW.trod_string Try.underlying9 (x := y4) g4
  obtain ⟨A5, k5, z5, rfl, l5, r5, b5⟩ := ints_of Try.underlying34 Try.underlying5 c5 g5 w5
  obtain ⟨A6, k6, z6, rfl, l6, r6, b6⟩ := ints_of Try.underlying35 Try.underlying3 c3 g6 w6
  obtain ⟨n7, e7, _, _⟩ := DataW.trod_int Try.underlying36 (x := y7) g7
  simp at e0 e1 e2 e3 e4 e7
  subst e0 e1 e2 e3 e4 e7 d4
  have hs := DW.string w4
  rw [reach_eq] at hs b5 b6
  have hB : Try.prog.bytesOf 5 = 1 := by kernel_rfl
  have hI : Try.prog.bytesOf 3 = 8 := by kernel_rfl
  rw [hB, Nat.mul_one] at b5
  rw [hI] at b6
  exact ⟨⟨n0, n1, n2, n3, s4, A5, k5, z5, A6, k6, z6, n7⟩, rfl, (bd f1).1, (bd f1).2, (bd f2).1, (bd f2).2, Nat.le_trans hs (by omega), r5, l5, b5, r6, by show z6.length < _; omega⟩
end
instance : Inhabited Fl := ⟨⟨⟨#[]⟩, [], 0⟩⟩
instance : Inhabited OpV := ⟨⟨0, 0, 0, false, ⟨#[]⟩, none, 0, [], none, 0, [], 0⟩⟩
section
variable {H : Type} {enc : TypeId × Value → H} {W : World} {base : Nat} {spare : Nat → Bool} {held : Bool} {a : Option Addr} {len cap : Nat} {d : DataW H} {ps : List MemPlace}
theorem open_files (h : DataW.Trod enc Try.prog W base spare held 22 (.slice a len cap) d ps) (hw : DW Try.prog 22 d) :
    ∃ fs : List Fl, fs.length = len ∧ Kd.C k74 W a len fs ∧ len ≤ cap ∧ (∀ f ∈ fs, f.f0.size ≤ 140737488351232 ∧ f.f1.length ≤ 140737488351232) ∧ len * 48 ≤ 140737488351232 := by
  obtain ⟨fuel, hf⟩ := h
  rcases Go.Deep.open_slice Try.underlying22 hf with ⟨hcs, _⟩ | ⟨x, l, c, m, n, D, Pl, hcs, _, hl, hm, hmm, hd, hx⟩
  · simp [Value.cells] at hcs
    obtain ⟨rfl, rfl, rfl⟩ := hcs
    exact ⟨[], rfl, Kd.C_nil _ _, Nat.le_refl _, fun f hf => absurd hf (List.not_mem_nil (a := f)), by simp⟩
  · simp [Value.cells] at hcs
    obtain ⟨rfl, rfl, rfl⟩ := hcs
    obtain ⟨rfl, _⟩ := Prod.mk.inj hd
    obtain ⟨hsz, hel⟩ := hw.slice Try.underlying22
    have hc : Try.prog.cellsOf 74 = 3 := by kernel_rfl
    have hB : Try.prog.bytesOf 74 = 48 := by kernel_rfl
    rw [hB, reach_eq, List.length_map, List.length_range] at hsz
    rw [hc] at hx
    have hlm : len ≤ m := by rw [hmm]; split <;> omega
    have each : ∀ i, i < len → ∃ f : Fl, ∃ cs, W.cells? base (x.add (i * 3)) 3 = some cs ∧ FlGot W cs f := fun i hi => by
      obtain ⟨cs, h1, h2⟩ := hx i (by omega)
      obtain ⟨f, hf⟩ := file_of h2 (hel _ (List.mem_map.2 ⟨i, List.mem_range.2 hi, rfl⟩))
      exact ⟨f, cs, h1, hf⟩
    obtain ⟨q, hq⟩ := Go.Deep.choose_lt each
    have hmx : len ≤ 9223372036854775807 := by omega
    refine ⟨(List.range len).map q, by simp, ⟨by simp, hmx, fun hpos => ⟨x, rfl, fun j p hp => ?_⟩⟩, hl, fun f hf => ?_, by omega⟩
    · have hj : j < len := by
        have := (List.getElem?_eq_some_iff.1 hp).1
        simpa using this
      have hpj : q j = p := by simpa [hj] using hp
      subst hpj
      obtain ⟨cs, h1, h2, h3, _⟩ := hq j hj
      obtain ⟨_, _, hcell⟩ := World.cells?_some h1
      refine ⟨cs, h3, h2, fun i u hu => ?_⟩
      have hi : i < 3 := by have := (List.getElem?_eq_some_iff.1 hu).1; omega
      have := hcell i hi
      rw [Go.Deep.add_add] at this
      exact this.trans hu
    · obtain ⟨j, hj, rfl⟩ := List.mem_map.1 hf
      obtain ⟨cs, _, _, _, h4, h5⟩ := hq j (List.mem_range.1 hj)
      exact ⟨h4, h5⟩
theorem open_ops (h : DataW.Trod enc Try.prog W base spare held 23 (.slice a len cap) d ps) (hw : DW Try.prog 23 d) : ∃ os : List OpV, os.length = len ∧ OpsIn W a os := by
  obtain ⟨fuel, hf⟩ := h
  rcases Go.Deep.open_slice Try.underlying23 hf with ⟨hcs, _⟩ | ⟨x, l, c, m, n, D, Pl, hcs, _, hl, hm, hmm, hd, hx⟩
  · simp [Value.cells] at hcs
    obtain ⟨rfl, rfl, rfl⟩ := hcs
    exact ⟨[], rfl, by simp, fun i o ho => by simp at ho, fun i o ho => by simp at ho⟩
  · simp [Value.cells] at hcs
    obtain ⟨rfl, rfl, rfl⟩ := hcs
    obtain ⟨rfl, _⟩ := Prod.mk.inj hd
    obtain ⟨hsz, hel⟩ := hw.slice Try.underlying23
    have hc : Try.prog.cellsOf 38 = 8 := by kernel_rfl
    rw [hc] at hx
    have hlm : len ≤ m := by rw [hmm]; split <;> omega
    have each : ∀ i, i < len → ∃ o : OpV, W.cells? base (x.add (i * 8)) 8 = some o.cells.toList ∧ OpIn W o := fun i hi => by
      obtain ⟨cs, h1, h2⟩ := hx i (by omega)
      obtain ⟨o, rfl, ho⟩ := op_of h2 (hel _ (List.mem_map.2 ⟨i, List.mem_range.2 hi, rfl⟩))
      exact ⟨o, h1, ho⟩
    obtain ⟨q, hq⟩ := Go.Deep.choose_lt each
    have hmx : len ≤ 9223372036854775807 := by
      have e : maxLen = 9223372036854775807 := by unfold maxLen; rfl
      omega
    have hat : ∀ (i : Nat) (o : OpV), ((List.range len).map q)[i]? = some o → i < len ∧ q i = o := fun i o ho => by
      have hj : i < len := by
        have := (List.getElem?_eq_some_iff.1 ho).1
        simpa using this
      exact ⟨hj, by simpa [hj] using ho⟩
    refine ⟨(List.range len).map q, by simp, by simpa using hmx, fun i o ho => ?_, fun i o ho => ?_⟩
    · obtain ⟨hi, rfl⟩ := hat i o ho
      obtain ⟨_, _, hcell⟩ := World.cells?_some (hq i hi).1
      refine ⟨x, rfl, fun j u hu => ?_⟩
      have hj : j < 8 := (Array.getElem?_eq_some_iff.1 hu).1
      have := hcell j hj
      rw [Go.Deep.add_add] at this
      exact this.trans (by rw [Array.getElem?_toList]; exact hu)
    · obtain ⟨hi, rfl⟩ := hat i o ho
      exact (hq i hi).2
end
theorem drawerDisk_walk (a0 a1 : Option Addr) (n0 c0 n1 c1 : Nat) (fs : List Fl) (os : List OpV) (W : World) (h0 : fs.length = n0) (hC : Kd.C k74 W a0 n0 fs) (hc : n0 ≤ c0) (hs : ∀ f ∈ fs, f.f0.size ≤ 140737488351232 ∧ f.f1.length ≤ 140737488351232) (hn : n0 * 48 ≤ 140737488351232) (h1 : os.length = n1) (hO : OpsIn W a1 os) :
    Calls Try.prog 3 #[.slice a0 n0 c0, .slice a1 n1 c1] W fun e w' => e = .returned (.bool true) ∧ Below W.heap.size W w' := by
  subst h0 h1
  exact drawerDisk_calls a0 a1 c0 c1 fs os W hC hc (fun f hf => Nat.le_trans (hs f hf).1 (by omega)) (fun f hf => (hs f hf).2) hn hO
end Go.Proofs.Ytmpgldggjjmkmaa.Dd
