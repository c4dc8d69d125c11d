/- What the law DaysDue keeps: the two lists and the room's lists in memory. Conditions: each law's own. -/
import Derived.Test.YtlipkhhpjelicaaHInts
namespace Go.Proofs.Ytlipkhhpjelicaa.PA
open Go.RowKit Go.Proofs.YtlipkhhpjelicaaW.PrintWords Go.Proofs.YtlipkhhpjelicaaW.PrintLast Go.Proofs.YtlipkhhpjelicaaW.PrintMore
set_option linter.unusedVariables false

/-- The list handed in (its row has forty marks behind it), the kept list, the room's row and the room. -/
structure DueSt (w W : World) (F cap G B2 c2 : Nat) (Ak : Option Addr) (ck N : Nat) (cg : Array Value) (ks ls : List Int) : Prop where
  full : W.ownsRow w.heap.size 3 1 (.slice (some ⟨F, 0, none⟩) (ks ++ marksL 40).length cap) (ks ++ marksL 40).length (nums .i64 (ks ++ marksL 40))
  kept : W.ownsRow w.heap.size 3 1 (.slice Ak ls.length ck) ls.length (nums .i64 ls)
  row : W.ownsRow w.heap.size 23 1 (.slice (some ⟨B2, 0, none⟩) 1 c2) 1 [.slice (some ⟨F, 0, none⟩) (N + 40) cap]
  room : W.heap[G]? = some (.cells cg 47 (0, 0))
  ne : ∀ a, Ak = some a → a.block ≠ F
  below : Below w.heap.size w W
  lk : ks.length = N
  ll : ls.length = N

theorem DueSt.go {w W W' : World} {F cap G B2 c2 : Nat} {Ak : Option Addr} {ck N : Nat} {cg : Array Value} {ks ls : List Int} (h : DueSt w W F cap G B2 c2 Ak ck N cg ks ls) (hb : Below W.heap.size W W') : DueSt w W' F cap G B2 c2 Ak ck N cg ks ls :=
  ⟨pw_own_below h.full hb, pw_own_below h.kept hb, pw_own_below h.row hb, blk_below h.room hb, h.ne, h.below.trans (hb.mono h.below.size), h.lk, h.ll⟩

section
variable {w W : World} {F cap G B2 c2 : Nat} {Ak : Option Addr} {ck N : Nat} {cg : Array Value} {ks ls : List Int}

theorem DueSt.cellIn (h : DueSt w W F cap G B2 c2 Ak ck N cg ks ls) {i : Nat} {x : Int} (hx : ks[i]? = some x) : W.cell? ⟨F, i, none⟩ = some (.int .i64 x) ∧ W.frozen? ⟨F, i, none⟩ = false := by
  have hi : i < ks.length := (List.getElem?_eq_some_iff.1 hx).1
  have h1 := own_at h.full (i : Int) (by omega) (by rw [List.length_append]; omega)
  have h2 : rd (ks ++ marksL 40) (i : Int) = x := by
    unfold rd
    rw [Int.toNat_natCast, List.getD_eq_getElem?_getD, List.getElem?_append_left hi, hx]; rfl
  rw [h2, Int.toNat_natCast] at h1
  exact h1
theorem DueSt.mark (h : DueSt w W F cap G B2 c2 Ak ck N cg ks ls) {k : Nat} (hk : k < 40) : W.cell? ⟨F, N + k, none⟩ = some (.int .i64 (markS k)) := by
  have hl := h.lk
  have h1 := (own_at h.full ((N + k : Nat) : Int) (by omega) (by rw [List.length_append, marksL_len]; omega)).1
  have h2 : rd (ks ++ marksL 40) ((N + k : Nat) : Int) = markS k := by
    unfold rd
    rw [Int.toNat_natCast, List.getD_eq_getElem?_getD, List.getElem?_append_right (by omega), show N + k - ks.length = k by omega]
    unfold marksL
    rw [List.getElem?_map, List.getElem?_range hk]; rfl
  rw [h2, Int.toNat_natCast] at h1
  exact h1
theorem DueSt.keptAt (h : DueSt w W F cap G B2 c2 Ak ck N cg ks ls) (hN : 0 < N) : ∃ K, Ak = some ⟨K, 0, none⟩ ∧ K ≠ F := by
  have hl := h.ll
  obtain ⟨K, c, e⟩ := own_form h.kept (by omega)
  injection e with e1 e2 e3
  exact ⟨K, e1, h.ne _ e1⟩
theorem DueSt.cellKept {K : Nat} (h : DueSt w W F cap G B2 c2 (some ⟨K, 0, none⟩) ck N cg ks ls) {i : Nat} {x : Int} (hx : ls[i]? = some x) : W.cell? ⟨K, i, none⟩ = some (.int .i64 x) ∧ W.frozen? ⟨K, i, none⟩ = false := by
  have hi : i < ls.length := (List.getElem?_eq_some_iff.1 hx).1
  have h1 := own_at h.kept (i : Int) (by omega) (by omega)
  have h2 : rd ls (i : Int) = x := by
    unfold rd
    rw [Int.toNat_natCast, List.getD_eq_getElem?_getD, hx]; rfl
  rw [h2, Int.toNat_natCast] at h1
  exact h1
theorem DueSt.readIn (h : DueSt w W F cap G B2 c2 Ak ck N cg ks ls) (hN : N ≤ 9223372036854775807) : Kd.C (Kd.int .i64) W (some ⟨F, 0, none⟩) ks.length ks := by
  have hl := h.lk
  refine Kd.C_of_reads (d := (0 : Int)) (h1 := fun _ => rfl) ⟨rfl, by omega, fun _ => ⟨_, rfl, fun j hj => ?_⟩⟩
  have hadd : (⟨F, 0, none⟩ : Addr).add j = ⟨F, j, none⟩ := by unfold Addr.add; split <;> simp_all
  rw [hadd]
  have := (h.cellIn (List.getElem?_eq_getElem hj)).1
  rw [this, List.getD_eq_getElem?_getD, List.getElem?_eq_getElem hj]; rfl
theorem DueSt.readKept (h : DueSt w W F cap G B2 c2 Ak ck N cg ks ls) : Kd.C (Kd.int .i64) W Ak ls.length ls ∧ ls.length ≤ ck :=
  ⟨Kd.C_of_reads (d := (0 : Int)) (h1 := fun _ => rfl) (own_reads' h.kept), own_cap h.kept⟩
theorem DueSt.roomCell (h : DueSt w W F cap G B2 c2 Ak ck N cg ks ls) {j : Nat} {v : Value} (hj : cg[j]? = some v) : W.cell? ⟨G, j, none⟩ = some v := (blk_cell h.room j).trans hj
theorem DueSt.rowCell (h : DueSt w W F cap G B2 c2 Ak ck N cg ks ls) : W.cell? ⟨B2, 0, none⟩ = some (.slice (some ⟨F, 0, none⟩) (N + 40) cap) := by
  have := h.row.cells (g := B2) rfl 0 _ rfl
  simpa [Addr.add] using this
/-- The same number is written into both lists. -/
theorem DueSt.put {K : Nat} (h : DueSt w W F cap G B2 c2 (some ⟨K, 0, none⟩) ck N cg ks ls) {i : Nat} (hi : i < N) (x : Int) :
    DueSt w ((W.setCell ⟨F, i, none⟩ (.int .i64 x)).setCell ⟨K, i, none⟩ (.int .i64 x)) F cap G B2 c2 (some ⟨K, 0, none⟩) ck N cg (ks.set i x) (ls.set i x) := by
  have hne : K ≠ F := h.ne _ rfl
  have hlk := h.lk
  have hll := h.ll
  obtain ⟨cF, bF⟩ := own_typed h.full F rfl
  obtain ⟨cK, bK⟩ := own_typed h.kept K rfl
  have gF := own_base h.full F rfl
  have gK := own_base h.kept K rfl
  have neF : G ≠ F := blk_ne h.room bF (by decide)
  have neK : G ≠ K := blk_ne h.room bK (by decide)
  have rF := own_ne h.row bF (by decide)
  have rK := own_ne h.row bK (by decide)
  have eset : (ks ++ marksL 40).set i x = ks.set i x ++ marksL 40 := List.set_append_left _ _ (by omega)
  have p1 := own_put h.full (i : Int) x
  rw [Int.toNat_natCast] at p1
  have el : (ks ++ marksL 40).length = (ks.set i x ++ marksL 40).length := by simp
  have p2 := own_put (own_setCell h.kept (p := ⟨F, i, none⟩) (by simp [Value.ownBlock]; exact fun e => hne e.symm) (.int .i64 x)) (i : Int) x
  rw [Int.toNat_natCast] at p2
  refine ⟨?_, ?_, own_setCell (own_setCell h.row (p := ⟨F, i, none⟩) rF _) (p := ⟨K, i, none⟩) rK _, blk_far (blk_far h.room (p := ⟨F, i, none⟩) neF _) (p := ⟨K, i, none⟩) neK _, h.ne, (h.below.setCell (p := ⟨F, i, none⟩) gF _).setCell (p := ⟨K, i, none⟩) gK _, by rw [List.length_set]; exact hlk, by rw [List.length_set]; exact hll⟩
  · rw [← eset, List.length_set]
    rw [List.length_set] at p1
    exact own_setCell p1 (p := ⟨K, i, none⟩) (by simp [Value.ownBlock]; exact hne) _
  · rw [List.length_set]
    rw [List.length_set] at p2
    exact p2
end
/-- An empty room. -/
def roomNil : Array Value := #[.slice none 0 0, .slice none 0 0, .slice none 0 0, .slice none 0 0, .slice none 0 0, .slice none 0 0, .slice none 0 0, .slice none 0 0, .slice none 0 0, .slice none 0 0, .slice none 0 0, .slice none 0 0, .slice none 0 0, .slice none 0 0, .slice none 0 0, .slice none 0 0, .slice none 0 0, .slice none 0 0, .slice none 0 0, .slice none 0 0, .slice none 0 0]

theorem due_start {w W0 wf : World} {G F cap B2 c2 : Nat} {Ak : Option Addr} {ck : Nat} {xs : List Int} (hb0 : Below w.heap.size w W0) (hk : W0.ownsRow w.heap.size 3 1 (.slice Ak xs.length ck) xs.length (nums .i64 xs)) (hG : W0.heap[G]? = some (.cells roomNil 47 (0, 0))) (hge : w.heap.size ≤ G)
    (hf : wf.ownsRow W0.heap.size 3 1 (.slice (some ⟨F, 0, none⟩) (xs.length + 40) cap) (xs ++ marksL 40).length (nums .i64 (xs ++ marksL 40))) (hr : wf.ownsRow W0.heap.size 23 1 (.slice (some ⟨B2, 0, none⟩) 1 c2) 1 [.slice (some ⟨F, 0, none⟩) (xs.length + 40) cap]) (hb : Below W0.heap.size W0 wf) :
    DueSt w (wf.setCell ⟨G, 1, none⟩ (.slice (some ⟨B2, 0, none⟩) 1 c2)) F cap G B2 c2 Ak ck xs.length (roomNil.setIfInBounds 1 (.slice (some ⟨B2, 0, none⟩) 1 c2)) xs xs := by
  have hG2 := blk_below hG hb
  have hk2 := pw_own_below hk hb
  have el : (xs ++ marksL 40).length = xs.length + 40 := by rw [List.length_append, marksL_len]
  refine ⟨?_, own_setCell hk2 (p := ⟨G, 1, none⟩) (own_ne hk2 hG2 (by decide)) _, own_less (own_setCell hr (p := ⟨G, 1, none⟩) (own_ne hr hG2 (by decide)) _) hb0.size, blk_set hG2 1 _, ?_, (hb0.trans (hb.mono hb0.size)).setCell (p := ⟨G, 1, none⟩) hge _, rfl, rfl⟩
  · have := own_setCell hf (p := ⟨G, 1, none⟩) (own_ne hf hG2 (by decide)) (.slice (some ⟨B2, 0, none⟩) 1 c2)
    rw [el] at this ⊢
    exact own_less this hb0.size
  · intro a ha
    have h1 := own_lt hk a.block (by rw [ha]; rfl)
    have h2 := own_base hf F rfl
    omega
end Go.Proofs.Ytlipkhhpjelicaa.PA
