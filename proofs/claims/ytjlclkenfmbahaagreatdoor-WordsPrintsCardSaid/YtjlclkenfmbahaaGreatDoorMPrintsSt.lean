/- What the law WordsPrints keeps: the list lent by the room, with its marks, and the room's lists in memory. Conditions: each law's own. -/
import Derived.Test.YtjlclkenfmbahaaGreatDoorMToksRoom
import Derived.Test.YtjlclkenfmbahaaGreatDoorMPAx0
namespace Go.Proofs.YtjlclkenfmbahaaGreatDoor.PA
open Go.RowKit Go.Maps Go.Proofs.YtjlclkenfmbahaaGreatDoorW.PrintWords Go.Proofs.YtjlclkenfmbahaaGreatDoorW.PrintLast Go.Proofs.YtjlclkenfmbahaaGreatDoorW.PrintMore
set_option linter.unusedVariables false
set_option linter.unusedSimpArgs false
structure PrSt (w W : World) (F cap G B2 c2 N : Nat) (cg : Array Value) (ks : List S57) : Prop where
 full : TRw w.heap.size W (.slice (some ⟨F, 0, none⟩) (N + 40) cap) (ks ++ marksT 40)
 row : W.ownsRow w.heap.size 22 1 (.slice (some ⟨B2, 0, none⟩) 1 c2) 1 [.slice (some ⟨F, 0, none⟩) (N + 40) cap]
 room : W.heap[G]? = some (.cells cg 48 (0, 0))
 below : Below w.heap.size w W
 lk : ks.length = N
section
variable {w W W' : World} {F cap G B2 c2 N : Nat} {cg : Array Value} {ks : List S57}
theorem PrSt.go (h : PrSt w W F cap G B2 c2 N cg ks) (hb : Below W.heap.size W W') : PrSt w W' F cap G B2 c2 N cg ks :=
 ⟨Kd.R_below h.full hb, pw_own_below h.row hb, blk_below h.room hb, h.below.trans (hb.mono h.below.size), h.lk⟩
theorem PrSt.tok (h : PrSt w W F cap G B2 c2 N cg ks) {i : Nat} {t : S57} (ht : (ks ++ marksT 40)[i]? = some t) :
  (W.cell? ⟨F, i * 5, none⟩ = some (.int .i64 t.f0) ∧ W.cell? ⟨F, i * 5 + 1, none⟩ = some (.int .i64 t.f1) ∧ W.cell? ⟨F, i * 5 + 2, none⟩ = some (.string t.f2) ∧ W.cell? ⟨F, i * 5 + 3, none⟩ = some (.int .i64 t.f3) ∧ W.cell? ⟨F, i * 5 + 4, none⟩ = some (.int .i64 t.f4)) ∧ ∀ j, W.frozen? ⟨F, i * 5 + j, none⟩ = false := by
 have hi : i < (ks ++ marksT 40).length := (List.getElem?_eq_some_iff.1 ht).1
 have hl : (ks ++ marksT 40).length = N + 40 := by rw [List.length_append, marksT_len, h.lk]
 obtain ⟨c, hc, hM, hcell, hfr⟩ := Kd.R_elem h.full (mkT 0) (i : Int) (by omega) (by omega)
 rw [List.getD_eq_getElem?_getD, Int.toNat_natCast, ht] at hM
 rw [Int.toNat_natCast] at hcell hfr
 have e := k57_openM hM
 subst e
 exact ⟨⟨hcell 0 _ rfl, hcell 1 _ rfl, hcell 2 _ rfl, hcell 3 _ rfl, hcell 4 _ rfl⟩, hfr⟩
theorem PrSt.mark (h : PrSt w W F cap G B2 c2 N cg ks) {k : Nat} (hk : k < 40) : TokAt W F ((N + k) * 5) (markS k) := by
 have hl := h.lk
 have e : (ks ++ marksT 40)[N + k]? = some (mkT (markS k)) := by
  rw [List.getElem?_append_right (by omega), show N + k - ks.length = k by omega]
  unfold marksT
  rw [List.getElem?_map, List.getElem?_range hk]
  rfl
 obtain ⟨⟨h0, h1, h2, h3, h4⟩, -⟩ := h.tok e
 exact ⟨h0, h1, h2, h3, h4⟩
theorem PrSt.roomCell (h : PrSt w W F cap G B2 c2 N cg ks) {j : Nat} {v : Value} (hj : cg[j]? = some v) : W.cell? ⟨G, j, none⟩ = some v := (blk_cell h.room j).trans hj
theorem PrSt.rowCell (h : PrSt w W F cap G B2 c2 N cg ks) : W.cell? ⟨B2, 0, none⟩ = some (.slice (some ⟨F, 0, none⟩) (N + 40) cap) := by
 have := h.row.cells (g := B2) rfl 0 _ rfl
 simpa [Addr.add] using this
theorem PrSt.readIn (h : PrSt w W F cap G B2 c2 N cg ks) (hN : N ≤ 9223372036854775807) : Kd.C k57 W (some ⟨F, 0, none⟩) ks.length ks := by
 obtain ⟨-, -, h1, h2, h3⟩ := Kd.R_reads' h.full
 have hl : (ks ++ marksT 40).length = N + 40 := by rw [List.length_append, marksT_len, h.lk]
 obtain ⟨x, hx, hr⟩ := h3 (by omega)
 refine ⟨rfl, by have := h.lk; omega, fun _ => ⟨x, hx, fun j p hj => hr j p ?_⟩⟩
 rw [List.getElem?_append_left (List.getElem?_eq_some_iff.1 hj).1]
 exact hj
theorem PrSt.readN (h : PrSt w W F cap G B2 c2 N cg ks) (hN : N ≤ 9223372036854775807) : Kd.C k57 W (some ⟨F, 0, none⟩) N ks := by
 have := h.readIn hN
 rw [h.lk] at this
 exact this
theorem PrSt.put (h : PrSt w W F cap G B2 c2 N cg ks) {i : Nat} {t : S57} (ht : ks[i]? = some t) (x : Int) :
  PrSt w (W.setCell ⟨F, i * 5, none⟩ (.int .i64 x)) F cap G B2 c2 N cg (ks.set i ⟨x, t.f1, t.f2, t.f3, t.f4⟩) := by
 have hi : i < ks.length := (List.getElem?_eq_some_iff.1 ht).1
 have hlk := h.lk
 have hl : (ks ++ marksT 40).length = N + 40 := by rw [List.length_append, marksT_len, h.lk]
 obtain ⟨c, hc, hM, hcell, hfr⟩ := Kd.R_elem h.full (mkT 0) (i : Int) (by omega) (by omega)
 rw [List.getD_eq_getElem?_getD, Int.toNat_natCast, List.getElem?_append_left hi, ht] at hM
 have e := k57_openM hM
 subst e
 obtain ⟨p1, p2⟩ := Kd.R_seg h.full (i : Int) (by omega) (by omega) (seg := [.int .i64 x]) (j := 0) hc hcell (show 0 + 1 ≤ 5 by decide) (x' := ⟨x, t.f1, t.f2, t.f3, t.f4⟩) (k57_mkM W w.heap.size (fun k => True ∧ k ≠ F) ⟨x, t.f1, t.f2, t.f3, t.f4⟩) (fun k hk => hk)
 rw [Int.toNat_natCast, List.set_append_left _ _ hi] at p1
 obtain ⟨cF, bF⟩ := Kd.R_typed h.full F rfl
 have gF := Kd.R_base h.full F rfl
 have neF : G ≠ F := blk_ne h.room bF (by decide)
 have rF := own_ne h.row bF (by decide)
 exact ⟨p1, own_setCell h.row (p := ⟨F, i * 5, none⟩) rF _, blk_far h.room (p := ⟨F, i * 5, none⟩) neF _, h.below.setCell (p := ⟨F, i * 5, none⟩) gF _, by rw [List.length_set]; exact hlk⟩
theorem PrSt.hold (h : PrSt w W F cap G B2 c2 N cg ks) (hN : N < 1000000) (hc : ∀ j, j < 21 → j ≠ 7 → cg[j]? = some (.slice none 0 0)) (h7 : cg[7]? = some (.slice (some ⟨B2, 0, none⟩) 1 c2)) :
  Calls Tryz.prog 10 #[.pointer (some ⟨G, 0, none⟩)] W fun e w' => e = .returned (.bool true) ∧ Below W.heap.size W w' :=
 hold_calls G B2 F N c2 cap W hN (fun j hj hj7 => h.roomCell (hc j hj hj7)) (h.roomCell h7) h.rowCell (fun k hk => h.mark hk)
end
def roomNil : Array Value := #[.slice none 0 0, .slice none 0 0, .slice none 0 0, .slice none 0 0, .slice none 0 0, .slice none 0 0, .slice none 0 0, .slice none 0 0, .slice none 0 0, .slice none 0 0, .slice none 0 0, .slice none 0 0, .slice none 0 0, .slice none 0 0, .slice none 0 0, .slice none 0 0, .slice none 0 0, .slice none 0 0, .slice none 0 0, .slice none 0 0, .slice none 0 0]
theorem room_rep : roomNil = Array.replicate 21 (.slice none 0 0) := rfl
theorem room_other {j : Nat} {v : Value} (hj : j < 21) (h1 : j ≠ 7) : (roomNil.setIfInBounds 7 v)[j]? = some (.slice none 0 0) := by
 rw [Array.getElem?_setIfInBounds_ne (Ne.symm h1), room_rep, Array.getElem?_replicate, if_pos hj]
theorem room_one {v : Value} : (roomNil.setIfInBounds 7 v)[7]? = some v := by
 rw [Array.getElem?_setIfInBounds_self_of_lt (by rw [room_rep, Array.size_replicate]; omega)]
theorem pr_start {w W0 wf : World} {G F cap B2 c2 : Nat} {xs : List S57} (hb0 : Below w.heap.size w W0) (hG : W0.heap[G]? = some (.cells roomNil 48 (0, 0))) (hge : w.heap.size ≤ G)
  (hf : TRw W0.heap.size wf (.slice (some ⟨F, 0, none⟩) (xs.length + 40) cap) (xs ++ marksT 40)) (hr : wf.ownsRow W0.heap.size 22 1 (.slice (some ⟨B2, 0, none⟩) 1 c2) 1 [.slice (some ⟨F, 0, none⟩) (xs.length + 40) cap]) (hb : Below W0.heap.size W0 wf) :
  PrSt w (wf.setCell ⟨G, 7, none⟩ (.slice (some ⟨B2, 0, none⟩) 1 c2)) F cap G B2 c2 xs.length (roomNil.setIfInBounds 7 (.slice (some ⟨B2, 0, none⟩) 1 c2)) xs := by
 have hG2 := blk_below hG hb
 refine ⟨Kd.R_mono (Kd.R_set (Kd.R_lower hf hb0.size) hG2 (by decide) 7 _) (fun _ _ => trivial), own_less (own_setCell hr (p := ⟨G, 7, none⟩) (own_ne hr hG2 (by decide)) _) hb0.size, blk_set hG2 7 _, (hb0.trans (hb.mono hb0.size)).setCell (p := ⟨G, 7, none⟩) hge _, rfl⟩
end Go.Proofs.YtjlclkenfmbahaaGreatDoor.PA
