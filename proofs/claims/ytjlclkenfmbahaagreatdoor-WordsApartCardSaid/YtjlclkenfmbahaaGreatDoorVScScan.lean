/- words.Scan in the print's words: its answer is what the iterator gives. Condition: the world holds the tables ('Tabs'). -/
import Derived.Test.YtjlclkenfmbahaaGreatDoorVScNext
import Derived.Test.YtjlclkenfmbahaaGreatDoorVScScanW
import Derived.Test.YtjlclkenfmbahaaGreatDoorVPAx0
namespace Go.Proofs.YtjlclkenfmbahaaGreatDoor.PA
open Go.RowKit Go.Shelf Go.Proofs.YtjlclkenfmbahaaGreatDoorW.PrintWords Go.Proofs.YtjlclkenfmbahaaGreatDoorW.PrintLast Go.Proofs.YtjlclkenfmbahaaGreatDoorW.PrintMore
set_option linter.unusedVariables false
set_option linter.unusedSimpArgs false
def NXs (s : ByteArray) (p : Nat) (l : Bool) : Nx := nextR s p l 0 0
def runG (NX : Nat → Bool → Nx) : Nat → Nat → Bool → Option (List S57 × (Nat × Bool × Int × Int))
 | 0, _, _ => none
 | n + 1, p, l =>
  if (NX p l).2.1 = true then
   (if (NX p l).2.2.2.2.1 = 0 ∧ (NX p l).2.2.2.2.2 = 0 then (runG NX n (NX p l).2.2.1 (NX p l).2.2.2.1).bind fun q => some ((NX p l).1 :: q.1, q.2) else none)
  else some ([], (NX p l).2.2)
theorem runG_gives {NX : Nat → Bool → Nx} (n : Nat) : ∀ (p : Nat) (l : Bool) (q : List S57 × (Nat × Bool × Int × Int)), runG NX n p l = some q → Gives NX p l q.1 q.2 ∧ q.1.length < n := by
 induction n with
 | zero => intro p l q h; cases h
 | succ n ih =>
  intro p l q h
  unfold runG at h
  split at h
  ·next h1 =>
   split at h
   ·next h2 =>
    obtain ⟨q', hq', h3⟩ := Option.bind_eq_some_iff.1 h
    obtain ⟨g1, g2⟩ := ih _ _ _ hq'
    cases h3
    refine ⟨.more ?_ g1, by simp; omega⟩
    have e : NX p l = ((NX p l).1, (NX p l).2.1, (NX p l).2.2.1, (NX p l).2.2.2.1, (NX p l).2.2.2.2.1, (NX p l).2.2.2.2.2) := rfl
    rw [h1, h2.1, h2.2] at e
    exact e
   ·cases h
  ·next h1 =>
   cases h
   refine ⟨.stop (t := (NX p l).1) ?_, by simp⟩
   have h2 : (NX p l).2.1 = false := by simpa using h1
   have e : NX p l = ((NX p l).1, (NX p l).2.1, (NX p l).2.2) := rfl
   rw [h2] at e
   exact e
def words_Scan.f (s : ByteArray) : Option (List S57 × Int × Int) :=
 if 8000 < s.size then some ([], 0, 40)
 else (runG (NXs s) (2 * s.size + 2) 0 false).bind fun q => some (if q.2.2.2.1 = 0 then q.1 else [], if q.2.2.2.1 = 0 then 0 else q.2.2.2.2, q.2.2.2.1)
theorem byte_lt {s : ByteArray} {i : Nat} {b : UInt8} (h : (Ls s)[i]? = some b) : i < s.size := (bt_of s h).2
theorem name_le {s : ByteArray} {p : Nat} (e3 e4 : Int) (h : p ≤ s.size) : (nameR s p e3 e4).2.2.1 ≤ s.size := by
 have := runP_le isWd s p h
 unfold nameR
 split <;> exact this
theorem m2B_le {s : ByteArray} {m : Nat} (h : m ≤ s.size) : m2B s m ≤ s.size := by
 unfold m2B
 split
 ·next hp => have := (runP_yes (p := fun b => b.toNat == 37) hp).2; omega
 ·exact h
theorem number_le {s : ByteArray} {p : Nat} (e3 e4 : Int) (h : p ≤ s.size) : (numberR s p e3 e4).2.2.1 ≤ s.size := by
 unfold numberR
 split
 ·next hd =>
  have := datedB_le hd
  unfold dateR
  split <;> exact this
 ·have := m2B_le (mB_le (runP_le isDg s p h))
  unfold numR
  split <;> exact this
theorem txt_le {s : ByteArray} {p : Nat} (e3 e4 : Int) (d : Nat) : ∀ (i : Nat) (acc : List UInt8), i ≤ s.size → (txtR s p e3 e4 d i acc).2.2.1 ≤ s.size := by
 induction d with
 | zero => intro i acc h; exact h
 | succ d ih =>
  intro i acc h
  unfold txtR
  split
  ·exact h
  ·next c hb =>
   have hlt := byte_lt hb
   split
   ·exact h
   ·split
    ·split <;> exact hlt
    ·split
     ·split
      ·exact h
      ·next c2 hb2 =>
       have hlt2 := byte_lt hb2
       split
       ·exact ih _ _ hlt2
       ·exact h
     ·split
      ·exact h
      ·exact ih _ _ hlt
theorem sign_le {s : ByteArray} {p : Nat} (e3 e4 : Int) (h : p < s.size) : (signR s p e3 e4).2.2.1 ≤ s.size := by
 unfold signR
 split
 ·next h1 => exact h1.2.1
 ·split <;> exact h
theorem word_le {s : ByteArray} {p : Nat} (c : UInt8) (e3 e4 : Int) (h : p < s.size) : (wordR s p c e3 e4).2.2.1 ≤ s.size := by
 unfold wordR
 split
 ·exact name_le e3 e4 (Nat.le_of_lt h)
 ·split
  ·exact number_le e3 e4 (Nat.le_of_lt h)
  ·split
   ·exact txt_le e3 e4 _ _ _ h
   ·split
    ·exact sign_le e3 e4 h
    ·exact Nat.le_of_lt h
theorem skip_le {s : ByteArray} (l : Bool) (n : Nat) : ∀ i, i ≤ s.size → skipB s l n i ≤ s.size := by
 induction n with
 | zero => intro i h; exact h
 | succ n ih =>
  intro i h
  unfold skipB
  split
  ·exact h
  ·next c hb =>
   have hlt := byte_lt hb
   split
   ·exact ih _ hlt
   ·split
    ·exact ih _ (runP_le _ s i h)
    ·split
     ·split
      ·exact h
      ·exact ih _ hlt
     ·exact h
theorem next_le {s : ByteArray} (p : Nat) (l : Bool) (h : p ≤ s.size) : (NXs s p l).2.2.1 ≤ s.size := by
 have hq := skip_le (s := s) l (s.size + 1) p h
 unfold NXs nextR
 generalize skipB s l (s.size + 1) p = q at hq
 have hl : (lineR l q 0 0).2.2.1 ≤ s.size := by unfold lineR; split <;> exact hq
 unfold nextAt
 split
 ·exact hl
 ·next c hb =>
  split
  ·exact hl
  ·exact word_le c 0 0 (byte_lt hb)
theorem next_is {s : ByteArray} (hs : ¬ 8000 < s.size) (w0 : World) (g : Nat) (hT : Tabs w0) : NextIs (NXs s) w0 g s := fun W p l hp hI hB =>
 (next_calls g s p l 0 0 w0 W (by omega) hp hT hI hB).mono fun _ _ h => h
set_option maxRecDepth 100000 in
set_option maxHeartbeats 1000000 in
theorem words_Scan.calls (a0 : ByteArray) (r1 : List S57) (r2 r3 : Int) (w : World) (hT : Tabs w) (h : words_Scan.f a0 = some (r1, r2, r3)) :
  Calls Tryz.prog 12 #[.string a0] w fun e w' => ∃ v0_ : Value, e = .returned (.tuple #[v0_, .int .i64 r2, .int .i64 r3]) ∧ Kd.R k57 57 w' w.heap.size (fun _ => True) v0_ r1 ∧ Below w.heap.size w w' := by
 by_cases hs : 8000 < a0.size
 ·unfold words_Scan.f at h
  rw [if_pos hs] at h
  cases h
  have k8 : ((8000 : Int) < (a0.size : Int)) = True := eq_true (by omega)
  have k8n : (8000 < a0.size) = True := eq_true hs
  go_enter Tryz.func12, Tryz.ntmps12
  go_wp2
  go_ret3
  exact ⟨_, rfl, Kd.R_nil _ _ _ _ _, Below.refl _ _⟩
 ·unfold words_Scan.f at h
  rw [if_neg hs] at h
  obtain ⟨q, hq, e⟩ := Option.bind_eq_some_iff.1 h
  obtain ⟨g1, g2⟩ := runG_gives _ _ _ _ hq
  simp only [Option.some.injEq, Prod.mk.injEq] at e
  obtain ⟨rfl, rfl, rfl⟩ := e
  exact scan_walk a0 (by omega) w (NXs a0) (next_is hs w w.heap.size hT) next_le _ _ g1 (by omega)
end Go.Proofs.YtjlclkenfmbahaaGreatDoor.PA
