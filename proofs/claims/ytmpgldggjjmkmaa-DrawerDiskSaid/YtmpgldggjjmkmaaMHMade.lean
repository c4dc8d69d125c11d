/- 'made' walked: a room's copy of the files, a disk of each kind over them, the same lists written over, and disks again. Condition: the list is one that can be. -/
import Derived.Test.YtmpgldggjjmkmaaMDkMadeL
import Derived.Test.YtmpgldggjjmkmaaMDkSort
import Derived.Test.YtmpgldggjjmkmaaMD
import Derived.StillTailTactics
import Derived.Test.YtmpgldggjjmkmaaML
namespace Go.Proofs.Ytmpgldggjjmkmaa.PA
open Go.RowKit Go.Maps Go.Proofs.YtmpgldggjjmkmaaW.PrintWords Go.Proofs.YtmpgldggjjmkmaaW.PrintLast Go.Proofs.YtmpgldggjjmkmaaW.PrintMore
set_option linter.unusedVariables false
set_option linter.unusedSimpArgs false
def roomNil : Array Value := #[.slice none 0 0, .slice none 0 0, .slice none 0 0, .slice none 0 0, .slice none 0 0, .slice none 0 0, .slice none 0 0, .slice none 0 0, .slice none 0 0, .slice none 0 0, .slice none 0 0, .slice none 0 0, .slice none 0 0, .slice none 0 0, .slice none 0 0, .slice none 0 0, .slice none 0 0, .slice none 0 0, .slice none 0 0, .slice none 0 0, .slice none 0 0]
theorem room_rep : roomNil = Array.replicate 21 (.slice none 0 0) := rfl
theorem room_other {j : Nat} {v v' : Value} (hj : j < 21) (h0 : j ≠ 0) (h1 : j ≠ 13) : ((roomNil.setIfInBounds 0 v).setIfInBounds 13 v')[j]? = some (.slice none 0 0) := by
  rw [Array.getElem?_setIfInBounds_ne (Ne.symm h1), Array.getElem?_setIfInBounds_ne (Ne.symm h0), room_rep, Array.getElem?_replicate, if_pos hj]
theorem room_zero {v v' : Value} : ((roomNil.setIfInBounds 0 v).setIfInBounds 13 v')[0]? = some v := by
  rw [Array.getElem?_setIfInBounds_ne (by decide), Array.getElem?_setIfInBounds_self_of_lt (by rw [room_rep, Array.size_replicate]; omega)]
theorem U8B.below {W W' : World} {F n : Nat} (h : U8B W F n) (hb : Below W.heap.size W W') : U8B W' F n := by
  obtain ⟨cs, hF, hk⟩ := h
  exact ⟨cs, (hb.block F (blk_lt hF)).trans hF, hk⟩
structure Mid (b : Nat) (w W : World) (colM : RCol) (F cap : Nat) (M : List (Fl × Value)) (fs : List Fl) : Prop where
  own : W.ownsRow b 74 3 (.slice (some ⟨F, 0, none⟩) M.length cap) M.length (flatL M)
  tag : colM F = .tm
  lw : LW b W colM W M
  args : ∀ k, k < b → colM k = .other
  below : Below b w W
  fst : M.map (·.1) = fs
theorem mid_of {b : Nat} {w W0 w2 W : World} {col0 col2 : RCol} {G : Nat} {cg : Array Value} {fs : List Fl} {F cap : Nat} {v13 v0 : Value} {M : List (Fl × Value)} {BL : List (Value × List Int)} (h : FsR b W0 col0 w2 col2 G cg fs F cap v13 v0 M BL) (hb : b ≤ W0.heap.size) (hw : Below b w W0)
    (h2 : Below w2.heap.size w2 W) (colM : RCol) (ho : ∀ k, k < b → colM k = .other) (hc : ∀ k, b ≤ k → k < w2.heap.size → colM k = col2 k) : Mid b w W colM F cap M fs := by
  have hF := own_base h.own F rfl
  have hFl := own_lt h.own F rfl
  refine ⟨own_move (own_lower h.front hb) (fun k hk => h2.block k (own_lt h.front k hk)), (hc F (by omega) hFl).trans h.tag, ⟨Ch.refl (Nat.le_trans h.ch.le' h2.size), fun p hp => ?_⟩, ho, hw.trans (h.ch.below.trans (h2.mono h.ch.le')), h.fst⟩
  obtain ⟨Fj, e, hu, hr, ht, hl⟩ := h.lists hp
  have hlt : Fj < w2.heap.size := by obtain ⟨cs, hh, _⟩ := hu; exact blk_lt hh
  exact ⟨Fj, e, hu.below h2, (hc Fj hl hlt).trans ht, hl⟩
theorem mid_some {b : Nat} {w W0 w2 w3 w4 W : World} {col0 col2 colR colP : RCol} {G gR gP : Nat} {cg : Array Value} {fs : List Fl} {F cap : Nat} {v13 v0 : Value} {M : List (Fl × Value)} {BL : List (Value × List Int)} {d : Dk} (h : FsR b W0 col0 w2 col2 G cg fs F cap v13 v0 M BL) (hb : b ≤ W0.heap.size) (hw : Below b w W0)
    (h2 : Below w2.heap.size w2 w3) (hR : RD w2.heap.size w3 colR gR d) (h3 : Below w3.heap.size w3 w4) (hP : PD w3.heap.size w4 colP gP d) (h4 : Below w4.heap.size w4 W) :
    ∃ colM, Mid b w W colM F cap M fs ∧ PD b W colM gP d ∧ RD b W colM gR d := by
  have h3W : Below w3.heap.size w3 W := h3.trans (h4.mono h3.size)
  have h2W : Below w2.heap.size w2 W := h2.trans (h3W.mono h2.size)
  have hb2 : b ≤ w2.heap.size := Nat.le_trans hb h.ch.size
  refine ⟨fun k => if k < b then .other else if k < w2.heap.size then col2 k else if k < w3.heap.size then colR k else colP k, mid_of h hb hw h2W _ (fun k hk => if_pos hk) (fun k h1 h2 => by rw [if_neg (by omega), if_pos h2]), ?_, ?_⟩
  · refine (PD.re (b := b) hP (Nat.le_trans hb2 h2.size) (fun k hk hl => ?_)).ch (S := fun _ => False) (Ch.of_below h4 (Nat.le_trans hb2 (Nat.le_trans h2.size h3.size))) (fun _ _ h => h)
    show (if k < b then _ else _) = _
    rw [if_neg (by have := h2.size; omega), if_neg (by have := h2.size; omega), if_neg (by omega)]
  · refine (RD.re (b := b) hR hb2 (fun k hk hl => ?_)).ch (S := fun _ => False) (Ch.of_below h3W (Nat.le_trans hb2 h2.size)) (fun _ _ h => h)
    show (if k < b then _ else _) = _
    rw [if_neg (by omega), if_neg (by omega), if_pos hl]
theorem mid_none {b : Nat} {w W0 w2 W : World} {col0 col2 : RCol} {G : Nat} {cg : Array Value} {fs : List Fl} {F cap : Nat} {v13 v0 : Value} {M : List (Fl × Value)} {BL : List (Value × List Int)} (h : FsR b W0 col0 w2 col2 G cg fs F cap v13 v0 M BL) (hb : b ≤ W0.heap.size) (hw : Below b w W0) (h2 : Below w2.heap.size w2 W) : ∃ colM, Mid b w W colM F cap M fs :=
  ⟨fun k => if k < b then .other else col2 k, mid_of h hb hw h2 _ (fun k hk => if_pos hk) (fun k h1 h2 => if_neg (by omega))⟩
theorem made_end {b : Nat} {w W wr W9 : World} {colM : RCol} {F cap gP gR : Nat} {M : List (Fl × Value)} {fs : List Fl} {d : Dk} (hm : Mid b w W colM F cap M fs) (hP : PD b W colM gP d) (hR : RD b W colM gR d) (hd : d.Ok) (hl : LW b W colM wr M) (hB : Below wr.heap.size wr W9) :
    PrSt b (W9.alloc (.cells #[.pointer (some ⟨gP, 0, none⟩), .pointer none, .pointer (some ⟨gR, 0, none⟩), .pointer none] 32)) (colN colM wr.heap.size fun _ => .other) W9.heap.size gP gR d ∧ Below b w (W9.alloc (.cells #[.pointer (some ⟨gP, 0, none⟩), .pointer none, .pointer (some ⟨gR, 0, none⟩), .pointer none] 32)) := by
  have hB1 := below_alloc hB (.cells #[.pointer (some ⟨gP, 0, none⟩), .pointer none, .pointer (some ⟨gR, 0, none⟩), .pointer none] 32)
  have hc : Ch b W colM _ (colN colM wr.heap.size fun _ => .other) isM := hl.ch.trans (Ch.of_new hB1 hl.ch.le' _)
  refine ⟨⟨blk_new W9 _, colN_ge hB.size, Nat.le_trans hl.ch.le' hB.size, fun k hk => ?_, hP.ch hc ?_, hR.ch hc ?_, hd⟩, hm.below.trans hc.below⟩
  · rw [colN_lt (Nat.lt_of_lt_of_le hk hl.ch.le')]; exact hm.args k hk
  · intro r hr h; cases r <;> first | exact hr | cases h
  · intro r hr h; cases r <;> first | exact hr | cases h
theorem FsR.sizes {b : Nat} {w w' : World} {col col' : RCol} {G : Nat} {cg : Array Value} {fs : List Fl} {F cap : Nat} {v13 v0 : Value} {M : List (Fl × Value)} {BL : List (Value × List Int)} (h : FsR b w col w' col' G cg fs F cap v13 v0 M BL) (hs : ∀ f ∈ fs, f.f1.length ≤ 140737488351232) : ∀ p ∈ BL, p.2.length ≤ 140737488351232 := by
  intro p hp
  obtain ⟨j, hj, rfl⟩ := List.getElem_of_mem hp
  have hj2 : j < M.length := by rw [h.mlen, ← h.len]; exact hj
  obtain ⟨Fj, cj, _, h2⟩ := h.rel j _ (List.getElem?_eq_getElem hj2)
  rw [List.getElem?_eq_getElem hj] at h2
  injection h2 with h2
  rw [h2]
  exact hs _ (by rw [← h.fst]; exact List.mem_map_of_mem (List.getElem_mem hj2))
theorem rnew_n (n : Nat) (A : Option Addr) (c : Nat) (fs : List Fl) (w : World) (hn : fs.length = n) (hK : Kd.C k74 w A n fs) (hc : n ≤ c) (hnm : ∀ f ∈ fs, f.f0.size ≤ 140737488355328) (hln : ∀ f ∈ fs, f.f1.length ≤ 140737488355328) (hfl : n ≤ 140737488355328) :
    Calls Try.prog 10 #[.slice A n c] w fun e w' => RNewPost w w' e (newS fs) := by
  subst hn; exact rnew A c fs w hK hc hnm hln hfl
theorem pnew_n (n : Nat) (A : Option Addr) (c : Nat) (fs : List Fl) (w : World) (hn : fs.length = n) (hK : Kd.C k74 w A n fs) (hc : n ≤ c) (hnm : ∀ f ∈ fs, f.f0.size ≤ 140737488355328) (hln : ∀ f ∈ fs, f.f1.length ≤ 140737488355328) (hfl : n ≤ 140737488355328) :
    Calls Try.prog 11 #[.slice A n c] w fun e w' => PNewPost w w' e (newS fs) := by
  subst hn; exact pnew A c fs w hK hc hnm hln hfl
theorem FlPost.slice {w w' : World} {e : Ending} {fs : List Fl} (h : FlPost w w' e fs) : ∃ A c, e = .returned (.slice A fs.length c) ∧ fs.length ≤ c ∧ Kd.C k74 w' A fs.length fs ∧ Below w.heap.size w w' := by
  obtain ⟨v, L, rfl, rfl, hF, hb⟩ := h
  obtain ⟨A, c, rfl, hc, hk⟩ := hF.reads
  rw [List.length_map]
  exact ⟨A, c, rfl, hc, hk, hb⟩
theorem rfiles_d (b g : Nat) (d : Dk) (col : RCol) (w : World) (hR : RD b w col g d) (hd : d.Ok) : Calls Try.prog 8 #[.pointer (some ⟨g, 0, none⟩)] w fun e w' => FlPost w w' e d.fs := by
  obtain ⟨v, L, h⟩ := hR
  exact rfiles b g d v L col w h hd
set_option maxRecDepth 100000 in
set_option maxHeartbeats 8000000 in
theorem made_some (A : Option Addr) (c : Nat) (fs : List Fl) (w : World) (l : List Fl) (hK : Kd.C k74 w A fs.length fs) (hc : fs.length ≤ c) (hnm : ∀ f ∈ fs, f.f0.size ≤ 140737488355328) (hln : ∀ f ∈ fs, f.f1.length ≤ 140737488351232) (hfl : fs.length * 48 ≤ 140737488351232) (hnew : newS fs = some l) :
    Calls Try.prog 4 #[.slice A fs.length c] w fun e w' => MadePost w.heap.size w w' e (some l) := by
  obtain ⟨b, hb⟩ : ∃ b, b = w.heap.size := ⟨_, rfl⟩
  rw [← hb]
  have HKW : Aside0 (∀ W, Below b w W → Kd.C k74 W A fs.length fs) := ⟨fun W h => Kd.C_below hK (hb ▸ h)⟩
  have hb0 : Below b w (w.alloc (.cells roomNil 65)) := by rw [hb]; exact below_alloc (Below.refl _ _) _
  have hG0 : (w.alloc (.cells roomNil 65)).heap[w.heap.size]? = some (.cells roomNil 65 (0, 0)) := blk_new w _
  have HNM := Aside0.mk hnm
  have HLN := Aside0.mk hln
  have HLN2 : Aside0 (∀ f ∈ fs, f.f1.length ≤ 140737488355328) := ⟨fun f hf => by have := hln f hf; omega⟩
  have HFL := Aside0.mk hfl
  have HC := Aside0.mk hc
  have HNEW := Aside0.mk hnew
  have HKK := Aside0.mk hK
  clear hnm hln hfl hc hnew hK
  obtain ⟨W0, hW0⟩ : ∃ W0, w.alloc (.cells roomNil 65) = W0 := ⟨_, rfl⟩
  obtain ⟨G, hG⟩ : ∃ G, G = w.heap.size := ⟨_, rfl⟩
  rw [hW0] at hb0 hG0
  rw [← hG] at hG0
  have hbG : b = G := hb.trans hG.symm
  have HB0 := Aside0.mk hb0
  have HG0 := Aside0.mk hG0
  have HW := Aside0.mk hW0
  have HGE := Aside0.mk hG
  have HBE := Aside0.mk hb
  have HBG := Aside0.mk hbG
  clear hb hb0 hG0 hW0 hG hbG
  go_enter Try.func4, Try.ntmps4
  go_upto_region 2 with fail
  rw [show (Obj.cells #[.slice none 0 0, .slice none 0 0, .slice none 0 0, .slice none 0 0, .slice none 0 0, .slice none 0 0, .slice none 0 0, .slice none 0 0, .slice none 0 0, .slice none 0 0, .slice none 0 0, .slice none 0 0, .slice none 0 0, .slice none 0 0, .slice none 0 0, .slice none 0 0, .slice none 0 0, .slice none 0 0, .slice none 0 0, .slice none 0 0, .slice none 0 0] 65) = .cells roomNil 65 from rfl, HW.out, ← HGE.out]
  go_wp2_with (first
    | (go_at_call 9; refine Calls.mono (room_files b G roomNil (fun k => if k < b then .other else .rm) A c fs w W0 HB0.out HBE.out HKK.out HLN.out HFL.out HG0.out (if_neg (by rw [HBG.out]; omega)) (Nat.le_of_eq HBG.out) rfl rfl) ?_; rintro e w2 ⟨F, cap, v13, v0, M, BL, col2, rfl, hFR⟩; have HFR := Aside0.mk hFR; have HKF := Aside0.mk hFR.reads; have HB2 := Aside0.mk (HB0.out.trans hFR.ch.below); have HS2 := Aside0.mk hFR.ch.le'; clear hFR)
    | (go_at_call 10; refine Calls.mono (rnew A c fs w2 (HKW.out _ HB2.out) HC.out HNM.out HLN2.out (by have := HFL.out; omega)) ?_; rintro e w3 hp; rw [HNEW.out] at hp; obtain ⟨gR, colR, rfl, hB3, hRD⟩ := hp; have HRD3 := Aside0.mk hRD; have HB3 := Aside0.mk hB3; clear hB3 hRD)
    | (go_at_call 11; refine Calls.mono (pnew (some ⟨F, 0, none⟩) (fs.length + 40) fs w3 (Kd.C_below HKF.out HB3.out) (Nat.le_add_right _ _) HNM.out HLN2.out (by have := HFL.out; omega)) ?_; rintro e w4 hp; rw [HNEW.out] at hp; obtain ⟨gP, colP, rfl, hB4, hPD⟩ := hp; have HPD4 := Aside0.mk hPD; have HB4 := Aside0.mk hB4; have HB24 := Aside0.mk (HB3.out.trans (hB4.mono HB3.out.size)); clear hB4 hPD)
    | (go_at_call 6; refine Calls.mono (sameFiles_calls fs (by have := HFL.out; omega) (some ⟨F, 0, none⟩) A (fs.length + 40) c w4 (Kd.C_below HKF.out HB24.out) (Nat.le_add_right _ _) (HKW.out _ (HB2.out.trans (HB24.out.mono HS2.out))) HC.out) ?_; rintro e w5 ⟨rfl, hB5⟩; have HB5 := Aside0.mk hB5; have HB25 := Aside0.mk (HB24.out.trans (hB5.mono HB24.out.size)); clear hB5)
    | (go_at_call 12; refine Calls.mono (hold_gen G w5 ?h1 ?h2 ?h3 ?h4 ?h5) ?_; (case h1 => exact Nat.lt_of_lt_of_le (blk_lt HFR.out.blk) HB25.out.size); (case h2 => exact fun j hj h0 _ h13 => (blk_cell ((HB25.out.block G (blk_lt HFR.out.blk)).trans HFR.out.blk) j).trans (room_other hj h0 h13)); (case h3 => exact (HFR.out.rm.ch (S := fun _ => False) (Ch.of_below HB25.out HS2.out) (fun h => h)).held (Nat.le_trans HS2.out HB25.out.size) (by rw [HFR.out.len]; have := HFL.out; omega) (FsR.sizes HFR.out HLN.out) ((HB25.out.block G (blk_lt HFR.out.blk)).trans HFR.out.blk) room_zero); (case h4 => exact nil_ints ((blk_cell ((HB25.out.block G (blk_lt HFR.out.blk)).trans HFR.out.blk) 1).trans (room_other (by decide) (by decide) (by decide)))); (case h5 => exact HFR.out.held HFL.out (by decide) HB25.out); rintro e w6 ⟨rfl, hB6⟩; have HB26 := Aside0.mk (HB25.out.trans (hB6.mono HB25.out.size)); have HB46 := Aside0.mk (HB5.out.trans (hB6.mono HB5.out.size)); clear hB6))
  have hml : M.length = fs.length := HFR.out.mlen
  have hsz : ∀ p ∈ M, p.1.f1.length ≤ 140737488351232 := fun p hp => HLN.out _ (by rw [← HFR.out.fst]; exact List.mem_map_of_mem hp)
  have hnz : ∀ p ∈ M, p.1.f0.size ≤ 140737488355328 := fun p hp => HNM.out _ (by rw [← HFR.out.fst]; exact List.mem_map_of_mem hp)
  obtain ⟨colM, hm, hP, hR⟩ := mid_some HFR.out (by rw [HBG.out]; exact Nat.le_of_lt (blk_lt HG0.out)) HB0.out HB3.out HRD3.out HB4.out HPD4.out HB46.out
  have HM := Aside0.mk hm; have HP := Aside0.mk hP; have HR := Aside0.mk hR
  have HSZ := Aside0.mk hsz
  have HNZ := Aside0.mk hnz
  clear HFR HKF HB2 HS2 HB3 HB4 HB24 HB5 HB25 HB26 HB46 HW HG0 HGE HBG HKK HKW HB0 HLN HLN2 HNM hm hsz hnz HRD3 HPD4 hP hR
  go_loopw [11] (fun v11 wr => ∃ i : Nat, i ≤ fs.length ∧ v11 = .int .i64 i ∧ LW b w6 colM wr M) (fun v11 _ => fs.length - (intOf v11).toNat)
  case atStart => exact ⟨0, by omega, rfl, HM.out.lw⟩
  case round =>
    obtain ⟨i, hi, rfl, hLW⟩ := hrel
    by_cases h1 : i < fs.length
    · have hiM : i < M.length := by omega
      obtain ⟨N, hN⟩ : ∃ N, N = M[i].1.f1.length := ⟨_, rfl⟩
      have hNb : N ≤ 140737488351232 := by rw [hN]; exact HSZ.out _ (List.getElem_mem hiM)
      obtain ⟨Fj, e0, _, _, ht, hbF⟩ := hLW.cells HM.out.own HM.out.tag hiM
      have HALL : Aside0 (∀ W, LW b w6 colM W M → W.cell? ⟨F, i * 3 + 1, none⟩ = some (.slice (some ⟨Fj, 0, none⟩) N (N + 600)) ∧ U8B W Fj N) := ⟨fun W h => by
        obtain ⟨Fj', e1, h1, h2, _⟩ := h.cells HM.out.own HM.out.tag hiM
        rw [e0] at e1
        injection e1 with e1
        injection e1 with e1
        injection e1 with e1
        subst e1
        rw [hN]
        exact ⟨h1, h2⟩⟩
      have ci : (i : Int) < (fs.length : Int) := by omega
      have HI1 := Aside0.mk h1
      have HFT := Aside0.mk ht
      have HFB := Aside0.mk hbF
      have HK3 : Aside0 (wrap64 ((i : Int) + 1) = ((i : Int) + 1)) := ⟨PA.wr (by omega) (by have := HFL.out; omega)⟩
      have HEQ := Aside0.mk (congrArg (Value.int .i64) (show wrap64 ((i : Int) + 1) = ((i + 1 : Nat) : Int) from HK3.out))
      have HMS := Aside0.mk (meas_lt h1 HK3.out)
      have HEQ2 := Aside0.mk (show Value.int .i64 ((i : Int) + 1) = Value.int .i64 ((i + 1 : Nat) : Int) from rfl)
      have HMS2 := Aside0.mk (meas_lt2 h1)
      have HNB := Aside0.mk hNb
      have hfl := HFL.out
      clear hN hNb e0 ht hbF h1
      go_wp2
      go_loopw [12] (fun v12 wr2 => ∃ k : Nat, k ≤ N ∧ v12 = .int .i64 k ∧ LW b w6 colM wr2 M) (fun v12 _ => N - (intOf v12).toNat)
      case atStart => exact ⟨0, by omega, rfl, hLW⟩
      case round =>
        clear hLW
        obtain ⟨k, hk, rfl, hL⟩ := hrel
        obtain ⟨x1, hu⟩ := HALL.out _ hL
        have hnb := HNB.out
        by_cases h2 : k < N
        · obtain ⟨⟨x, x2⟩, x3⟩ := hu.at h2
          have ck : (k : Int) < (N : Int) := by omega
          have HJ3 : Aside0 (wrap64 ((k : Int) + 1) = ((k : Int) + 1)) := ⟨PA.wr (by omega) (by omega)⟩
          have HJQ := Aside0.mk (congrArg (Value.int .i64) (show wrap64 ((k : Int) + 1) = ((k + 1 : Nat) : Int) from HJ3.out))
          have HJS := Aside0.mk (meas_lt h2 HJ3.out)
          have HJQ2 := Aside0.mk (show Value.int .i64 ((k : Int) + 1) = Value.int .i64 ((k + 1 : Nat) : Int) from rfl)
          have HJS2 := Aside0.mk (meas_lt2 h2)
          have HJ1 := Aside0.mk (Nat.succ_le_of_lt h2)
          have HL := Aside0.mk hL
          clear h2 hk hu hL
          go_upto_region 12 with fail
          go_still_tail 16, (by kernel_rfl)
          change wpList _ _ _ _ _ wr.drew
          go_wp2
          exact ⟨⟨k + 1, HJ1.out, by first | exact HJQ.out | exact HJQ2.out, HL.out.drew.step HFT.out HFB.out _ _⟩, by first | exact HJS.out | exact HJS2.out⟩
        · have k5 : decide (k < N) = false := decide_eq_false h2
          have k6 : decide ((k : Int) < (N : Int)) = false := decide_eq_false (by omega)
          have HL := Aside0.mk hL
          clear h2 hk hu hL
          go_wp2
          exact ⟨⟨i + 1, HI1.out, by first | exact HEQ.out | exact HEQ2.out, HL.out⟩, by first | exact HMS.out | exact HMS2.out⟩
    · obtain rfl : i = fs.length := by omega
      have k5 : decide (fs.length < fs.length) = false := decide_eq_false h1
      obtain ⟨fs2, hl2, hk2, hf2⟩ := hLW.reads HM.out.own HM.out.tag HSZ.out
      have hls : fs2.length = fs.length := hl2.trans hml
      have HN2 : Aside0 (∀ f ∈ fs2, f.f0.size ≤ 140737488355328) := ⟨fun f hf => by obtain ⟨p, hp, e, _⟩ := hf2 f hf; rw [e]; exact HNZ.out p hp⟩
      have HL2 : Aside0 (∀ f ∈ fs2, f.f1.length ≤ 140737488355328) := ⟨fun f hf => by obtain ⟨p, hp, _, e⟩ := hf2 f hf; rw [e]; have := HSZ.out p hp; omega⟩
      rw [hls] at hk2
      have HK2 := Aside0.mk hk2
      have HLS := Aside0.mk hls
      have HL := Aside0.mk hLW
      clear hl2 hk2 hf2 hls h1 hi hLW
      rcases hn2 : newS fs2 with _ | l2
      · go_wp2_with (first
          | (go_at_call 10; refine Calls.mono (rnew_n fs.length (some ⟨F, 0, none⟩) (fs.length + 40) fs2 wr HLS.out HK2.out (Nat.le_add_right _ _) HN2.out HL2.out (by have := HFL.out; omega)) ?_; rintro e w7 hp; rw [hn2] at hp; obtain ⟨rfl, hB7⟩ := hp; have HB7 := Aside0.mk hB7; clear hB7)
          | (go_at_call 11; refine Calls.mono (pnew_n fs.length (some ⟨F, 0, none⟩) (fs.length + 40) fs2 w7 HLS.out (Kd.C_below HK2.out HB7.out) (Nat.le_add_right _ _) HN2.out HL2.out (by have := HFL.out; omega)) ?_; rintro e w8 hp; rw [hn2] at hp; obtain ⟨rfl, hB8⟩ := hp; have HB9 := Aside0.mk (HB7.out.trans (hB8.mono HB7.out.size)); clear hB8))
        go_ret2
        exact ⟨_, gP, gR, _, rfl, made_end HM.out HP.out HR.out (newS_ok HNEW.out) HL.out HB9.out⟩
      · have HOK2 := Aside0.mk (newS_ok hn2)
        go_wp2_with (first
          | (go_at_call 10; refine Calls.mono (rnew_n fs.length (some ⟨F, 0, none⟩) (fs.length + 40) fs2 wr HLS.out HK2.out (Nat.le_add_right _ _) HN2.out HL2.out (by have := HFL.out; omega)) ?_; rintro e w7 hp; rw [hn2] at hp; obtain ⟨gR2, colR2, rfl, hB7, hR7⟩ := hp; have HB7 := Aside0.mk hB7; have HR7 := Aside0.mk hR7; clear hB7 hR7)
          | (go_at_call 11; refine Calls.mono (pnew_n fs.length (some ⟨F, 0, none⟩) (fs.length + 40) fs2 w7 HLS.out (Kd.C_below HK2.out HB7.out) (Nat.le_add_right _ _) HN2.out HL2.out (by have := HFL.out; omega)) ?_; rintro e w8 hp; rw [hn2] at hp; obtain ⟨gP2, colP2, rfl, hB8, m2, gb2, ar2, u2, hP8⟩ := hp; have HB8 := Aside0.mk hB8; have HP8 := Aside0.mk hP8; have HB78 := Aside0.mk (HB7.out.trans (hB8.mono HB7.out.size)); clear hB8 hP8)
          | (go_at_call 7; refine Calls.mono (pfiles _ gP2 m2 (Dk.start l2) gb2 ar2 u2 colP2 w8 HP8.out HOK2.out (pnames _ gP2 m2 (Dk.start l2) gb2 ar2 u2 colP2 w8 HP8.out HOK2.out)) ?_; rintro e w9 hp; obtain ⟨A9, c9, rfl, hc9, hk9, hb9⟩ := FlPost.slice hp; have HC9 := Aside0.mk hc9; have HK9 := Aside0.mk hk9; have HB89 := Aside0.mk hb9; have HB79 := Aside0.mk (HB78.out.trans (hb9.mono HB78.out.size)); clear hp hc9 hk9 hb9)
          | (go_at_call 8; refine Calls.mono (rfiles_d _ gR2 (Dk.start l2) colR2 w9 ((HR7.out.ch (S := fun _ => False) (Ch.of_below (HB8.out.trans (HB89.out.mono HB8.out.size)) HB7.out.size) (fun _ _ h => h))) HOK2.out) ?_; rintro e w10 hp; obtain ⟨A10, c10, rfl, hc10, hk10, hb10⟩ := FlPost.slice hp; have HC10 := Aside0.mk hc10; have HK10 := Aside0.mk hk10; have HB910 := Aside0.mk hb10; have HB710 := Aside0.mk (HB79.out.trans (hb10.mono HB79.out.size)); clear hp hc10 hk10 hb10)
          | (go_at_call 6; refine Calls.mono (sameFiles_calls (Dk.start l2).fs (by have := HOK2.out.few; omega) A9 A10 c9 c10 w10 (Kd.C_below HK9.out HB910.out) HC9.out HK10.out HC10.out) ?_; rintro e w11 ⟨rfl, hb11⟩; have HB9 := Aside0.mk (HB710.out.trans (hb11.mono HB710.out.size)); clear hb11))
        go_ret2
        exact ⟨_, gP, gR, _, rfl, made_end HM.out HP.out HR.out (newS_ok HNEW.out) HL.out HB9.out⟩
set_option maxRecDepth 100000 in
set_option maxHeartbeats 8000000 in
theorem made_none (A : Option Addr) (c : Nat) (fs : List Fl) (w : World) (hK : Kd.C k74 w A fs.length fs) (hc : fs.length ≤ c) (hnm : ∀ f ∈ fs, f.f0.size ≤ 140737488355328) (hln : ∀ f ∈ fs, f.f1.length ≤ 140737488351232) (hfl : fs.length * 48 ≤ 140737488351232) (hnew : newS fs = none) :
    Calls Try.prog 4 #[.slice A fs.length c] w fun e w' => MadePost w.heap.size w w' e (none) := by
  obtain ⟨b, hb⟩ : ∃ b, b = w.heap.size := ⟨_, rfl⟩
  rw [← hb]
  have HKW : Aside0 (∀ W, Below b w W → Kd.C k74 W A fs.length fs) := ⟨fun W h => Kd.C_below hK (hb ▸ h)⟩
  have hb0 : Below b w (w.alloc (.cells roomNil 65)) := by rw [hb]; exact below_alloc (Below.refl _ _) _
  have hG0 : (w.alloc (.cells roomNil 65)).heap[w.heap.size]? = some (.cells roomNil 65 (0, 0)) := blk_new w _
  have HNM := Aside0.mk hnm
  have HLN := Aside0.mk hln
  have HLN2 : Aside0 (∀ f ∈ fs, f.f1.length ≤ 140737488355328) := ⟨fun f hf => by have := hln f hf; omega⟩
  have HFL := Aside0.mk hfl
  have HC := Aside0.mk hc
  have HNEW := Aside0.mk hnew
  have HKK := Aside0.mk hK
  clear hnm hln hfl hc hnew hK
  obtain ⟨W0, hW0⟩ : ∃ W0, w.alloc (.cells roomNil 65) = W0 := ⟨_, rfl⟩
  obtain ⟨G, hG⟩ : ∃ G, G = w.heap.size := ⟨_, rfl⟩
  rw [hW0] at hb0 hG0
  rw [← hG] at hG0
  have hbG : b = G := hb.trans hG.symm
  have HB0 := Aside0.mk hb0
  have HG0 := Aside0.mk hG0
  have HW := Aside0.mk hW0
  have HGE := Aside0.mk hG
  have HBE := Aside0.mk hb
  have HBG := Aside0.mk hbG
  clear hb hb0 hG0 hW0 hG hbG
  go_enter Try.func4, Try.ntmps4
  go_upto_region 2 with fail
  rw [show (Obj.cells #[.slice none 0 0, .slice none 0 0, .slice none 0 0, .slice none 0 0, .slice none 0 0, .slice none 0 0, .slice none 0 0, .slice none 0 0, .slice none 0 0, .slice none 0 0, .slice none 0 0, .slice none 0 0, .slice none 0 0, .slice none 0 0, .slice none 0 0, .slice none 0 0, .slice none 0 0, .slice none 0 0, .slice none 0 0, .slice none 0 0, .slice none 0 0] 65) = .cells roomNil 65 from rfl, HW.out, ← HGE.out]
  go_wp2_with (first
    | (go_at_call 9; refine Calls.mono (room_files b G roomNil (fun k => if k < b then .other else .rm) A c fs w W0 HB0.out HBE.out HKK.out HLN.out HFL.out HG0.out (if_neg (by rw [HBG.out]; omega)) (Nat.le_of_eq HBG.out) rfl rfl) ?_; rintro e w2 ⟨F, cap, v13, v0, M, BL, col2, rfl, hFR⟩; have HFR := Aside0.mk hFR; have HKF := Aside0.mk hFR.reads; have HB2 := Aside0.mk (HB0.out.trans hFR.ch.below); have HS2 := Aside0.mk hFR.ch.le'; clear hFR)
    | (go_at_call 10; refine Calls.mono (rnew A c fs w2 (HKW.out _ HB2.out) HC.out HNM.out HLN2.out (by have := HFL.out; omega)) ?_; rintro e w3 hp; rw [HNEW.out] at hp; obtain ⟨rfl, hB3⟩ := hp; have HB3 := Aside0.mk hB3; clear hB3)
    | (go_at_call 11; refine Calls.mono (pnew (some ⟨F, 0, none⟩) (fs.length + 40) fs w3 (Kd.C_below HKF.out HB3.out) (Nat.le_add_right _ _) HNM.out HLN2.out (by have := HFL.out; omega)) ?_; rintro e w4 hp; rw [HNEW.out] at hp; obtain ⟨rfl, hB4⟩ := hp; have HB4 := Aside0.mk hB4; have HB24 := Aside0.mk (HB3.out.trans (hB4.mono HB3.out.size)); clear hB4)
    | (go_at_call 6; refine Calls.mono (sameFiles_calls fs (by have := HFL.out; omega) (some ⟨F, 0, none⟩) A (fs.length + 40) c w4 (Kd.C_below HKF.out HB24.out) (Nat.le_add_right _ _) (HKW.out _ (HB2.out.trans (HB24.out.mono HS2.out))) HC.out) ?_; rintro e w5 ⟨rfl, hB5⟩; have HB5 := Aside0.mk hB5; have HB25 := Aside0.mk (HB24.out.trans (hB5.mono HB24.out.size)); clear hB5)
    | (go_at_call 12; refine Calls.mono (hold_gen G w5 ?h1 ?h2 ?h3 ?h4 ?h5) ?_; (case h1 => exact Nat.lt_of_lt_of_le (blk_lt HFR.out.blk) HB25.out.size); (case h2 => exact fun j hj h0 _ h13 => (blk_cell ((HB25.out.block G (blk_lt HFR.out.blk)).trans HFR.out.blk) j).trans (room_other hj h0 h13)); (case h3 => exact (HFR.out.rm.ch (S := fun _ => False) (Ch.of_below HB25.out HS2.out) (fun h => h)).held (Nat.le_trans HS2.out HB25.out.size) (by rw [HFR.out.len]; have := HFL.out; omega) (FsR.sizes HFR.out HLN.out) ((HB25.out.block G (blk_lt HFR.out.blk)).trans HFR.out.blk) room_zero); (case h4 => exact nil_ints ((blk_cell ((HB25.out.block G (blk_lt HFR.out.blk)).trans HFR.out.blk) 1).trans (room_other (by decide) (by decide) (by decide)))); (case h5 => exact HFR.out.held HFL.out (by decide) HB25.out); rintro e w6 ⟨rfl, hB6⟩; have HB26 := Aside0.mk (HB25.out.trans (hB6.mono HB25.out.size)); have HB46 := Aside0.mk (HB5.out.trans (hB6.mono HB5.out.size)); clear hB6))
  have hml : M.length = fs.length := HFR.out.mlen
  have hsz : ∀ p ∈ M, p.1.f1.length ≤ 140737488351232 := fun p hp => HLN.out _ (by rw [← HFR.out.fst]; exact List.mem_map_of_mem hp)
  have hnz : ∀ p ∈ M, p.1.f0.size ≤ 140737488355328 := fun p hp => HNM.out _ (by rw [← HFR.out.fst]; exact List.mem_map_of_mem hp)
  obtain ⟨colM, hm⟩ := mid_none HFR.out (by rw [HBG.out]; exact Nat.le_of_lt (blk_lt HG0.out)) HB0.out HB26.out
  have HM := Aside0.mk hm
  have HSZ := Aside0.mk hsz
  have HNZ := Aside0.mk hnz
  clear HFR HKF HB2 HS2 HB3 HB4 HB24 HB5 HB25 HB26 HB46 HW HG0 HGE HBG HKK HKW HB0 HLN HLN2 HNM hm hsz hnz
  go_loopw [11] (fun v11 wr => ∃ i : Nat, i ≤ fs.length ∧ v11 = .int .i64 i ∧ LW b w6 colM wr M) (fun v11 _ => fs.length - (intOf v11).toNat)
  case atStart => exact ⟨0, by omega, rfl, HM.out.lw⟩
  case round =>
    obtain ⟨i, hi, rfl, hLW⟩ := hrel
    by_cases h1 : i < fs.length
    · have hiM : i < M.length := by omega
      obtain ⟨N, hN⟩ : ∃ N, N = M[i].1.f1.length := ⟨_, rfl⟩
      have hNb : N ≤ 140737488351232 := by rw [hN]; exact HSZ.out _ (List.getElem_mem hiM)
      obtain ⟨Fj, e0, _, _, ht, hbF⟩ := hLW.cells HM.out.own HM.out.tag hiM
      have HALL : Aside0 (∀ W, LW b w6 colM W M → W.cell? ⟨F, i * 3 + 1, none⟩ = some (.slice (some ⟨Fj, 0, none⟩) N (N + 600)) ∧ U8B W Fj N) := ⟨fun W h => by
        obtain ⟨Fj', e1, h1, h2, _⟩ := h.cells HM.out.own HM.out.tag hiM
        rw [e0] at e1
        injection e1 with e1
        injection e1 with e1
        injection e1 with e1
        subst e1
        rw [hN]
        exact ⟨h1, h2⟩⟩
      have ci : (i : Int) < (fs.length : Int) := by omega
      have HI1 := Aside0.mk h1
      have HFT := Aside0.mk ht
      have HFB := Aside0.mk hbF
      have HK3 : Aside0 (wrap64 ((i : Int) + 1) = ((i : Int) + 1)) := ⟨PA.wr (by omega) (by have := HFL.out; omega)⟩
      have HEQ := Aside0.mk (congrArg (Value.int .i64) (show wrap64 ((i : Int) + 1) = ((i + 1 : Nat) : Int) from HK3.out))
      have HMS := Aside0.mk (meas_lt h1 HK3.out)
      have HEQ2 := Aside0.mk (show Value.int .i64 ((i : Int) + 1) = Value.int .i64 ((i + 1 : Nat) : Int) from rfl)
      have HMS2 := Aside0.mk (meas_lt2 h1)
      have HNB := Aside0.mk hNb
      have hfl := HFL.out
      clear hN hNb e0 ht hbF h1
      go_wp2
      go_loopw [12] (fun v12 wr2 => ∃ k : Nat, k ≤ N ∧ v12 = .int .i64 k ∧ LW b w6 colM wr2 M) (fun v12 _ => N - (intOf v12).toNat)
      case atStart => exact ⟨0, by omega, rfl, hLW⟩
      case round =>
        clear hLW
        obtain ⟨k, hk, rfl, hL⟩ := hrel
        obtain ⟨x1, hu⟩ := HALL.out _ hL
        have hnb := HNB.out
        by_cases h2 : k < N
        · obtain ⟨⟨x, x2⟩, x3⟩ := hu.at h2
          have ck : (k : Int) < (N : Int) := by omega
          have HJ3 : Aside0 (wrap64 ((k : Int) + 1) = ((k : Int) + 1)) := ⟨PA.wr (by omega) (by omega)⟩
          have HJQ := Aside0.mk (congrArg (Value.int .i64) (show wrap64 ((k : Int) + 1) = ((k + 1 : Nat) : Int) from HJ3.out))
          have HJS := Aside0.mk (meas_lt h2 HJ3.out)
          have HJQ2 := Aside0.mk (show Value.int .i64 ((k : Int) + 1) = Value.int .i64 ((k + 1 : Nat) : Int) from rfl)
          have HJS2 := Aside0.mk (meas_lt2 h2)
          have HJ1 := Aside0.mk (Nat.succ_le_of_lt h2)
          have HL := Aside0.mk hL
          clear h2 hk hu hL
          go_upto_region 12 with fail
          go_still_tail 16, (by kernel_rfl)
          change wpList _ _ _ _ _ wr.drew
          go_wp2
          exact ⟨⟨k + 1, HJ1.out, by first | exact HJQ.out | exact HJQ2.out, HL.out.drew.step HFT.out HFB.out _ _⟩, by first | exact HJS.out | exact HJS2.out⟩
        · have k5 : decide (k < N) = false := decide_eq_false h2
          have k6 : decide ((k : Int) < (N : Int)) = false := decide_eq_false (by omega)
          have HL := Aside0.mk hL
          clear h2 hk hu hL
          go_wp2
          exact ⟨⟨i + 1, HI1.out, by first | exact HEQ.out | exact HEQ2.out, HL.out⟩, by first | exact HMS.out | exact HMS2.out⟩
    · obtain rfl : i = fs.length := by omega
      have k5 : decide (fs.length < fs.length) = false := decide_eq_false h1
      obtain ⟨fs2, hl2, hk2, hf2⟩ := hLW.reads HM.out.own HM.out.tag HSZ.out
      have hls : fs2.length = fs.length := hl2.trans hml
      have HN2 : Aside0 (∀ f ∈ fs2, f.f0.size ≤ 140737488355328) := ⟨fun f hf => by obtain ⟨p, hp, e, _⟩ := hf2 f hf; rw [e]; exact HNZ.out p hp⟩
      have HL2 : Aside0 (∀ f ∈ fs2, f.f1.length ≤ 140737488355328) := ⟨fun f hf => by obtain ⟨p, hp, _, e⟩ := hf2 f hf; rw [e]; have := HSZ.out p hp; omega⟩
      rw [hls] at hk2
      have HK2 := Aside0.mk hk2
      have HLS := Aside0.mk hls
      have HL := Aside0.mk hLW
      clear hl2 hk2 hf2 hls h1 hi hLW
      rcases hn2 : newS fs2 with _ | l2
      · go_wp2_with (first
          | (go_at_call 10; refine Calls.mono (rnew_n fs.length (some ⟨F, 0, none⟩) (fs.length + 40) fs2 wr HLS.out HK2.out (Nat.le_add_right _ _) HN2.out HL2.out (by have := HFL.out; omega)) ?_; rintro e w7 hp; rw [hn2] at hp; obtain ⟨rfl, hB7⟩ := hp; have HB7 := Aside0.mk hB7; clear hB7)
          | (go_at_call 11; refine Calls.mono (pnew_n fs.length (some ⟨F, 0, none⟩) (fs.length + 40) fs2 w7 HLS.out (Kd.C_below HK2.out HB7.out) (Nat.le_add_right _ _) HN2.out HL2.out (by have := HFL.out; omega)) ?_; rintro e w8 hp; rw [hn2] at hp; obtain ⟨rfl, hB8⟩ := hp; have HB9 := Aside0.mk (HB7.out.trans (hB8.mono HB7.out.size)); clear hB8))
        go_ret2
        exact ⟨_, rfl, blk_new _ _, HM.out.below.trans ((HL.out.ch.below).trans ((below_alloc HB9.out _).mono HL.out.ch.le'))⟩
      · have HOK2 := Aside0.mk (newS_ok hn2)
        go_wp2_with (first
          | (go_at_call 10; refine Calls.mono (rnew_n fs.length (some ⟨F, 0, none⟩) (fs.length + 40) fs2 wr HLS.out HK2.out (Nat.le_add_right _ _) HN2.out HL2.out (by have := HFL.out; omega)) ?_; rintro e w7 hp; rw [hn2] at hp; obtain ⟨gR2, colR2, rfl, hB7, hR7⟩ := hp; have HB7 := Aside0.mk hB7; have HR7 := Aside0.mk hR7; clear hB7 hR7)
          | (go_at_call 11; refine Calls.mono (pnew_n fs.length (some ⟨F, 0, none⟩) (fs.length + 40) fs2 w7 HLS.out (Kd.C_below HK2.out HB7.out) (Nat.le_add_right _ _) HN2.out HL2.out (by have := HFL.out; omega)) ?_; rintro e w8 hp; rw [hn2] at hp; obtain ⟨gP2, colP2, rfl, hB8, m2, gb2, ar2, u2, hP8⟩ := hp; have HB8 := Aside0.mk hB8; have HP8 := Aside0.mk hP8; have HB78 := Aside0.mk (HB7.out.trans (hB8.mono HB7.out.size)); clear hB8 hP8)
          | (go_at_call 7; refine Calls.mono (pfiles _ gP2 m2 (Dk.start l2) gb2 ar2 u2 colP2 w8 HP8.out HOK2.out (pnames _ gP2 m2 (Dk.start l2) gb2 ar2 u2 colP2 w8 HP8.out HOK2.out)) ?_; rintro e w9 hp; obtain ⟨A9, c9, rfl, hc9, hk9, hb9⟩ := FlPost.slice hp; have HC9 := Aside0.mk hc9; have HK9 := Aside0.mk hk9; have HB89 := Aside0.mk hb9; have HB79 := Aside0.mk (HB78.out.trans (hb9.mono HB78.out.size)); clear hp hc9 hk9 hb9)
          | (go_at_call 8; refine Calls.mono (rfiles_d _ gR2 (Dk.start l2) colR2 w9 ((HR7.out.ch (S := fun _ => False) (Ch.of_below (HB8.out.trans (HB89.out.mono HB8.out.size)) HB7.out.size) (fun _ _ h => h))) HOK2.out) ?_; rintro e w10 hp; obtain ⟨A10, c10, rfl, hc10, hk10, hb10⟩ := FlPost.slice hp; have HC10 := Aside0.mk hc10; have HK10 := Aside0.mk hk10; have HB910 := Aside0.mk hb10; have HB710 := Aside0.mk (HB79.out.trans (hb10.mono HB79.out.size)); clear hp hc10 hk10 hb10)
          | (go_at_call 6; refine Calls.mono (sameFiles_calls (Dk.start l2).fs (by have := HOK2.out.few; omega) A9 A10 c9 c10 w10 (Kd.C_below HK9.out HB910.out) HC9.out HK10.out HC10.out) ?_; rintro e w11 ⟨rfl, hb11⟩; have HB9 := Aside0.mk (HB710.out.trans (hb11.mono HB710.out.size)); clear hb11))
        go_ret2
        exact ⟨_, rfl, blk_new _ _, HM.out.below.trans ((HL.out.ch.below).trans ((below_alloc HB9.out _).mono HL.out.ch.le'))⟩
theorem made_calls (A : Option Addr) (c : Nat) (fs : List Fl) (w : World) (hK : Kd.C k74 w A fs.length fs) (hc : fs.length ≤ c) (hnm : ∀ f ∈ fs, f.f0.size ≤ 140737488355328) (hln : ∀ f ∈ fs, f.f1.length ≤ 140737488351232) (hfl : fs.length * 48 ≤ 140737488351232) :
    Calls Try.prog 4 #[.slice A fs.length c] w fun e w' => MadePost w.heap.size w w' e (newS fs) := by
  rcases h : newS fs with _ | l
  · exact made_none A c fs w hK hc hnm hln hfl h
  · exact made_some A c fs w l hK hc hnm hln hfl h
end Go.Proofs.Ytmpgldggjjmkmaa.PA
