/- Several texts of this claim in one, each in a section of its own; what nothing reaches is left out. Conditions: each law's own. -/
import Derived.Test.YthneomomhoilkaaDoorME
import Derived.Defers
import Derived.Test.YthneomomhoilkaaDoorML
import Derived.Test.YthneomomhoilkaaDoorMDkPnew
set_option linter.unusedVariables false
set_option linter.unusedSimpArgs false
set_option linter.unusedSectionVars false
section
namespace Go.Proofs.YthneomomhoilkaaDoor.PA
open Go.RowKit Go.Maps Go.Sort Go.Proofs.YthneomomhoilkaaDoorW.PrintWords Go.Proofs.YthneomomhoilkaaDoorW.PrintLast Go.Proofs.YthneomomhoilkaaDoorW.PrintMore Go.Proofs.YthneomomhoilkaaDoor.Dw
structure ChX (b : Nat) (W : World) (col : RCol) (W' : World) (col' : RCol) (gx : Nat) : Prop where
  below : Below b W W'
  le : b ≤ W.heap.size
  same : ∀ k, k < W.heap.size → col' k = col k
  block : ∀ k, k < W.heap.size → ¬ isP (col k) → k ≠ gx → W'.heap[k]? = W.heap[k]?
structure DrA (b : Nat) (W : World) (col : RCol) (g gx : Nat) (d : Dk) (q : Dr) : Prop where
  da : DA b W col g d
  box : W.heap[gx]? = some (.cells (drC g q) 62 (0, 0))
  tag : ¬ isP (col gx)
  le : b ≤ gx
def DrPost (b : Nat) (w : World) (col : RCol) (g gx : Nat) (d : Dk) (q : Dr) (w' : World) : Prop := ∃ col', ChX b w col w' col' gx ∧ DrA b w' col' g gx d q
section
variable {b g gx gE : Nat} {w w' w2 : World} {col col' col2 : RCol} {d d' : Dk} {q q' : Dr}
theorem ChX.of {S : Role → Prop} (c : Ch b w col w' col' S) (hS : ∀ r, S r → isP r) (gx : Nat) : ChX b w col w' col' gx := ⟨c.below, c.le, c.same, fun k hk hn _ => c.block k hk (fun h => hn (hS _ h))⟩
theorem ChX.size (c : ChX b w col w' col' gx) : w.heap.size ≤ w'.heap.size := c.below.size
theorem ChX.trans (c : ChX b w col w' col' gx) (e : ChX b w' col' w2 col2 gx) : ChX b w col w2 col2 gx :=
  ⟨c.below.trans e.below, c.le, fun k hk => (e.same k (Nat.lt_of_lt_of_le hk c.size)).trans (c.same k hk), fun k hk hn hx => (e.block k (Nat.lt_of_lt_of_le hk c.size) (by rw [c.same k hk]; exact hn) hx).trans (c.block k hk hn hx)⟩
theorem ChX.put (c : ChX b w col w' col' gx) {p i : Nat} (hb : b ≤ p) (hp : p = gx ∨ w.heap.size ≤ p) (u : Value) : ChX b w col (w'.setCell ⟨p, i, none⟩ u) col' gx :=
  ⟨c.below.setCell (p := ⟨p, i, none⟩) hb u, c.le, c.same, fun k hk hn hx => (Below.heap_setCell w' ⟨p, i, none⟩ u k (fun e => by have e : k = p := e; rcases hp with h | h; exact hx (e.trans h); omega)).trans (c.block k hk hn hx)⟩
theorem DA.put (h : DA b w col g d) {p i : Nat} (hp : ¬ isP (col p)) (hb : b ≤ p) (u : Value) : DA b (w.setCell ⟨p, i, none⟩ u) col g d := h.ch (Ch.one_set h.le hb i u) (fun r hr e => hp (e ▸ hr))
theorem DrA.go (h : DrA b w col g gx d q) (c : Ch b w col w' col' isP) (hd : DA b w' col' g d') : DrA b w' col' g gx d' q :=
  ⟨hd, c.blk h.box h.tag, by rw [c.same gx (blk_lt h.box)]; exact h.tag, h.le⟩
theorem DrA.post (h : DrA b w col g gx d q) (p : APost b w col g d' w') : ∃ col', Ch b w col w' col' isP ∧ DrA b w' col' g gx d' q := by
  obtain ⟨col', h1, h2⟩ := p
  exact ⟨col', h1, h.go h1 h2⟩
theorem DrA.below (h : DrA b w col g gx d q) (hb : Below w.heap.size w w') : DrA b w' col g gx d q := ⟨h.da.below hb, (hb.block _ (blk_lt h.box)).trans h.box, h.tag, h.le⟩
end
set_option maxRecDepth 100000 in
theorem stick_d (gx gE g : Nat) (q : Dr) (ev : Int) (u : FrameMode) (w : World) (hx : w.heap[gx]? = some (.cells (drC g q) 62 (0, 0))) (he : w.cell? ⟨gE, 0, none⟩ = some (.int .i64 ev)) :
    CallsD Tryd.prog 22 #[.pointer (some ⟨gx, 0, none⟩), .pointer (some ⟨gE, 0, none⟩)] u w fun e u' w' => u' = u ∧ (e = .returned (.tuple #[]) ∧ w' = w.setCell ⟨gx, 4, none⟩ (.bool (ev != 0))) := by
  have c4 : w.cell? ⟨gx, 4, none⟩ = some (.bool q.stuck) := (blk_cell hx 4).trans rfl
  have y4 := blk_frozen hx 4
  clear hx
  go_enter_d Tryd.func22, Tryd.ntmps22
  go_wp2
  go_end0
  exact ⟨rfl, rfl⟩
set_option maxRecDepth 100000 in
theorem res_put {W : World} {ge : Nat} {x : Int} {tmps : Array Value} (ht : tmps.getD 4 undef = .pointer (some ⟨ge, 0, none⟩)) (hc : W.heap[ge]? = some (.cells #[.int .i64 x] 34 (0, 0))) :
    (results Tryd.f8 tmps).run Tryd.prog W = .ok (.int .i64 x) W := by
  have hr : Tryd.f8.results = #[.cell 4 34] := by kernel_rfl
  have ht' : tmps[4]?.getD undef = .pointer (some ⟨ge, 0, none⟩) := by rw [← ht]; simp
  have c0 : W.cell? ⟨ge, 0, none⟩ = some (.int .i64 x) := (blk_cell hc 0).trans rfl
  simp [results, hr, go_sem, ht', c0]
structure QB (b : Nat) (W : World) (col : RCol) (g gx gR gE : Nat) (d : Dk) (q : Dr) (kind : Int) (V : Value) : Prop where
  dr : DrA b W col g gx d q
  rb : W.heap[gR]? = some (.cells #[.int .u8 kind, V] 37 (0, 0))
  eb : W.heap[gE]? = some (.cells #[.int .i64 0] 34 (0, 0))
  tr : ¬ isP (col gR)
  te : ¬ isP (col gE)
section
variable {b g gx gR gE : Nat} {w w' w2 : World} {col col' col2 : RCol} {d d' : Dk} {q q' : Dr} {kind : Int} {V : Value}
theorem QB.go (h : QB b w col g gx gR gE d q kind V) (c : Ch b w col w' col' isP) (hd : DA b w' col' g d') : QB b w' col' g gx gR gE d' q kind V :=
  ⟨h.dr.go c hd, c.blk h.rb h.tr, c.blk h.eb h.te, by rw [c.same gR (blk_lt h.rb)]; exact h.tr, by rw [c.same gE (blk_lt h.eb)]; exact h.te⟩
theorem QB.post (h : QB b w col g gx gR gE d q kind V) (p : APost b w col g d' w') : ∃ col', Ch b w col w' col' isP ∧ QB b w' col' g gx gR gE d' q kind V := by
  obtain ⟨col', h1, h2⟩ := p
  exact ⟨col', h1, h.go h1 h2⟩
theorem QB.below (h : QB b w col g gx gR gE d q kind V) (hb : Below w.heap.size w w') : QB b w' col g gx gR gE d q kind V :=
  ⟨h.dr.below hb, (hb.block _ (blk_lt h.rb)).trans h.rb, (hb.block _ (blk_lt h.eb)).trans h.eb, h.tr, h.te⟩
theorem QB.say (h : QB b w2 col2 g gx gR gE d q kind V) (c : Ch b w col w2 col2 isP) (hE : w.heap.size ≤ gE) (e : Int) :
    (w2.setCell ⟨gE, 0, none⟩ (.int .i64 e)).heap[gE]? = some (.cells #[.int .i64 e] 34 (0, 0)) ∧ DrPost b w col g gx d q (w2.setCell ⟨gE, 0, none⟩ (.int .i64 e)) := by
  have hb : b ≤ gE := Nat.le_trans c.le hE
  have hne : gx ≠ gE := fun e => by have := h.dr.box; rw [e, h.eb] at this; injection this with this; injection this with _ h3; exact absurd h3 (by decide)
  refine ⟨blk_to h.eb (by simp), col2, (ChX.of c (fun _ h => h) gx).put hb (.inr hE) _, h.dr.da.put h.te hb _, (Below.heap_setCell w2 ⟨gE, 0, none⟩ _ gx hne).trans h.dr.box, h.dr.tag, h.dr.le⟩
theorem QB.ne (h : QB b w2 col2 g gx gR gE d q kind V) : gE ≠ gx := fun e2 => by have := h.dr.box; rw [← e2, h.eb] at this; injection this with this; injection this with _ h3; exact absurd h3 (by decide)
theorem QB.midF (h : QB b w2 col2 g gx gR gE d q kind V) (e : Int) : (w2.setCell ⟨gE, 0, none⟩ (.int .i64 e)).heap[gx]? = some (.cells (drC g q) 62 (0, 0)) ∧ (w2.setCell ⟨gE, 0, none⟩ (.int .i64 e)).cell? ⟨gE, 0, none⟩ = some (.int .i64 e) :=
  ⟨(Below.heap_setCell w2 ⟨gE, 0, none⟩ _ gx h.ne.symm).trans h.dr.box, (blk_cell (blk_to (ds := #[.int .i64 e]) h.eb (by simp)) 0).trans rfl⟩
theorem QB.midD (h : QB b w2 col2 g gx gR gE d q kind V) : ((w2.setCell ⟨gx, 3, none⟩ (.int .i64 ((q.len + 1 : Nat) : Int))).setCell ⟨gE, 0, none⟩ (.int .i64 0)).heap[gx]? = some (.cells (drC g { q with len := q.len + 1 }) 62 (0, 0)) ∧ ((w2.setCell ⟨gx, 3, none⟩ (.int .i64 ((q.len + 1 : Nat) : Int))).setCell ⟨gE, 0, none⟩ (.int .i64 0)).cell? ⟨gE, 0, none⟩ = some (.int .i64 0) := by
  have b1 := blk_to (ds := drC g { q with len := q.len + 1 }) h.dr.box (i := 3) (u := .int .i64 ((q.len + 1 : Nat) : Int)) (by simp [drC])
  have e1 := (Below.heap_setCell w2 ⟨gx, 3, none⟩ (.int .i64 ((q.len + 1 : Nat) : Int)) gE h.ne).trans h.eb
  exact ⟨(Below.heap_setCell (w2.setCell ⟨gx, 3, none⟩ (.int .i64 ((q.len + 1 : Nat) : Int))) ⟨gE, 0, none⟩ (.int .i64 0) gx h.ne.symm).trans b1, (blk_cell (blk_to (ds := #[.int .i64 0]) e1 (by simp)) 0).trans rfl⟩
theorem QB.fail (h : QB b w2 col2 g gx gR gE d q kind V) (c : Ch b w col w2 col2 isP) (hE : w.heap.size ≤ gE) (e : Int) (s : Bool) :
    ((w2.setCell ⟨gE, 0, none⟩ (.int .i64 e)).setCell ⟨gx, 4, none⟩ (.bool s)).heap[gE]? = some (.cells #[.int .i64 e] 34 (0, 0)) ∧ DrPost b w col g gx d { q with stuck := s } ((w2.setCell ⟨gE, 0, none⟩ (.int .i64 e)).setCell ⟨gx, 4, none⟩ (.bool s)) := by
  obtain ⟨h1, col3, hc, hd⟩ := h.say c hE e
  have hne : gE ≠ gx := fun e2 => by have := h.dr.box; rw [← e2, h.eb] at this; injection this with this; injection this with _ h3; exact absurd h3 (by decide)
  exact ⟨(Below.heap_setCell _ ⟨gx, 4, none⟩ _ gE hne).trans h1, col3, hc.put hd.le (.inl rfl) _, hd.da.put hd.tag hd.le _, blk_to hd.box (by simp [drC]), hd.tag, hd.le⟩
theorem QB.done (h : QB b w2 col2 g gx gR gE d q kind V) (c : Ch b w col w2 col2 isP) (hE : w.heap.size ≤ gE) (s : Bool) :
    (((w2.setCell ⟨gx, 3, none⟩ (.int .i64 ((q.len + 1 : Nat) : Int))).setCell ⟨gE, 0, none⟩ (.int .i64 0)).setCell ⟨gx, 4, none⟩ (.bool s)).heap[gE]? = some (.cells #[.int .i64 0] 34 (0, 0)) ∧ DrPost b w col g gx d { q with len := q.len + 1, stuck := s } (((w2.setCell ⟨gx, 3, none⟩ (.int .i64 ((q.len + 1 : Nat) : Int))).setCell ⟨gE, 0, none⟩ (.int .i64 0)).setCell ⟨gx, 4, none⟩ (.bool s)) := by
  have hne : gE ≠ gx := fun e2 => by have := h.dr.box; rw [← e2, h.eb] at this; injection this with this; injection this with _ h3; exact absurd h3 (by decide)
  have hb : b ≤ gE := Nat.le_trans c.le hE
  have c1 := ((((ChX.of c (fun _ h => h) gx).put (i := 3) h.dr.le (.inl rfl) (.int .i64 ((q.len + 1 : Nat) : Int))).put (i := 0) hb (.inr hE) (.int .i64 0)).put (i := 4) h.dr.le (.inl rfl) (.bool s))
  have d1 := ((h.dr.da.put (i := 3) h.dr.tag h.dr.le (.int .i64 ((q.len + 1 : Nat) : Int))).put (i := 0) h.te hb (.int .i64 0)).put (i := 4) h.dr.tag h.dr.le (.bool s)
  have b1 := blk_to (ds := drC g { q with len := q.len + 1 }) h.dr.box (i := 3) (u := .int .i64 ((q.len + 1 : Nat) : Int)) (by simp [drC])
  have b2 := (Below.heap_setCell (w2.setCell ⟨gx, 3, none⟩ (.int .i64 ((q.len + 1 : Nat) : Int))) ⟨gE, 0, none⟩ (.int .i64 0) gx hne.symm).trans b1
  have b3 := blk_to (ds := drC g { q with len := q.len + 1, stuck := s }) b2 (i := 4) (u := .bool s) (by simp [drC])
  have e1 := (Below.heap_setCell w2 ⟨gx, 3, none⟩ (.int .i64 ((q.len + 1 : Nat) : Int)) gE hne).trans h.eb
  have e2 := blk_to (ds := #[.int .i64 0]) e1 (i := 0) (u := .int .i64 0) (by simp)
  have e3 := (Below.heap_setCell ((w2.setCell ⟨gx, 3, none⟩ (.int .i64 ((q.len + 1 : Nat) : Int))).setCell ⟨gE, 0, none⟩ (.int .i64 0)) ⟨gx, 4, none⟩ (.bool s) gE hne).trans e2
  exact ⟨e3, col2, c1, d1, b3, h.dr.tag, h.dr.le⟩
end
set_option maxRecDepth 100000 in
set_option maxHeartbeats 8000000 in
theorem put_calls {b g gx : Nat} {w : World} {col : RCol} {d : Dk} {q : Dr} (h : DrA b w col g gx d q) (hg : q.gen < 100000000) (hs : q.sum < 4294967296) (hl : q.len < 4294967295) (kind : Int) (hk : 0 ≤ kind ∧ kind < 256) (A : Option Addr) (c : Nat) (body : List Int) (hb : Byt body) (hr : ReadsInt w .u8 A body.length body) (hc : body.length ≤ c) :
    Calls Tryd.prog 8 #[.pointer (some ⟨gx, 0, none⟩), .agg #[.int .u8 kind, .slice A body.length c]] w fun e w' => e = .returned (.int .i64 (q.put d kind body).1) ∧ DrPost b w col g gx (q.put d kind body).2.2 (q.put d kind body).2.1 w' := by
  obtain ⟨W1, hW1⟩ : ∃ W1, (w.alloc (.cells #[.int .u8 kind, .slice A body.length c] 37)).alloc (.cells #[.int .i64 0] 34) = W1 := ⟨_, rfl⟩
  obtain ⟨gR, hgR⟩ : ∃ gR, gR = w.heap.size := ⟨_, rfl⟩
  obtain ⟨col1, hcol1⟩ : ∃ col1, col1 = colN col w.heap.size fun _ => Role.tm := ⟨_, rfl⟩
  have h01 : Below w.heap.size w W1 := by rw [← hW1]; exact below_alloc (below_alloc (Below.refl _ _) _) _
  have hc1 : Ch b w col W1 col1 (fun _ => False) := by rw [hcol1]; exact Ch.of_new h01 h.da.le _
  have htm : ∀ k, w.heap.size ≤ k → ¬ isP (col1 k) := fun k hk => by rw [hcol1, colN_ge hk]; exact fun h => h
  have hq1 : QB b W1 col1 g gx gR (gR + 1) d q kind (.slice A body.length c) := by
    refine ⟨h.go (hc1.mono fun _ h => h.elim) (h.da.ch hc1 (fun _ _ h => h)), ?_, ?_, htm _ (by omega), htm _ (by omega)⟩
    · rw [← hW1, hgR]
      exact ((below_alloc (Below.refl _ _) _).block w.heap.size (by simp)).trans (blk_new w _)
    · rw [← hW1, hgR]
      have := blk_new (w.alloc (.cells #[.int .u8 kind, .slice A body.length c] 37)) (.cells #[.int .i64 0] 34)
      rwa [show (w.alloc (.cells #[.int .u8 kind, .slice A body.length c] 37)).heap.size = w.heap.size + 1 by simp] at this
  have HC1 := Aside0.mk (hc1.mono (S' := isP) fun _ h => h.elim)
  have HQ1 := Aside0.mk hq1
  have HW1 := Aside0.mk hW1
  have HGR := Aside0.mk hgR
  have HGE := Aside0.mk (show w.heap.size ≤ gR + 1 by omega)
  have HX : Aside0 (∀ W, Below W1.heap.size W1 W → ReadsInt W .u8 A body.length body) := ⟨fun W hW => hr.below (h01.trans (hW.mono h01.size))⟩
  have HByt := Aside0.mk hb
  have HK := Aside0.mk hk
  have HSum := Aside0.mk hs
  have HCap := Aside0.mk hc
  obtain ⟨gI, hgI⟩ : ∃ gI : Int, gI = (q.gen : Nat) := ⟨_, rfl⟩
  obtain ⟨sI, hsI⟩ : ∃ sI : Int, sI = (q.sum : Nat) := ⟨_, rfl⟩
  obtain ⟨nI, hnI⟩ : ∃ nI : Int, nI = (q.len : Nat) := ⟨_, rfl⟩
  have HE := Aside0.mk (And.intro hgI (And.intro hsI hnI))
  have hfa : ∀ {W : World} {col' : RCol} {d' : Dk}, QB b W col' g gx gR (gR + 1) d' q kind (.slice A body.length c) → (W.cell? ⟨gx, 0, none⟩ = some (.pointer (some ⟨g, 0, none⟩)) ∧ W.cell? ⟨gx, 1, none⟩ = some (.int .u32 sI) ∧ W.cell? ⟨gx, 2, none⟩ = some (.int .i64 gI) ∧ W.cell? ⟨gx, 3, none⟩ = some (.int .i64 nI) ∧ W.cell? ⟨gx, 4, none⟩ = some (.bool q.stuck)) ∧ (W.cell? ⟨gR, 0, none⟩ = some (.int .u8 kind) ∧ W.cell? ⟨gR, 1, none⟩ = some (.slice A body.length c)) ∧ W.cell? ⟨gR + 1, 0, none⟩ = some (.int .i64 0) ∧ W.frozen? ⟨gR + 1, 0, none⟩ = false ∧ W.frozen? ⟨gx, 3, none⟩ = false := fun {W col' d'} hq =>
    ⟨⟨(blk_cell hq.dr.box 0).trans rfl, by rw [hsI]; exact (blk_cell hq.dr.box 1).trans rfl, by rw [hgI]; exact (blk_cell hq.dr.box 2).trans rfl, by rw [hnI]; exact (blk_cell hq.dr.box 3).trans rfl, (blk_cell hq.dr.box 4).trans rfl⟩, ⟨(blk_cell hq.rb 0).trans rfl, (blk_cell hq.rb 1).trans rfl⟩, (blk_cell hq.eb 0).trans rfl, blk_frozen hq.eb 0, blk_frozen hq.dr.box 3⟩
  have HFA : Aside0 (∀ {W : World} {col' : RCol} {d' : Dk}, QB b W col' g gx gR (gR + 1) d' q kind (.slice A body.length c) → (W.cell? ⟨gx, 0, none⟩ = some (.pointer (some ⟨g, 0, none⟩)) ∧ W.cell? ⟨gx, 1, none⟩ = some (.int .u32 sI) ∧ W.cell? ⟨gx, 2, none⟩ = some (.int .i64 gI) ∧ W.cell? ⟨gx, 3, none⟩ = some (.int .i64 nI) ∧ W.cell? ⟨gx, 4, none⟩ = some (.bool q.stuck)) ∧ (W.cell? ⟨gR, 0, none⟩ = some (.int .u8 kind) ∧ W.cell? ⟨gR, 1, none⟩ = some (.slice A body.length c)) ∧ W.cell? ⟨gR + 1, 0, none⟩ = some (.int .i64 0) ∧ W.frozen? ⟨gR + 1, 0, none⟩ = false ∧ W.frozen? ⟨gx, 3, none⟩ = false) := ⟨hfa⟩
  obtain ⟨R, hR⟩ : ∃ R, R = q.put d kind body := ⟨_, rfl⟩
  rw [← hR]
  have HR := Aside0.mk hR
  obtain ⟨⟨k0, k1, k2, k3, k4⟩, ⟨k5, k6⟩, k7, y7, y3⟩ := hfa hq1
  have b3 : nI < 4294967295 := by omega
  have b4 : 0 ≤ nI := by omega
  have HGl := Aside0.mk hg
  clear h hs hl hb hr hc hW1 hgR hcol1 h01 hc1 htm hq1 hgI hsI hnI hfa hR hg hk
  cases hst : q.stuck with
  | true =>
    have HRr : Aside0 (R = (196, q, d)) := ⟨by rw [HR.out]; unfold Dr.put; rw [if_pos hst]⟩
    rw [hst] at k4
    clear hst
    go_enter_defers Tryd.func8, Tryd.ntmps8
    go_upto_region 1 with fail
    rw [HW1.out, ← HGR.out]
    go_wp2
    obtain ⟨h1, h2⟩ := HQ1.out.say HC1.out HGE.out 196
    exact ⟨_, res_put rfl h1, by rw [HRr.out], by rw [HRr.out]; exact h2⟩
  | false =>
  rw [hst] at k4
  by_cases hbig : 1048576 < body.length
  · have e1 : decide ((1048576 : Int) < (body.length : Int)) = true := decide_eq_true (by omega)
    have e2 : decide (1048576 < body.length) = true := decide_eq_true hbig
    have HRr : Aside0 (R = (197, q, d)) := ⟨by rw [HR.out]; unfold Dr.put; rw [if_neg (by simp [hst]), if_pos hbig]⟩
    clear hbig hst
    go_enter_defers Tryd.func8, Tryd.ntmps8
    go_upto_region 1 with fail
    rw [HW1.out, ← HGR.out]
    go_wp2
    obtain ⟨h1, h2⟩ := HQ1.out.say HC1.out HGE.out 197
    exact ⟨_, res_put rfl h1, by rw [HRr.out], by rw [HRr.out]; exact h2⟩
  · have e1 : decide ((1048576 : Int) < (body.length : Int)) = false := decide_eq_false (by omega)
    have e2 : decide (1048576 < body.length) = false := decide_eq_false hbig
    obtain ⟨P, hP⟩ : ∃ P, P = pieceS (q.len + 1) q.sum kind body := ⟨_, rfl⟩
    obtain ⟨r, hr⟩ : ∃ r, r = (d.lay (nameS q.gen) P).1 := ⟨_, rfl⟩
    obtain ⟨d1, hd1⟩ : ∃ d1, d1 = (d.lay (nameS q.gen) P).2 := ⟨_, rfl⟩
    have HRr : Aside0 (R = if r ≠ 0 then (r, { q with stuck := true }, d1) else (0, { q with len := q.len + 1, stuck := false }, d1)) := ⟨by
      rw [HR.out]; unfold Dr.put; rw [if_neg (by simp [hst]), if_neg hbig, ← hP, ← hr, ← hd1]⟩
    have HNa : Aside0 (∀ W, Below W1.heap.size W1 W → Calls Tryd.prog 24 #[.int .i64 gI] W fun e w' => e = .returned (.string (nameS q.gen)) ∧ Below W.heap.size W w') := ⟨fun W hW => by rw [HE.out.1]; exact name_calls q.gen HGl.out W ((HQ1.out.below hW).dr.da.vp)⟩
    have HPc : Aside0 (∀ W : World, Below W1.heap.size W1 W → Calls Tryd.prog 25 #[.int .i64 (wrap64 (nI + 1)), .int .u32 sI, .int .u8 kind, .slice A body.length c] W fun e w' => ∃ v, e = .returned v ∧ w'.ownsRow W.heap.size 5 1 v P.length (nums .u8 P) ∧ Below W.heap.size W w') := ⟨fun W hW => by
      rw [HE.out.2.1, hP, show wrap64 (nI + 1) = ((q.len + 1 : Nat) : Int) by have := HE.out.2.2; unfold wrap64; omega]
      exact piece_calls (q.len + 1) q.sum kind A c body W (by have := HE.out.2.2; omega) HSum.out HK.out HByt.out (by omega) (HX.out W hW)⟩
    have hPl : P.length ≤ 140737488355328 := by rw [hP, pieceS_len]; omega
    have hPb : Byt P := by rw [hP]; exact pieceS_byt HK.out HByt.out
    have HLay : Aside0 (∀ W col' A' c', QB b W col' g gx gR (gR + 1) d q kind (.slice A body.length c) → XRow W col' isP A' P → P.length ≤ c' → Calls Tryd.prog 23 #[.pointer (some ⟨g, 0, none⟩), .string (nameS q.gen), .slice A' P.length c'] W fun e w' => e = .returned (.int .i64 r) ∧ ∃ col7, Ch b W col' w' col7 isP ∧ QB b w' col7 g gx gR (gR + 1) d1 q kind (.slice A body.length c)) := ⟨fun W col' A' c' hm hx hc' => by
      refine (lay_calls hm.dr.da (nameS q.gen) A' c' P (by rw [nameS_size HGl.out]; decide) hx hc' hPl hPb).mono fun e w' h => ⟨by rw [hr]; exact h.1, ?_⟩
      rw [hd1]
      exact hm.post h.2⟩
    have HF1 : Aside0 (∀ W, Below W1.heap.size W1 W → (W.cell? ⟨gx, 0, none⟩ = some (.pointer (some ⟨g, 0, none⟩)) ∧ W.cell? ⟨gx, 1, none⟩ = some (.int .u32 sI) ∧ W.cell? ⟨gx, 2, none⟩ = some (.int .i64 gI) ∧ W.cell? ⟨gx, 3, none⟩ = some (.int .i64 nI)) ∧ (W.cell? ⟨gR, 0, none⟩ = some (.int .u8 kind) ∧ W.cell? ⟨gR, 1, none⟩ = some (.slice A body.length c))) := ⟨fun W hW => by
      obtain ⟨⟨a0, a1, a2, a3, a4⟩, ⟨a5, a6⟩, _⟩ := HFA.out (HQ1.out.below hW)
      exact ⟨⟨a0, a1, a2, a3⟩, a5, a6⟩⟩
    clear hst hbig hP hr hd1 hPl hPb
    go_enter_defers Tryd.func8, Tryd.ntmps8
    go_upto_region 1 with fail
    rw [HW1.out, ← HGR.out]
    go_upto_region 6 with fail
    refine wp_region_noPanic ?_
    refine start_ (n := 25) (S := fun w' => w'.cell? ⟨gx, 0, none⟩ = some (.pointer (some ⟨g, 0, none⟩)) ∧ w'.cell? ⟨gx, 1, none⟩ = some (.int .u32 sI) ∧ w'.cell? ⟨gx, 2, none⟩ = some (.int .i64 gI) ∧ w'.cell? ⟨gx, 3, none⟩ = some (.int .i64 nI) ∧ w'.cell? ⟨gR, 0, none⟩ = some (.int .u8 kind) ∧ w'.cell? ⟨gR, 1, none⟩ = some (.slice A body.length c) ∧ Below W1.heap.size W1 w') (ds := [23]) #[false, false, false, false, false, false, false, false, false, false, false, false, false, false, false, false, false, false, false, false, false, false, false, false, false] (by kernel_rfl) rfl rfl ⟨(HF1.out _ (below_drew (Below.refl _ _))).1.1, (HF1.out _ (below_drew (Below.refl _ _))).1.2.1, (HF1.out _ (below_drew (Below.refl _ _))).1.2.2.1, (HF1.out _ (below_drew (Below.refl _ _))).1.2.2.2, (HF1.out _ (below_drew (Below.refl _ _))).2.1, (HF1.out _ (below_drew (Below.refl _ _))).2.2, (below_drew (Below.refl _ _))⟩ (fun hHeld => ?_)
    refine pure_ (i := 0) (N := some 17) (v := ?_) (a' := ?_) #[true, false, false, false, false, false, false, false, false, false, false, false, false, false, false, false, false, false, false, false, false, false, false, false, false] rfl rfl (by kernel_rfl) (fun _ _ _ h => h) (Or.inl ⟨by rfl, ?_⟩) ?_ ?_
    rotate_left
    · intro w'
      go_simp
      with_reducible rfl
    rotate_left
    · simp only [Act.put, List.setIfInBounds_toArray, List.set_cons_zero, List.set_cons_succ, i64_w, i32_w]
      rfl
    refine pure_ (i := 1) (N := some 18) (v := ?_) (a' := ?_) #[true, true, false, false, false, false, false, false, false, false, false, false, false, false, false, false, false, false, false, false, false, false, false, false, false] rfl rfl (by kernel_rfl) (fun _ _ _ h => h) (Or.inl ⟨by rfl, ?_⟩) ?_ ?_
    rotate_left
    · intro w'
      go_simp
      with_reducible rfl
    rotate_left
    · simp only [Act.put, List.setIfInBounds_toArray, List.set_cons_zero, List.set_cons_succ, i64_w, i32_w]
      rfl
    refine pure_ (i := 2) (N := some 19) (v := ?_) (a' := ?_) #[true, true, true, false, false, false, false, false, false, false, false, false, false, false, false, false, false, false, false, false, false, false, false, false, false] rfl rfl (by kernel_rfl) (fun _ _ _ h => h) (Or.inl ⟨by rfl, ?_⟩) ?_ ?_
    rotate_left
    · intro w'
      go_simp
      with_reducible rfl
    rotate_left
    · simp only [Act.put, List.setIfInBounds_toArray, List.set_cons_zero, List.set_cons_succ, i64_w, i32_w]
      rfl
    refine pure_ (i := 4) (N := some 21) (v := ?_) (a' := ?_) #[true, true, true, false, true, false, false, false, false, false, false, false, false, false, false, false, false, false, false, false, false, false, false, false, false] rfl rfl (by kernel_rfl) (fun _ _ _ h => h) (Or.inl ⟨by rfl, ?_⟩) ?_ ?_
    rotate_left
    · intro w'
      go_simp
      with_reducible rfl
    rotate_left
    · simp only [Act.put, List.setIfInBounds_toArray, List.set_cons_zero, List.set_cons_succ, i64_w, i32_w]
      rfl
    refine pure_ (i := 5) (N := some 22) (v := ?_) (a' := ?_) #[true, true, true, false, true, true, false, false, false, false, false, false, false, false, false, false, false, false, false, false, false, false, false, false, false] rfl rfl (by kernel_rfl) (fun _ _ _ h => h) (Or.inl ⟨by rfl, ?_⟩) ?_ ?_
    rotate_left
    · intro w'
      go_simp
      with_reducible rfl
    rotate_left
    · simp only [Act.put, List.setIfInBounds_toArray, List.set_cons_zero, List.set_cons_succ, i64_w, i32_w]
      rfl
    refine pure_ (i := 6) (N := some 23) (v := ?_) (a' := ?_) #[true, true, true, false, true, true, true, false, false, false, false, false, false, false, false, false, false, false, false, false, false, false, false, false, false] rfl rfl (by kernel_rfl) (fun _ _ _ h => h) (Or.inl ⟨by rfl, ?_⟩) ?_ ?_
    rotate_left
    · intro w'
      go_simp
      with_reducible rfl
    rotate_left
    · simp only [Act.put, List.setIfInBounds_toArray, List.set_cons_zero, List.set_cons_succ, i64_w, i32_w]
      rfl
    refine pure_ (i := 9) (N := some 26) (v := ?_) (a' := ?_) #[true, true, true, false, true, true, true, false, false, true, false, false, false, false, false, false, false, false, false, false, false, false, false, false, false] rfl rfl (by kernel_rfl) (fun _ _ _ h => h) (Or.inl ⟨by rfl, ?_⟩) ?_ ?_
    rotate_left
    · intro w'
      go_simp
      with_reducible rfl
    rotate_left
    · simp only [Act.put, List.setIfInBounds_toArray, List.set_cons_zero, List.set_cons_succ, i64_w, i32_w]
      rfl
    refine pure_ (i := 10) (N := some 27) (v := ?_) (a' := ?_) #[true, true, true, false, true, true, true, false, false, true, true, false, false, false, false, false, false, false, false, false, false, false, false, false, false] rfl rfl (by kernel_rfl) (fun _ _ _ h => h) (Or.inl ⟨by rfl, ?_⟩) ?_ ?_
    rotate_left
    · intro w'
      go_simp
      with_reducible rfl
    rotate_left
    · simp only [Act.put, List.setIfInBounds_toArray, List.set_cons_zero, List.set_cons_succ, i64_w, i32_w]
      rfl
    refine pure_ (i := 11) (N := some 28) (v := ?_) (a' := ?_) #[true, true, true, false, true, true, true, false, false, true, true, true, false, false, false, false, false, false, false, false, false, false, false, false, false] rfl rfl (by kernel_rfl) (fun _ _ _ h => h) (Or.inl ⟨by rfl, ?_⟩) ?_ ?_
    rotate_left
    · intro w'
      go_simp
      with_reducible rfl
    rotate_left
    · simp only [Act.put, List.setIfInBounds_toArray, List.set_cons_zero, List.set_cons_succ, i64_w, i32_w]
      rfl
    refine pure_ (i := 14) (N := some 31) (v := ?_) (a' := ?_) #[true, true, true, false, true, true, true, false, false, true, true, true, false, false, true, false, false, false, false, false, false, false, false, false, false] rfl rfl (by kernel_rfl) (fun _ _ _ h => h) (Or.inl ⟨by rfl, ?_⟩) ?_ ?_
    rotate_left
    · intro w'
      go_simp
      with_reducible rfl
    rotate_left
    · simp only [Act.put, List.setIfInBounds_toArray, List.set_cons_zero, List.set_cons_succ, i64_w, i32_w]
      rfl
    refine pure_ (i := 15) (N := some 32) (v := ?_) (a' := ?_) #[true, true, true, false, true, true, true, false, false, true, true, true, false, false, true, true, false, false, false, false, false, false, false, false, false] rfl rfl (by kernel_rfl) (fun _ _ _ h => h) (Or.inl ⟨by rfl, ?_⟩) ?_ ?_
    rotate_left
    · intro w'
      go_simp
      with_reducible rfl
    rotate_left
    · simp only [Act.put, List.setIfInBounds_toArray, List.set_cons_zero, List.set_cons_succ, i64_w, i32_w]
      rfl
    refine pure_ (i := 16) (N := some 33) (v := ?_) (a' := ?_) #[true, true, true, false, true, true, true, false, false, true, true, true, false, false, true, true, true, false, false, false, false, false, false, false, false] rfl rfl (by kernel_rfl) (fun _ _ _ h => h) (Or.inl ⟨by rfl, ?_⟩) ?_ ?_
    rotate_left
    · intro w'
      go_simp
      with_reducible rfl
    rotate_left
    · simp only [Act.put, List.setIfInBounds_toArray, List.set_cons_zero, List.set_cons_succ, i64_w, i32_w]
      rfl
    refine pure_ (i := 18) (N := some 35) (v := ?_) (a' := ?_) #[true, true, true, false, true, true, true, false, false, true, true, true, false, false, true, true, true, false, true, false, false, false, false, false, false] rfl rfl (by kernel_rfl) (fun _ _ _ h => h) (Or.inl ⟨by rfl, ?_⟩) ?_ ?_
    rotate_left
    · intro w'
      go_simp
      with_reducible rfl
    rotate_left
    · simp only [Act.put, List.setIfInBounds_toArray, List.set_cons_zero, List.set_cons_succ, i64_w, i32_w]
      rfl
    refine pure_ (i := 20) (N := some 37) (v := ?_) (a' := ?_) #[true, true, true, false, true, true, true, false, false, true, true, true, false, false, true, true, true, false, true, false, true, false, false, false, false] rfl rfl (by kernel_rfl) (fun _ _ _ h => h) (Or.inl ⟨by rfl, ?_⟩) ?_ ?_
    rotate_left
    · intro w'
      go_simp
      with_reducible rfl
    rotate_left
    · simp only [Act.put, List.setIfInBounds_toArray, List.set_cons_zero, List.set_cons_succ, i64_w, i32_w]
      rfl
    refine take_ (i := 3) (N := some 20) (v := ?_) (a' := ?_) #[true, true, true, true, true, true, true, false, false, true, true, true, false, false, true, true, true, false, true, false, true, false, false, false, false] rfl rfl (by kernel_rfl) (fun _ _ _ h => h) (Or.inl ⟨by rfl, ?_⟩) hHeld ?_ ?_
    rotate_left
    · rintro w' ⟨s0, s1, s2, s3, s4, s5, s6⟩
      go_simp
      with_reducible rfl
    rotate_left
    · simp only [Act.put, List.setIfInBounds_toArray, List.set_cons_zero, List.set_cons_succ, i64_w, i32_w]
      rfl
    refine take_ (i := 7) (N := some 24) (v := ?_) (a' := ?_) #[true, true, true, true, true, true, true, true, false, true, true, true, false, false, true, true, true, false, true, false, true, false, false, false, false] rfl rfl (by kernel_rfl) (fun _ _ _ h => h) (Or.inl ⟨by rfl, ?_⟩) hHeld ?_ ?_
    rotate_left
    · rintro w' ⟨s0, s1, s2, s3, s4, s5, s6⟩
      go_simp
      with_reducible rfl
    rotate_left
    · simp only [Act.put, List.setIfInBounds_toArray, List.set_cons_zero, List.set_cons_succ, i64_w, i32_w]
      rfl
    refine take_ (i := 12) (N := some 29) (v := ?_) (a' := ?_) #[true, true, true, true, true, true, true, true, false, true, true, true, true, false, true, true, true, false, true, false, true, false, false, false, false] rfl rfl (by kernel_rfl) (fun _ _ _ h => h) (Or.inl ⟨by rfl, ?_⟩) hHeld ?_ ?_
    rotate_left
    · rintro w' ⟨s0, s1, s2, s3, s4, s5, s6⟩
      go_simp
      with_reducible rfl
    rotate_left
    · simp only [Act.put, List.setIfInBounds_toArray, List.set_cons_zero, List.set_cons_succ, i64_w, i32_w]
      rfl
    refine pure_ (i := 13) (N := some 30) (v := ?_) (a' := ?_) #[true, true, true, true, true, true, true, true, false, true, true, true, true, true, true, true, true, false, true, false, true, false, false, false, false] rfl rfl (by kernel_rfl) (fun _ _ _ h => h) (Or.inl ⟨by rfl, ?_⟩) ?_ ?_
    rotate_left
    · intro w'
      go_simp
      with_reducible rfl
    rotate_left
    · simp only [Act.put, List.setIfInBounds_toArray, List.set_cons_zero, List.set_cons_succ, i64_w, i32_w]
      rfl
    refine take_ (i := 17) (N := some 34) (v := ?_) (a' := ?_) #[true, true, true, true, true, true, true, true, false, true, true, true, true, true, true, true, true, true, true, false, true, false, false, false, false] rfl rfl (by kernel_rfl) (fun _ _ _ h => h) (Or.inl ⟨by rfl, ?_⟩) hHeld ?_ ?_
    rotate_left
    · rintro w' ⟨s0, s1, s2, s3, s4, s5, s6⟩
      go_simp
      with_reducible rfl
    rotate_left
    · simp only [Act.put, List.setIfInBounds_toArray, List.set_cons_zero, List.set_cons_succ, i64_w, i32_w]
      rfl
    refine take_ (i := 19) (N := some 36) (v := ?_) (a' := ?_) #[true, true, true, true, true, true, true, true, false, true, true, true, true, true, true, true, true, true, true, true, true, false, false, false, false] rfl rfl (by kernel_rfl) (fun _ _ _ h => h) (Or.inl ⟨by rfl, ?_⟩) hHeld ?_ ?_
    rotate_left
    · rintro w' ⟨s0, s1, s2, s3, s4, s5, s6⟩
      go_simp
      with_reducible rfl
    rotate_left
    · simp only [Act.put, List.setIfInBounds_toArray, List.set_cons_zero, List.set_cons_succ, i64_w, i32_w]
      rfl
    refine take_ (i := 21) (N := some 38) (v := ?_) (a' := ?_) #[true, true, true, true, true, true, true, true, false, true, true, true, true, true, true, true, true, true, true, true, true, true, false, false, false] rfl rfl (by kernel_rfl) (fun _ _ _ h => h) (Or.inl ⟨by rfl, ?_⟩) hHeld ?_ ?_
    rotate_left
    · rintro w' ⟨s0, s1, s2, s3, s4, s5, s6⟩
      go_simp
      with_reducible rfl
    rotate_left
    · simp only [Act.put, List.setIfInBounds_toArray, List.set_cons_zero, List.set_cons_succ, i64_w, i32_w]
      rfl
    refine one_ (i := 8) (N := some 25) #[true, true, true, true, true, true, true, true, true, true, true, true, true, true, true, true, true, true, true, true, true, true, false, false, false] rfl rfl (by kernel_rfl) (by decide) (fun K hK => ?_)
    refine goes_ Tryd.func24 (by kernel_rfl) rfl #[.int .i64 gI] (by rfl) rfl rfl (by simp only [List.map_toArray, List.map_cons, List.map_nil]; rfl) ?_
    with_reducible refine ((HNa.out _ hHeld.2.2.2.2.2.2)).mono ?_
    rintro e w3 ⟨rfl, hb3⟩
    refine ⟨_, rfl, ?_⟩
    have HB3 := Aside0.mk (hHeld.2.2.2.2.2.2.trans (hb3.mono hHeld.2.2.2.2.2.2.size))
    clear hb3
    refine hK.out _ _ ⟨(HF1.out _ HB3.out).1.1, (HF1.out _ HB3.out).1.2.1, (HF1.out _ HB3.out).1.2.2.1, (HF1.out _ HB3.out).1.2.2.2, (HF1.out _ HB3.out).2.1, (HF1.out _ HB3.out).2.2, HB3.out⟩ (fun hHeld => ?_)
    clear hK K
    refine norm_ (a' := ?_) ?_ ?_
    rotate_left
    · show Act.put _ (some 25) _ = _
      simp only [Act.put, List.setIfInBounds_toArray, List.set_cons_zero, List.set_cons_succ, i64_w, i32_w]
      rfl
    refine one_ (i := 22) (N := some 39) #[true, true, true, true, true, true, true, true, true, true, true, true, true, true, true, true, true, true, true, true, true, true, true, false, false] rfl rfl (by kernel_rfl) (by decide) (fun K hK => ?_)
    refine goes_ Tryd.func25 (by kernel_rfl) rfl #[.int .i64 (wrap64 (nI + 1)), .int .u32 sI, .int .u8 kind, .slice A body.length c] (by rfl) rfl rfl (by simp only [List.map_toArray, List.map_cons, List.map_nil]; rfl) ?_
    with_reducible refine ((HPc.out _ hHeld.2.2.2.2.2.2)).mono ?_
    rintro e w4 ⟨v4, rfl, ho4, hb4⟩
    refine ⟨_, rfl, ?_⟩
    obtain ⟨col4, A4, c4, rfl, hcap4, hc4, hd4, hx4⟩ := piece_x ((HQ1.out.below hHeld.2.2.2.2.2.2).dr.da) ho4 hb4
    have HQ4 := Aside0.mk ((HQ1.out.below hHeld.2.2.2.2.2.2).go hc4 hd4)
    have HC4 := Aside0.mk ((Ch.of_below (S := isP) hHeld.2.2.2.2.2.2 HQ1.out.dr.da.le).trans hc4)
    have HX4 := Aside0.mk hx4
    have HCap4 := Aside0.mk hcap4
    have HB4 := Aside0.mk (hHeld.2.2.2.2.2.2.trans (hb4.mono hHeld.2.2.2.2.2.2.size))
    clear hb4 ho4 hcap4 hc4 hd4 hx4
    refine hK.out _ _ ⟨(HF1.out _ HB4.out).1.1, (HF1.out _ HB4.out).1.2.1, (HF1.out _ HB4.out).1.2.2.1, (HF1.out _ HB4.out).1.2.2.2, (HF1.out _ HB4.out).2.1, (HF1.out _ HB4.out).2.2, HB4.out⟩ (fun hHeld => ?_)
    clear hK K
    refine norm_ (a' := ?_) ?_ ?_
    rotate_left
    · show Act.put _ (some 39) _ = _
      simp only [Act.put, List.setIfInBounds_toArray, List.set_cons_zero, List.set_cons_succ, i64_w, i32_w]
      rfl
    refine last_ (i := 23) (N := some 40) #[true, true, true, true, true, true, true, true, true, true, true, true, true, true, true, true, true, true, true, true, true, true, true, true, false] rfl rfl (by kernel_rfl) (by decide) (fun K hK => ?_)
    refine goes_ Tryd.func23 (by kernel_rfl) rfl #[.pointer (some ⟨g, 0, none⟩), .string (nameS q.gen), .slice A4 P.length c4] (by rfl) rfl rfl (by simp only [List.map_toArray, List.map_cons, List.map_nil]; rfl) ?_
    with_reducible refine ((HLay.out _ col4 A4 c4 HQ4.out HX4.out HCap4.out)).mono ?_
    rintro e w5 ⟨rfl, col5, hc5, hq5⟩
    refine ⟨_, rfl, ?_⟩
    have HC5 := Aside0.mk (HC1.out.trans (HC4.out.trans hc5))
    have HQ5 := Aside0.mk hq5
    clear hc5 hq5
    refine hK.out _ _ ?_
    clear hK K
    refine norm_ (a' := ?_) ?_ ?_
    rotate_left
    · show Act.put _ (some 40) _ = _
      simp only [Act.put, List.setIfInBounds_toArray, List.set_cons_zero, List.set_cons_succ, i64_w, i32_w]
      rfl
    refine pure_ (i := 24) (N := some 5) (v := ?_) (a' := ?_) #[true, true, true, true, true, true, true, true, true, true, true, true, true, true, true, true, true, true, true, true, true, true, true, true, true] rfl rfl (by kernel_rfl) (fun _ _ _ h => h) (Or.inl ⟨by rfl, ?_⟩) ?_ ?_
    rotate_left
    · intro w'
      go_simp
      with_reducible rfl
    rotate_left
    · simp only [Act.put, List.setIfInBounds_toArray, List.set_cons_zero, List.set_cons_succ, i64_w, i32_w]
      rfl
    refine done_ (by kernel_rfl) ?_
    refine NoPanic.normal ?_
    clear k0 k1 k2 k3 k4 k5 k6 k7 y7 y3
    obtain ⟨⟨k0, k1, k2, k3, k4⟩, ⟨k5, k6⟩, k7, y7, y3⟩ := HFA.out HQ5.out
    have n1 : ¬ gR + 1 = gx := HQ5.out.ne
    have n2 : ¬ gx = gR + 1 := HQ5.out.ne.symm
    by_cases h0 : r = 0
    · have z1 : (r != 0) = false := by simp [h0]
      have z2 : decide (r = 0) = true := decide_eq_true h0
      have HR2 : Aside0 (R = (0, { q with len := q.len + 1, stuck := false }, d1)) := ⟨by rw [HRr.out, if_neg (by simp [h0])]⟩
      clear h0
      go_wp2
      rw [show nI + 1 = ((q.len + 1 : Nat) : Int) by have := HE.out.2.2; omega]
      obtain ⟨m1, m2⟩ := HQ5.out.midD
      refine leaves_cons (f := 22) (args := #[.pointer (some ⟨gx, 0, none⟩), .pointer (some ⟨gR + 1, 0, none⟩)]) (by simp) (by simp [go_sem]) ?_
      refine (stick_d gx (gR + 1) g _ 0 .returning _ m1 m2).mono ?_
      rintro e u' w'' ⟨rfl, rfl, rfl⟩
      obtain ⟨h1, h2⟩ := HQ5.out.done HC5.out HGE.out false
      exact ⟨_, res_put rfl h1, by rw [HR2.out], by rw [HR2.out]; exact h2⟩
    · have z1 : (r != 0) = true := by simp [h0]
      have z2 : decide (r = 0) = false := decide_eq_false h0
      have HR2 : Aside0 (R = (r, { q with stuck := true }, d1)) := ⟨by rw [HRr.out, if_pos h0]⟩
      have HZ := Aside0.mk z1
      clear h0
      go_wp2
      obtain ⟨m1, m2⟩ := HQ5.out.midF r
      refine leaves_cons (f := 22) (args := #[.pointer (some ⟨gx, 0, none⟩), .pointer (some ⟨gR + 1, 0, none⟩)]) (by simp) (by simp [go_sem]) ?_
      refine (stick_d gx (gR + 1) g _ r .returning _ m1 m2).mono ?_
      rintro e u' w'' ⟨rfl, rfl, rfl⟩
      obtain ⟨h1, h2⟩ := HQ5.out.fail HC5.out HGE.out r true
      rw [HZ.out]
      exact ⟨_, res_put rfl h1, by rw [HR2.out], by rw [HR2.out]; exact h2⟩
set_option maxRecDepth 100000 in
theorem len_calls (gx g : Nat) (q : Dr) (w : World) (hx : w.heap[gx]? = some (.cells (drC g q) 62 (0, 0))) :
    Calls Tryd.prog 21 #[.pointer (some ⟨gx, 0, none⟩)] w fun e w' => e = .returned (.int .i64 q.len) ∧ w' = w := by
  have c3 : w.cell? ⟨gx, 3, none⟩ = some (.int .i64 q.len) := (blk_cell hx 3).trans rfl
  clear hx
  go_enter Tryd.func21, Tryd.ntmps21
  go_wp2
  go_ret
  exact ⟨rfl, rfl⟩
set_option maxRecDepth 100000 in
theorem res_record {W : World} {ge : Nat} {k : Int} {v : Value} {tmps : Array Value} (ht : tmps.getD 4 undef = .pointer (some ⟨ge, 0, none⟩)) (hc : W.heap[ge]? = some (.cells #[.int .u8 k, v] 37 (0, 0))) :
    (results Tryd.f9 tmps).run Tryd.prog W = .ok (.agg #[.int .u8 k, v]) W := by
  have hr : Tryd.f9.results = #[.cell 4 37] := by kernel_rfl
  have ht' : tmps[4]?.getD undef = .pointer (some ⟨ge, 0, none⟩) := by rw [← ht]; simp
  have c0 : W.cell? ⟨ge, 0, none⟩ = some (.int .u8 k) := (blk_cell hc 0).trans rfl
  have c1 : W.cell? ⟨ge, 1, none⟩ = some v := (blk_cell hc 1).trans rfl
  simp [results, hr, go_sem, ht', c0, c1]
def RecPost (w w' : World) (e : Ending) (kind : Int) (xs : List Int) : Prop := ∃ A c, e = .returned (.agg #[.int .u8 (kind % 256), .slice A xs.length c]) ∧ w'.ownsRow w.heap.size 5 1 (.slice A xs.length c) xs.length (nums .u8 xs) ∧ Below w.heap.size w w'
set_option maxRecDepth 100000 in
set_option maxHeartbeats 4000000 in
theorem record_calls (kind : Int) (A : Option Addr) (c : Nat) (xs : List Int) (w : World) (hr : ReadsInt w .u8 A xs.length xs) (hl : xs.length ≤ 140737488351232) :
    Calls Tryd.prog 9 #[.int .i64 kind, .slice A xs.length c] w fun e w' => RecPost w w' e kind xs := by
  obtain ⟨W1, hW1⟩ : ∃ W1, w.alloc (.cells #[.int .u8 0, .slice none 0 0] 37) = W1 := ⟨_, rfl⟩
  obtain ⟨ge, hge⟩ : ∃ ge, ge = w.heap.size := ⟨_, rfl⟩
  have h01 : Below w.heap.size w W1 := by rw [← hW1]; exact below_alloc (Below.refl _ _) _
  have hg1 : W1.heap[ge]? = some (.cells #[.int .u8 0, .slice none 0 0] 37 (0, 0)) := by rw [← hW1, hge]; exact blk_new w _
  have HR := Aside0.mk (hr.below h01)
  have HB := Aside0.mk h01
  have HG := Aside0.mk hg1
  have HW := Aside0.mk hW1
  have HGE := Aside0.mk hge
  have HL := Aside0.mk hl
  clear hr hl hW1 hge h01 hg1
  go_enter Tryd.func9, Tryd.ntmps9
  go_upto_region 1 with fail
  rw [HW.out, ← HGE.out]
  go_wp2_with ((with_reducible refine gate_builtin (b := .append) (xs := #[.const (.slice none 0 0), .tmp 7]) rfl ?_); at_builtin; refine print_append_row (w0 := W1) W1.heap.size rfl (.const (.slice none 0 0)) (.tmp 7) 29 5 .u8 1 rfl Tryd.underlying29 infoB (by decide) (.slice none 0 0) [] xs A xs.length c rfl rfl (own_nil _ _ _ _) HR.out (Below.refl _ _) (Nat.le_refl _) (by have := HL.out; simp; omega) ?_; intro v1 w2 ho2 hb2 _ _; rw [List.nil_append] at ho2; obtain ⟨A2, c2, rfl, _⟩ := own_form ho2; have hg2 := (hb2.block ge (blk_lt HG.out)).trans HG.out; have f0 : w2.cell? ⟨ge, 0, none⟩ = some (.int .u8 0) := (blk_cell hg2 0).trans rfl; have f1 : w2.cell? ⟨ge, 1, none⟩ = some (.slice none 0 0) := (blk_cell hg2 1).trans rfl; have y0 := blk_frozen hg2 0; have y1 := blk_frozen hg2 1; have HO2 := Aside0.mk ho2; have HB2 := Aside0.mk hb2; have HG2 := Aside0.mk hg2; clear ho2 hb2 hg2)
  refine bodyPost_ret (res_record rfl (blk_set (blk_set HG2.out 0 _) 1 _)) rfl ?_
  obtain ⟨e1, e2⟩ := whole_end HGE.out HB.out (blk_lt HG.out) HB2.out HO2.out (.int .u8 (kind % 256)) (.slice A2 xs.length c2)
  exact ⟨A2, c2, rfl, e1, e2⟩
section
variable {b g : Nat} {w w' : World} {col : RCol} {d : Dk}
theorem arm_a (h : DA b w col g d) (x : Int) (hx : x ≤ 9223372036854775807) : Calls Tryd.prog 16 #[.pointer (some ⟨g, 0, none⟩), .int .i64 x] w fun e w' => e = .returned (.tuple #[]) ∧ APost b w col g (d.arm x) w' :=
  (parm_d x h.pd).mono fun e w' ⟨h1, h2⟩ => ⟨h1, h.post h2 ⟨h.good.ok.arm hx, by unfold Dk.arm; split; exact h.good.byt; exact h.good.byt⟩⟩
theorem restTo_byt (ks : List Int) {fs : List Fl} (h : ∀ f ∈ fs, Byt f.f1) : ∀ n, ∀ f ∈ restTo ks fs n, Byt f.f1
  | 0 => h
  | n + 1 => fun f hf => by
    rw [restTo] at hf
    rcases List.mem_or_eq_of_mem_set hf with h1 | rfl
    · exact restTo_byt ks h n f h1
    · have : Byt (fs.getD n z42).f1 := by
        rw [List.getD_eq_getElem?_getD]
        rcases e : fs[n]? with _ | q
        · exact byt_nil
        · exact h q (List.mem_of_getElem? e)
      exact this.take _
theorem restart_a (h : DA b w col g d) (KA : Option Addr) (kc : Nat) (ks : List Int) (hX : XInts w col isP KA ks) (hkl : ks.length ≤ 140737488355328) : Calls Tryd.prog 15 #[.pointer (some ⟨g, 0, none⟩), .slice KA ks.length kc] w fun e w' => e = .returned (.tuple #[]) ∧ APost b w col g (d.rest ks) w' :=
  (prestart_d KA kc ks h.good.ok hX hkl h.pd).mono fun e w' ⟨h1, h2⟩ => ⟨h1, h.post h2 ⟨h.good.ok.rest ks, restTo_byt ks h.good.byt _⟩⟩
end
theorem good_start : (Dk.start []).Good := ⟨ok_start List.Pairwise.nil (by simp) (by simp) (by simp), fun f hf => by cases hf⟩
structure LwS (b : Nat) (W : World) (col : RCol) (g gW : Nat) (d : Dk) (C : Array Value) : Prop where
  da : DA b W col g d
  box : W.heap[gW]? = some (.cells C 32 (0, 0))
  tag : ¬ isP (col gW)
  le : b ≤ gW
def wC (g : Nat) (ox : Option Addr) (sum : Int) (v vr vl vf : Value) : Array Value := #[.pointer (some ⟨g, 0, none⟩), .pointer ox, .int .u32 sum, v, vr, vl, vf, .bool false]
def nilV : Value := .slice none 0 0
def BegPost (w w' : World) (e : Ending) (sum : Int) : Prop := ∃ g gW col', e = .returned (.pointer (some ⟨gW, 0, none⟩)) ∧ Below w.heap.size w w' ∧ LwS w.heap.size w' col' g gW (Dk.start []) (wC g none sum nilV nilV nilV nilV)
theorem newS_nil : newS [] = some [] := rfl
set_option maxRecDepth 100000 in
set_option maxHeartbeats 4000000 in
theorem begin_calls (sum : Int) (w : World) {b0 : Nat} (hV : VP b0 w) (hb0 : b0 ≤ w.heap.size) :
    Calls Tryd.prog 6 #[.int .u32 sum] w fun e w' => BegPost w w' e sum := by
  have HN : Aside0 (Calls Tryd.prog 19 #[.slice none 0 0] w fun e w' => ∃ g col, e = .returned (.tuple #[.pointer (some ⟨g, 0, none⟩), .int .i64 0]) ∧ Below w.heap.size w w' ∧ PD w.heap.size w' col g (Dk.start [])) := ⟨by
    have := pnew none 0 [] w (Kd.C_nil _ _) (Nat.le_refl _) (by simp) (by simp) (by decide)
    rw [newS_nil] at this
    exact this⟩
  have HV := Aside0.mk (hV.mono hb0)
  clear hV hb0
  go_enter Tryd.func6, Tryd.ntmps6
  go_wp2_with (go_at_call 19; refine HN.out.mono ?_; rintro e w1 ⟨g, col, rfl, hb, hp⟩; have HB := Aside0.mk hb; have HP := Aside0.mk (DA.mk hp good_start (HV.out.below hb)); clear hb hp)
  go_ret
  obtain ⟨Wf, hWf⟩ : ∃ Wf, Wf = w1.alloc (.cells (wC g none sum nilV nilV nilV nilV) 32) := ⟨_, rfl⟩
  have h1 : Below w1.heap.size w1 Wf := by rw [hWf]; exact below_alloc (Below.refl _ _) _
  have hc : Ch w.heap.size w1 col Wf (colN col w1.heap.size fun _ => .tm) (fun _ => False) := Ch.of_new h1 HP.out.le _
  refine ⟨g, w1.heap.size, colN col w1.heap.size fun _ => .tm, rfl, ?_, ?_⟩
  · exact HB.out.trans ((below_alloc (Below.refl _ _) _).mono HB.out.size)
  · have := LwS.mk (C := wC g none sum nilV nilV nilV nilV) (gW := w1.heap.size) (HP.out.ch hc (fun _ _ h => h)) (by rw [hWf]; exact blk_new w1 _) (by rw [colN_ge (Nat.le_refl _)]; exact fun h => h) HB.out.size
    rw [hWf] at this
    exact this
theorem reads_nil (w : World) : ReadsInt w .u8 none 0 [] := ⟨rfl, by decide, fun h => by omega⟩
theorem kc_bytes {w : World} {A : Option Addr} : Kd.C (Kd.int .u8) w A ([] : List Int).length [] := ⟨rfl, by decide, fun h => by simp at h⟩
theorem kc_recs {w : World} {A : Option Addr} : Kd.C k37 w A ([] : List S37).length [] := ⟨rfl, by decide, fun h => by simp at h⟩
theorem drawn_trans {w w1 w2 : World} (h : Drawn0 w w1) (e : Drawn0 w1 w2) : Drawn0 w w2 := by
  obtain ⟨⟨n, rfl⟩⟩ := e
  exact h.step n
set_option maxRecDepth 100000 in
set_option maxHeartbeats 4000000 in
theorem may0_calls (A1 A2 : Option Addr) (c1 c2 : Nat) (gW g : Nat) (ox : Option Addr) (sum : Int) (w : World) (hx : w.heap[gW]? = some (.cells (wC g ox sum nilV nilV nilV nilV) 32 (0, 0))) :
    Calls Tryd.prog 20 #[.pointer (some ⟨gW, 0, none⟩), .slice A1 0 c1, .slice A2 0 c2] w fun e w' => e = .returned (.bool true) ∧ Drawn0 w w' := by
  have HX : Aside0 (∀ W, Drawn0 w W → W.cell? ⟨gW, 3, none⟩ = some (.slice none 0 0) ∧ W.cell? ⟨gW, 4, none⟩ = some (.slice none 0 0)) := ⟨fun W h => ⟨(blk_cell (blk_drawn hx h) 3).trans rfl, (blk_cell (blk_drawn hx h) 4).trans rfl⟩⟩
  have HB : Aside0 (∀ W : World, Calls Tryd.prog 18 #[.slice A1 0 c1, .slice none 0 0] W fun e w' => e = .returned (.bool true) ∧ Drawn0 W w') := ⟨fun W => levylaw19_sameBytes.calls A1 c1 [] none 0 [] true W kc_bytes (Nat.zero_le _) kc_bytes (Nat.zero_le _) (same_bytes [])⟩
  have HRc : Aside0 (∀ W : World, Calls Tryd.prog 28 #[.slice A2 0 c2, .slice none 0 0] W fun e w' => e = .returned (.bool true) ∧ Drawn0 W w') := ⟨fun W => levylaw19_sameRecords.calls 1 A2 c2 [] none 0 [] true W kc_recs (Nat.zero_le _) kc_recs (Nat.zero_le _) rfl⟩
  obtain ⟨x3, x4⟩ := HX.out w (Drawn0.refl w)
  clear hx
  go_enter Tryd.func20, Tryd.ntmps20
  go_wp2_with (first
    | (go_at_call 18; refine (HB.out _).mono ?_; rintro e w1 ⟨rfl, hd⟩; have HD := Aside0.mk hd; have y4 := (HX.out w1 hd).2; clear hd)
    | (go_at_call 28; have q_ := HD.out; clear q_; refine (HRc.out _).mono ?_; rintro e w2 ⟨rfl, hd⟩; have HD2 := Aside0.mk (drawn_trans HD.out hd); clear hd))
  go_ret
  exact ⟨rfl, HD2.out⟩
structure LdS (b : Nat) (W : World) (col : RCol) (g gW gx : Nat) (d : Dk) (q : Dr) : Prop where
  dr : DrA b W col g gx d q
  box : ∃ C, W.heap[gW]? = some (.cells C 32 (0, 0)) ∧ C[0]? = some (.pointer (some ⟨g, 0, none⟩)) ∧ C[1]? = some (.pointer (some ⟨gx, 0, none⟩))
  tag : ¬ isP (col gW)
  le : b ≤ gW
section
variable {b g gW gx : Nat} {w w' : World} {col : RCol} {d d' : Dk} {q q' : Dr}
theorem LdS.ne (h : LdS b w col g gW gx d q) : gW ≠ gx := fun e => by
  obtain ⟨C, h1, _⟩ := h.box
  rw [e, h.dr.box] at h1
  injection h1 with h1; injection h1 with _ h3; exact absurd h3 (by decide)
theorem LdS.post (h : LdS b w col g gW gx d q) (p : DrPost b w col g gx d' q' w') : ∃ col', LdS b w' col' g gW gx d' q' ∧ Below b w w' := by
  obtain ⟨col', h1, h2⟩ := p
  obtain ⟨C, c1, c2, c3⟩ := h.box
  exact ⟨col', ⟨h2, ⟨C, (h1.block gW (blk_lt c1) h.tag h.ne).trans c1, c2, c3⟩, by rw [h1.same gW (blk_lt c1)]; exact h.tag, h.le⟩, h1.below⟩
theorem LdS.apost (h : LdS b w col g gW gx d q) (p : APost b w col g d' w') : ∃ col', LdS b w' col' g gW gx d' q ∧ Below b w w' := by
  obtain ⟨col', h1, h2⟩ := p
  obtain ⟨C, c1, c2, c3⟩ := h.box
  exact ⟨col', ⟨h.dr.go h1 h2, ⟨C, h1.blk c1 h.tag, c2, c3⟩, by rw [h1.same gW (blk_lt c1)]; exact h.tag, h.le⟩, h1.below⟩
theorem LdS.below (h : LdS b w col g gW gx d q) (hb : Below w.heap.size w w') : LdS b w' col g gW gx d q := by
  obtain ⟨C, c1, c2, c3⟩ := h.box
  exact ⟨h.dr.below hb, ⟨C, (hb.block gW (blk_lt c1)).trans c1, c2, c3⟩, h.tag, h.le⟩
theorem LdS.cells (h : LdS b w col g gW gx d q) : w.cell? ⟨gW, 0, none⟩ = some (.pointer (some ⟨g, 0, none⟩)) ∧ w.cell? ⟨gW, 1, none⟩ = some (.pointer (some ⟨gx, 0, none⟩)) := by
  obtain ⟨C, c1, c2, c3⟩ := h.box
  exact ⟨(blk_cell c1 0).trans c2, (blk_cell c1 1).trans c3⟩
theorem LdS.mk' {C : Array Value} (hd : DA b w col g d) (hx : w.heap[gx]? = some (.cells (drC g q) 62 (0, 0))) (ht : ¬ isP (col gx)) (hxl : b ≤ gx) (hW : w.heap[gW]? = some (.cells C 32 (0, 0))) (c0 : C[0]? = some (.pointer (some ⟨g, 0, none⟩))) (c1 : C[1]? = some (.pointer (some ⟨gx, 0, none⟩))) (htW : ¬ isP (col gW)) (hle : b ≤ gW) : LdS b w col g gW gx d q :=
  ⟨⟨hd, hx, ht, hxl⟩, ⟨C, hW, c0, c1⟩, htW, hle⟩
theorem LdS.put (h : LdS b w col g gW gx d q) (i : Nat) (u : Value) (h2 : 2 ≤ i) : LdS b (w.setCell ⟨gW, i, none⟩ u) col g gW gx d q := by
  obtain ⟨C, c1, c2, c3⟩ := h.box
  refine ⟨⟨h.dr.da.put h.tag h.le u, (Below.heap_setCell w ⟨gW, i, none⟩ u gx h.ne.symm).trans h.dr.box, h.dr.tag, h.dr.le⟩, ⟨C.setIfInBounds i u, blk_set c1 i u, ?_, ?_⟩, h.tag, h.le⟩
  · rw [Array.getElem?_setIfInBounds, if_neg (by omega)]; exact c2
  · rw [Array.getElem?_setIfInBounds, if_neg (by omega)]; exact c3
end
theorem box_567 {w : World} {g gW : Nat} {ox : Option Addr} {sI : Int} {v : Value} (h : w.heap[gW]? = some (.cells (wC g ox sI v nilV nilV nilV) 32 (0, 0))) :
    (((w.setCell ⟨gW, 5, none⟩ (.slice none 0 0)).setCell ⟨gW, 6, none⟩ (.slice none 0 0)).setCell ⟨gW, 7, none⟩ (.bool false)).heap[gW]? = some (.cells (wC g ox sI v nilV nilV nilV) 32 (0, 0)) := by
  have q := blk_set (blk_set (blk_set h 5 (.slice none 0 0)) 6 (.slice none 0 0)) 7 (.bool false)
  have e : (((wC g ox sI v nilV nilV nilV).setIfInBounds 5 (.slice none 0 0)).setIfInBounds 6 (.slice none 0 0)).setIfInBounds 7 (.bool false) = wC g ox sI v nilV nilV nilV := by simp [wC, nilV]
  rwa [e] at q
set_option maxRecDepth 100000 in
set_option maxHeartbeats 8000000 in
theorem open0_box {b g gW : Nat} {w : World} {col : RCol} {d : Dk} (sum : Nat) (hs : sum < 4294967296) (h : LwS b w col g gW d (wC g none (sum : Nat) nilV nilV nilV nilV)) (he : (d.opn sum).err = 0) (hsm : (d.opn sum).summary = []) (hrc : (d.opn sum).recs = []) :
    Calls Tryd.prog 7 #[.pointer (some ⟨gW, 0, none⟩)] w fun e w' => e = .returned (.bool true) ∧ ∃ gx col', Below b w w' ∧ LdS b w' col' g gW gx (d.opn sum).disk ⟨sum, (d.opn sum).gen, 0, false⟩ ∧ ∃ v3, w'.heap[gW]? = some (.cells (wC g (some ⟨gx, 0, none⟩) (sum : Nat) v3 nilV nilV nilV) 32 (0, 0)) := by
  obtain ⟨R, hR⟩ : ∃ R, R = d.opn sum := ⟨_, rfl⟩
  obtain ⟨sI, hsI⟩ : ∃ sI : Int, sI = (sum : Nat) := ⟨_, rfl⟩
  rw [← hR] at he hsm hrc ⊢
  rw [← hsI] at h
  have HOp : Aside0 (∀ W, Below w.heap.size w W → Calls Tryd.prog 17 #[.pointer (some ⟨g, 0, none⟩), .int .u32 sI] W fun e w' => ∃ gx A1 c1 A2 c2 col', e = .returned (.tuple #[.pointer (some ⟨gx, 0, none⟩), .slice A1 0 c1, .slice A2 0 c2, .int .i64 0]) ∧ DA b w' col' g R.disk ∧ w'.heap[gx]? = some (.cells (drC g ⟨sum, R.gen, 0, false⟩) 62 (0, 0)) ∧ ¬ isP (col' gx) ∧ b ≤ gx ∧ w'.heap[gW]? = some (.cells (wC g none sI nilV nilV nilV nilV) 32 (0, 0)) ∧ ¬ isP (col' gW) ∧ Below b w w') := ⟨fun W hW => by
    rw [hsI]
    refine (open_calls (h.da.below hW) sum hs).mono ?_
    rintro e w' ⟨col', hc, hd, _, h2⟩
    rw [← hR] at hd h2
    obtain ⟨gx, v, vr, L, rfl, hx, htx, hgx, hob, hL⟩ := h2 he
    have hgW := (hW.block gW (blk_lt h.box)).trans h.box
    have hrow := hob.row
    rw [hsm] at hrow
    obtain ⟨A1, c1, rfl, _⟩ := own_form hrow
    have hL0 : L = [] := by rw [hrc] at hL; exact List.map_eq_nil_iff.1 hL
    have hown := hob.rcl.own
    rw [hL0] at hown
    obtain ⟨A2, c2, rfl, _⟩ := own_form hown
    rw [hrc] at hx
    refine ⟨gx, A1, c1, A2, c2, col', rfl, hd, hx, htx, Nat.le_trans (Nat.le_trans h.da.le hW.size) hgx, ?_, ?_, (hW.mono h.da.le).trans hc.below⟩
    · rw [← hsI]; exact hc.blk hgW h.tag
    · rw [hc.same gW (blk_lt hgW)]; exact h.tag⟩
  have hfa : ∀ W, Below w.heap.size w W → W.cell? ⟨gW, 0, none⟩ = some (.pointer (some ⟨g, 0, none⟩)) ∧ W.cell? ⟨gW, 2, none⟩ = some (.int .u32 sI) := fun W hW => by
    have hgW := (hW.block gW (blk_lt h.box)).trans h.box
    exact ⟨(blk_cell hgW 0).trans rfl, (blk_cell hgW 2).trans rfl⟩
  have HFa := Aside0.mk hfa
  have HLe := Aside0.mk h.le
  have HSI := Aside0.mk hsI
  clear h he hsm hrc hR hs hfa hsI
  go_enter Tryd.func7, Tryd.ntmps7
  go_upto_region 1 with fail
  refine start_ (n := 18) (S := fun w' => w'.cell? ⟨gW, 0, none⟩ = some (.pointer (some ⟨g, 0, none⟩)) ∧ w'.cell? ⟨gW, 2, none⟩ = some (.int .u32 sI) ∧ Below w.heap.size w w') (ds := [8]) #[false, false, false, false, false, false, false, false, false, false, false, false, false, false, false, false, false, false] (by kernel_rfl) rfl rfl ⟨(HFa.out _ (below_drew (Below.refl _ _))).1, (HFa.out _ (below_drew (Below.refl _ _))).2, (below_drew (Below.refl _ _))⟩ (fun hHeld => ?_)
  refine pure_ (i := 0) (N := some 9) (v := ?_) (a' := ?_) #[true, false, false, false, false, false, false, false, false, false, false, false, false, false, false, false, false, false] rfl rfl (by kernel_rfl) (fun _ _ _ h => h) (Or.inl ⟨by rfl, ?_⟩) ?_ ?_
  rotate_left
  · intro w'
    go_simp
    with_reducible rfl
  rotate_left
  · simp only [Act.put, List.setIfInBounds_toArray, List.set_cons_zero, List.set_cons_succ, i64_w, i32_w]
    rfl
  refine pure_ (i := 1) (N := some 10) (v := ?_) (a' := ?_) #[true, true, false, false, false, false, false, false, false, false, false, false, false, false, false, false, false, false] rfl rfl (by kernel_rfl) (fun _ _ _ h => h) (Or.inl ⟨by rfl, ?_⟩) ?_ ?_
  rotate_left
  · intro w'
    go_simp
    with_reducible rfl
  rotate_left
  · simp only [Act.put, List.setIfInBounds_toArray, List.set_cons_zero, List.set_cons_succ, i64_w, i32_w]
    rfl
  refine pure_ (i := 2) (N := some 11) (v := ?_) (a' := ?_) #[true, true, true, false, false, false, false, false, false, false, false, false, false, false, false, false, false, false] rfl rfl (by kernel_rfl) (fun _ _ _ h => h) (Or.inl ⟨by rfl, ?_⟩) ?_ ?_
  rotate_left
  · intro w'
    go_simp
    with_reducible rfl
  rotate_left
  · simp only [Act.put, List.setIfInBounds_toArray, List.set_cons_zero, List.set_cons_succ, i64_w, i32_w]
    rfl
  refine pure_ (i := 4) (N := some 13) (v := ?_) (a' := ?_) #[true, true, true, false, true, false, false, false, false, false, false, false, false, false, false, false, false, false] rfl rfl (by kernel_rfl) (fun _ _ _ h => h) (Or.inl ⟨by rfl, ?_⟩) ?_ ?_
  rotate_left
  · intro w'
    go_simp
    with_reducible rfl
  rotate_left
  · simp only [Act.put, List.setIfInBounds_toArray, List.set_cons_zero, List.set_cons_succ, i64_w, i32_w]
    rfl
  refine pure_ (i := 5) (N := some 14) (v := ?_) (a' := ?_) #[true, true, true, false, true, true, false, false, false, false, false, false, false, false, false, false, false, false] rfl rfl (by kernel_rfl) (fun _ _ _ h => h) (Or.inl ⟨by rfl, ?_⟩) ?_ ?_
  rotate_left
  · intro w'
    go_simp
    with_reducible rfl
  rotate_left
  · simp only [Act.put, List.setIfInBounds_toArray, List.set_cons_zero, List.set_cons_succ, i64_w, i32_w]
    rfl
  refine pure_ (i := 6) (N := some 15) (v := ?_) (a' := ?_) #[true, true, true, false, true, true, true, false, false, false, false, false, false, false, false, false, false, false] rfl rfl (by kernel_rfl) (fun _ _ _ h => h) (Or.inl ⟨by rfl, ?_⟩) ?_ ?_
  rotate_left
  · intro w'
    go_simp
    with_reducible rfl
  rotate_left
  · simp only [Act.put, List.setIfInBounds_toArray, List.set_cons_zero, List.set_cons_succ, i64_w, i32_w]
    rfl
  refine take_ (i := 3) (N := some 12) (v := ?_) (a' := ?_) #[true, true, true, true, true, true, true, false, false, false, false, false, false, false, false, false, false, false] rfl rfl (by kernel_rfl) (fun _ _ _ h => h) (Or.inl ⟨by rfl, ?_⟩) hHeld ?_ ?_
  rotate_left
  · rintro w' ⟨s0, s1, s2⟩
    go_simp
    with_reducible rfl
  rotate_left
  · simp only [Act.put, List.setIfInBounds_toArray, List.set_cons_zero, List.set_cons_succ, i64_w, i32_w]
    rfl
  refine take_ (i := 7) (N := some 16) (v := ?_) (a' := ?_) #[true, true, true, true, true, true, true, true, false, false, false, false, false, false, false, false, false, false] rfl rfl (by kernel_rfl) (fun _ _ _ h => h) (Or.inl ⟨by rfl, ?_⟩) hHeld ?_ ?_
  rotate_left
  · rintro w' ⟨s0, s1, s2⟩
    go_simp
    with_reducible rfl
  rotate_left
  · simp only [Act.put, List.setIfInBounds_toArray, List.set_cons_zero, List.set_cons_succ, i64_w, i32_w]
    rfl
  refine last_ (i := 8) (N := some 17) #[true, true, true, true, true, true, true, true, true, false, false, false, false, false, false, false, false, false] rfl rfl (by kernel_rfl) (by decide) (fun K hK => ?_)
  refine goes_ Tryd.func17 (by kernel_rfl) rfl #[.pointer (some ⟨g, 0, none⟩), .int .u32 sI] (by rfl) rfl rfl (by simp only [List.map_toArray, List.map_cons, List.map_nil]; rfl) ?_
  with_reducible refine ((HOp.out _ hHeld.2.2)).mono ?_
  rintro e w1 ⟨gx, A1, c1, A2, c2, col1, rfl, hd1, hx1, ht1, hl1, hW1, htW1, hb1⟩
  refine ⟨_, rfl, ?_⟩
  have HD1 := Aside0.mk hd1
  have HX1 := Aside0.mk hx1
  have HT1 := Aside0.mk ht1
  have HL1 := Aside0.mk hl1
  have HW1 := Aside0.mk hW1
  have HTW1 := Aside0.mk htW1
  have HB1 := Aside0.mk hb1
  clear hd1 hx1 ht1 hl1 hW1 htW1 hb1
  refine hK.out _ _ ?_
  clear hK K
  refine norm_ (a' := ?_) ?_ ?_
  rotate_left
  · show Act.put _ (some 17) _ = _
    simp only [Act.put, List.setIfInBounds_toArray, List.set_cons_zero, List.set_cons_succ, i64_w, i32_w]
    rfl
  refine pure_ (i := 9) (N := some 8) (v := ?_) (a' := ?_) #[true, true, true, true, true, true, true, true, true, true, false, false, false, false, false, false, false, false] rfl rfl (by kernel_rfl) (fun _ _ _ h => h) (Or.inl ⟨by rfl, ?_⟩) ?_ ?_
  rotate_left
  · intro w'
    go_simp
    with_reducible rfl
  rotate_left
  · simp only [Act.put, List.setIfInBounds_toArray, List.set_cons_zero, List.set_cons_succ, i64_w, i32_w]
    rfl
  refine pure_ (i := 10) (N := some 18) (v := ?_) (a' := ?_) #[true, true, true, true, true, true, true, true, true, true, true, false, false, false, false, false, false, false] rfl rfl (by kernel_rfl) (fun _ _ _ h => h) (Or.inl ⟨by rfl, ?_⟩) ?_ ?_
  rotate_left
  · intro w'
    go_simp
    with_reducible rfl
  rotate_left
  · simp only [Act.put, List.setIfInBounds_toArray, List.set_cons_zero, List.set_cons_succ, i64_w, i32_w]
    rfl
  refine pure_ (i := 11) (N := some 19) (v := ?_) (a' := ?_) #[true, true, true, true, true, true, true, true, true, true, true, true, false, false, false, false, false, false] rfl rfl (by kernel_rfl) (fun _ _ _ h => h) (Or.inl ⟨by rfl, ?_⟩) ?_ ?_
  rotate_left
  · intro w'
    go_simp
    with_reducible rfl
  rotate_left
  · simp only [Act.put, List.setIfInBounds_toArray, List.set_cons_zero, List.set_cons_succ, i64_w, i32_w]
    rfl
  refine pure_ (i := 12) (N := some 20) (v := ?_) (a' := ?_) #[true, true, true, true, true, true, true, true, true, true, true, true, true, false, false, false, false, false] rfl rfl (by kernel_rfl) (fun _ _ _ h => h) (Or.inl ⟨by rfl, ?_⟩) ?_ ?_
  rotate_left
  · intro w'
    go_simp
    with_reducible rfl
  rotate_left
  · simp only [Act.put, List.setIfInBounds_toArray, List.set_cons_zero, List.set_cons_succ, i64_w, i32_w]
    rfl
  refine pure_ (i := 13) (N := some 21) (v := ?_) (a' := ?_) #[true, true, true, true, true, true, true, true, true, true, true, true, true, true, false, false, false, false] rfl rfl (by kernel_rfl) (fun _ _ _ h => h) (Or.inl ⟨by rfl, ?_⟩) ?_ ?_
  rotate_left
  · intro w'
    go_simp
    with_reducible rfl
  rotate_left
  · simp only [Act.put, List.setIfInBounds_toArray, List.set_cons_zero, List.set_cons_succ, i64_w, i32_w]
    rfl
  refine pure_ (i := 14) (N := some 3) (v := ?_) (a' := ?_) #[true, true, true, true, true, true, true, true, true, true, true, true, true, true, true, false, false, false] rfl rfl (by kernel_rfl) (fun _ _ _ h => h) (Or.inl ⟨by rfl, ?_⟩) ?_ ?_
  rotate_left
  · intro w'
    go_simp
    with_reducible rfl
  rotate_left
  · simp only [Act.put, List.setIfInBounds_toArray, List.set_cons_zero, List.set_cons_succ, i64_w, i32_w]
    rfl
  refine pure_ (i := 15) (N := some 4) (v := ?_) (a' := ?_) #[true, true, true, true, true, true, true, true, true, true, true, true, true, true, true, true, false, false] rfl rfl (by kernel_rfl) (fun _ _ _ h => h) (Or.inl ⟨by rfl, ?_⟩) ?_ ?_
  rotate_left
  · intro w'
    go_simp
    with_reducible rfl
  rotate_left
  · simp only [Act.put, List.setIfInBounds_toArray, List.set_cons_zero, List.set_cons_succ, i64_w, i32_w]
    rfl
  refine pure_ (i := 16) (N := some 5) (v := ?_) (a' := ?_) #[true, true, true, true, true, true, true, true, true, true, true, true, true, true, true, true, true, false] rfl rfl (by kernel_rfl) (fun _ _ _ h => h) (Or.inl ⟨by rfl, ?_⟩) ?_ ?_
  rotate_left
  · intro w'
    go_simp
    with_reducible rfl
  rotate_left
  · simp only [Act.put, List.setIfInBounds_toArray, List.set_cons_zero, List.set_cons_succ, i64_w, i32_w]
    rfl
  refine pure_ (i := 17) (N := some 6) (v := ?_) (a' := ?_) #[true, true, true, true, true, true, true, true, true, true, true, true, true, true, true, true, true, true] rfl rfl (by kernel_rfl) (fun _ _ _ h => h) (Or.inl ⟨by rfl, ?_⟩) ?_ ?_
  rotate_left
  · intro w'
    go_simp
    with_reducible rfl
  rotate_left
  · simp only [Act.put, List.setIfInBounds_toArray, List.set_cons_zero, List.set_cons_succ, i64_w, i32_w]
    rfl
  refine done_ (by kernel_rfl) ?_
  have f1 : w1.cell? ⟨gW, 1, none⟩ = some (.pointer none) := (blk_cell HW1.out 1).trans rfl
  have y1 := blk_frozen HW1.out 1
  clear hHeld
  go_upto_region 5 with fail
  obtain ⟨W2, hW2⟩ : ∃ W2, W2 = w1.setCell ⟨gW, 1, none⟩ (.pointer (some ⟨gx, 0, none⟩)) := ⟨_, rfl⟩
  rw [← hW2]
  have hne : gW ≠ gx := fun e => by
    have h1 := HX1.out
    rw [← e, HW1.out] at h1
    injection h1 with h1; injection h1 with _ h3; exact absurd h3 (by decide)
  have hbx2 : W2.heap[gW]? = some (.cells (wC g (some ⟨gx, 0, none⟩) sI nilV nilV nilV nilV) 32 (0, 0)) := by rw [hW2]; exact blk_to HW1.out (by simp [wC])
  have hgx2 : W2.heap[gx]? = some (.cells (drC g ⟨sum, R.gen, 0, false⟩) 62 (0, 0)) := by rw [hW2]; exact (Below.heap_setCell w1 ⟨gW, 1, none⟩ _ gx hne.symm).trans HX1.out
  have hld2 : LdS b W2 col1 g gW gx R.disk ⟨sum, R.gen, 0, false⟩ := LdS.mk' (by rw [hW2]; exact HD1.out.put HTW1.out HLe.out _) hgx2 HT1.out HL1.out hbx2 rfl rfl HTW1.out HLe.out
  have hb2 : Below b w W2 := by rw [hW2]; exact HB1.out.setCell (p := ⟨gW, 1, none⟩) HLe.out _
  have HX2 := Aside0.mk hbx2
  have HGx2 := Aside0.mk hgx2
  have HLd2 := Aside0.mk hld2
  have HB2 := Aside0.mk hb2
  clear f1 y1 hW2 hne hbx2 hgx2 hld2 hb2
  go_upto_region 7 with (first
    | (go_at_call 20; refine (may0_calls A1 A2 c1 c2 gW g (some ⟨gx, 0, none⟩) sI W2 HX2.out).mono ?_; rintro e w3 ⟨rfl, hd⟩; have HD3 := Aside0.mk hd; clear hd)
    | (go_at_call 21; have q_ := HD3.out; clear q_; refine (len_calls gx g ⟨sum, R.gen, 0, false⟩ w3 (blk_drawn HGx2.out HD3.out)).mono ?_; rintro e w4 ⟨rfl, rfl⟩))
  have hX3 := blk_drawn HX2.out HD3.out
  have hL3 := HLd2.out.below HD3.out.below
  have HX3 := Aside0.mk hX3
  have HL3 := Aside0.mk hL3
  clear hX3 hL3
  go_upto_region 8 with ((with_reducible refine gate_builtin (b := .append) (xs := #[.const (.slice none 0 0), .tmp 69]) rfl ?_); at_builtin; refine print_append_row (w0 := w4) w4.heap.size rfl (.const (.slice none 0 0)) (.tmp 69) 29 5 .u8 1 rfl Tryd.underlying29 infoB (by decide) (.slice none 0 0) [] [] A1 0 c1 rfl rfl (own_nil _ _ _ _) ⟨rfl, by decide, fun h => by omega⟩ (Below.refl _ _) (Nat.le_refl _) (by decide) ?_; intro v5 w5 ho5 hb5 _ _; obtain ⟨A5, c5, rfl, _⟩ := own_form ho5; have hX5 := (hb5.block gW (blk_lt HX3.out)).trans HX3.out; have f3 : w5.cell? ⟨gW, 3, none⟩ = some (.slice none 0 0) := (blk_cell hX5 3).trans rfl; have y3 := blk_frozen hX5 3; have HX5 := Aside0.mk hX5; have HB5 := Aside0.mk hb5; have HL5 := Aside0.mk (HL3.out.below hb5); clear ho5 hb5 hX5)
  obtain ⟨W6, hW6⟩ : ∃ W6, W6 = w5.setCell ⟨gW, 3, none⟩ (.slice A5 ([] ++ [] : List Int).length c5) := ⟨_, rfl⟩
  have hW6' : W6 = w5.setCell ⟨gW, 3, none⟩ (.slice A5 0 c5) := hW6
  rw [← hW6']
  have hX6 : W6.heap[gW]? = some (.cells (wC g (some ⟨gx, 0, none⟩) sI (.slice A5 0 c5) nilV nilV nilV) 32 (0, 0)) := by rw [hW6']; exact blk_to HX5.out (by simp [wC])
  have hL6 : LdS b W6 col1 g gW gx R.disk ⟨sum, R.gen, 0, false⟩ := by rw [hW6']; exact HL5.out.put 3 _ (by omega)
  have hb6 : Below b w W6 := by
    rw [hW6']
    exact ((HB2.out.trans (HD3.out.below.mono HLd2.out.dr.da.le)).trans (HB5.out.mono HL3.out.dr.da.le)).setCell (p := ⟨gW, 3, none⟩) HLe.out _
  have f4 : W6.cell? ⟨gW, 4, none⟩ = some (.slice none 0 0) := (blk_cell hX6 4).trans rfl
  have y4 := blk_frozen hX6 4
  have HX6 := Aside0.mk hX6
  have HL6 := Aside0.mk hL6
  have HB6 := Aside0.mk hb6
  clear hW6 hW6' hX6 hL6 hb6 f3 y3
  go_wp2
  obtain ⟨W7, hW7⟩ : ∃ W7, W7 = W6.setCell ⟨gW, 4, none⟩ (.slice none 0 0) := ⟨_, rfl⟩
  rw [← hW7]
  have hX7 : W7.heap[gW]? = some (.cells (wC g (some ⟨gx, 0, none⟩) sI (.slice A5 0 c5) nilV nilV nilV) 32 (0, 0)) := by rw [hW7]; exact blk_to HX6.out (by simp [wC, nilV])
  have HL7 : Aside0 (LdS b W7 col1 g gW gx R.disk ⟨sum, R.gen, 0, false⟩) := ⟨by rw [hW7]; exact HL6.out.put 4 _ (by omega)⟩
  have HB7 : Aside0 (Below b w W7) := ⟨by rw [hW7]; exact HB6.out.setCell (p := ⟨gW, 4, none⟩) HLe.out _⟩
  have HX7 := Aside0.mk hX7
  clear f4 y4 hW7 hX7
  go_loopw [7] (fun v7 wq => v7 = .int .i64 0 ∧ wq = W7) (fun _ _ => 0)
  case atStart => exact ⟨rfl, rfl⟩
  case round =>
    obtain ⟨rfl, rfl⟩ := hrel
    have f5 : World.cell? wr ⟨gW, 5, none⟩ = some (.slice none 0 0) := (blk_cell HX7.out 5).trans rfl
    have f6 : World.cell? wr ⟨gW, 6, none⟩ = some (.slice none 0 0) := (blk_cell HX7.out 6).trans rfl
    have f7 : World.cell? wr ⟨gW, 7, none⟩ = some (.bool false) := (blk_cell HX7.out 7).trans rfl
    have y5 := blk_frozen HX7.out 5
    have y6 := blk_frozen HX7.out 6
    have y7 := blk_frozen HX7.out 7
    go_wp2
    go_ret
    exact ⟨rfl, gx, col1, ((HB7.out.setCell (p := ⟨gW, 5, none⟩) HLe.out _).setCell (p := ⟨gW, 6, none⟩) HLe.out _).setCell (p := ⟨gW, 7, none⟩) HLe.out _, ((HL7.out.put 5 _ (by omega)).put 6 _ (by omega)).put 7 _ (by omega), .slice A5 0 c5, by rw [← HSI.out]; exact box_567 HX7.out⟩
theorem open0_calls {b g gW : Nat} {w : World} {col : RCol} {d : Dk} (sum : Nat) (hs : sum < 4294967296) (h : LwS b w col g gW d (wC g none (sum : Nat) nilV nilV nilV nilV)) (he : (d.opn sum).err = 0) (hsm : (d.opn sum).summary = []) (hrc : (d.opn sum).recs = []) :
    Calls Tryd.prog 7 #[.pointer (some ⟨gW, 0, none⟩)] w fun e w' => e = .returned (.bool true) ∧ ∃ gx col', Below b w w' ∧ LdS b w' col' g gW gx (d.opn sum).disk ⟨sum, (d.opn sum).gen, 0, false⟩ :=
  (open0_box sum hs h he hsm hrc).mono fun e w' ⟨h1, gx, col2, h2, h3, _⟩ => ⟨h1, gx, col2, h2, h3⟩
end Go.Proofs.YthneomomhoilkaaDoor.PA
end
section
namespace Go.Proofs.YthneomomhoilkaaDoor.PA
open Go.RowKit Go.Maps Go.Proofs.YthneomomhoilkaaDoorW.PrintWords Go.Proofs.YthneomomhoilkaaDoorW.PrintLast Go.Proofs.YthneomomhoilkaaDoorW.PrintMore Go.Proofs.YthneomomhoilkaaDoor.Dw
theorem name1 : nameS 1 = ⟨#[108, 111, 103, 45, 48, 48, 48, 48, 48, 48, 48, 49]⟩ := by
  unfold nameS nameL padL
  rw [Lib.decDigits_one (by decide)]
  rfl
theorem nm1_ok : Nm (nameS 1) = true := by rw [name1]; decide +kernel
def f1F (B : List Int) (s : Int) : Fl := { f0 := nameS 1, f1 := B, f2 := s }
def One (B : List Int) (s u a c : Int) (dn : Bool) : Dk := { fs := [f1F B s], down := dn, units := u, after := a, calls := c }
theorem place_one (B : List Int) (s : Int) : place [f1F B s] (nameS 1) = 0 := by
  unfold place
  exact if_neg (List.lt_irrefl _)
theorem there_one (B : List Int) (s : Int) : there [f1F B s] (nameS 1) = true := by
  unfold there
  rw [place_one]
  simp [f1F]
theorem get_one (B : List Int) (s : Int) : getF [f1F B s] (nameS 1) = f1F B s := by
  unfold getF
  rw [place_one]
  rfl
theorem set_one (B : List Int) (s : Int) (f : Fl) : setF [f1F B s] (nameS 1) f = [f] := by
  unfold setF
  rw [place_one]
  rfl
theorem one_fst (B : List Int) (s u a c : Int) (dn : Bool) : (One B s u a c dn).fst (nameS 1) = ((firstS true dn a c).1, One B s u (firstS true dn a c).2.1 (firstS true dn a c).2.2 dn) := by
  unfold Dk.fst
  rw [nm1_ok]
  rfl
theorem first_free {a c : Int} (h : c ≤ 0) : firstS true false a c = (0, a, c) := by
  unfold firstS
  rw [if_neg (by decide), if_neg (by decide), if_pos h]
theorem one_full {B : List Int} {s u a c : Int} {dn : Bool} {n : Nat} (h : B.length + n ≤ 2097152) : ¬ (One B s u a c dn).full (nameS 1) n := by
  have h1 : (One B s u a c dn).sz (nameS 1) = B.length := by
    show (if there [f1F B s] (nameS 1) = true then (getF [f1F B s] (nameS 1)).f1.length else 0) = _
    rw [there_one, if_pos rfl, get_one]; rfl
  rintro (h2 | ⟨h2, _⟩)
  · rw [h1] at h2; omega
  · have : there [f1F B s] (nameS 1) = false := h2
    rw [there_one] at this; cases this
theorem one_have (B : List Int) (s u a c : Int) (dn : Bool) : (One B s u a c dn).have (nameS 1) = [f1F B s] := by
  show (if there [f1F B s] (nameS 1) = true then [f1F B s] else _) = _
  rw [there_one, if_pos rfl]
theorem one_app {B xs : List Int} {s u a c a' c' : Int} (hf : firstS true false a c = (0, a', c')) (hl : B.length + xs.length ≤ 2097152) :
    (One B s u a c false).app (nameS 1) xs = if u < 0 then (0, One (B ++ xs) s u a' c' false) else if (xs.length + 1 : Int) ≤ u then (0, One (B ++ xs) s (u - (xs.length + 1)) a' c' false) else (190, One (B ++ xs.take u.toNat) s (-1) 0 0 true) := by
  unfold Dk.app
  rw [one_fst, hf]
  dsimp only
  rw [if_neg (by decide), if_neg (one_full hl), one_have, get_one, set_one]
  show (if ((One B s u a' c' false).pay (xs.length + 1)).1 = true then _ else _) = _
  unfold Dk.pay
  by_cases h1 : u < 0
  · rw [if_pos (show (One B s u a' c' false).units < 0 from h1), if_pos h1]
    rfl
  · rw [if_neg (show ¬ (One B s u a' c' false).units < 0 from h1), if_neg h1]
    by_cases h2 : (xs.length + 1 : Int) ≤ u
    · rw [if_pos (show (xs.length + 1 : Int) ≤ (One B s u a' c' false).units from h2), if_pos h2]
      rfl
    · rw [if_neg (show ¬ (xs.length + 1 : Int) ≤ (One B s u a' c' false).units from h2), if_neg h2, set_one]
      rfl
theorem one_chg {B : List Int} {s u a c a' c' : Int} (hf : firstS true false a c = (0, a', c')) :
    (One B s u a c false).chg (nameS 1) = if u < 0 then (0, One B s u a' c' false) else if 1 ≤ u then (0, One B s (u - 1) a' c' false) else (190, One B s (-1) 0 0 true) := by
  unfold Dk.chg
  rw [one_fst, hf]
  dsimp only
  rw [if_neg (by decide), if_neg (by show ¬ there [f1F B s] (nameS 1) = false; rw [there_one]; decide)]
  unfold Dk.pay
  by_cases h1 : u < 0
  · rw [if_pos (show (One B s u a' c' false).units < 0 from h1), if_pos h1]
    rfl
  · rw [if_neg (show ¬ (One B s u a' c' false).units < 0 from h1), if_neg h1]
    by_cases h2 : (1 : Int) ≤ u
    · rw [if_pos (show (1 : Int) ≤ (One B s u a' c' false).units from h2), if_pos h2]
      rfl
    · rw [if_neg (show ¬ (1 : Int) ≤ (One B s u a' c' false).units from h2), if_neg h2]
      rfl
theorem one_doF {B : List Int} {s u a c u' a' c' : Int} {k : Fl → Fl} (h : (One B s u a c false).chg (nameS 1) = (0, One B s u' a' c' false)) : (One B s u a c false).doF (nameS 1) k = { One B s u' a' c' false with fs := [k (f1F B s)] } := by
  unfold Dk.doF
  rw [h]
  dsimp only
  rw [if_pos rfl]
  show ({ One B s u' a' c' false with fs := setF [f1F B s] (nameS 1) (k (getF [f1F B s] (nameS 1))) } : Dk) = _
  rw [get_one, set_one]
theorem lay_free {B xs : List Int} {s a c : Int} (hc : c ≤ 0) (hl : B.length + xs.length ≤ 2097152) : (One B s (-1) a c false).lay (nameS 1) xs = (0, One (B ++ xs) (B ++ xs).length (-1) a c false) := by
  have h1 := one_app (s := s) (u := -1) (first_free (a := a) hc) hl
  rw [if_pos (by decide)] at h1
  have h2 := one_chg (B := B ++ xs) (s := s) (u := -1) (first_free (a := a) hc)
  rw [if_pos (by decide)] at h2
  unfold Dk.lay
  rw [h1]
  dsimp only
  rw [if_neg (by decide), h2, one_doF h2]
  rfl
theorem lay_few {B xs : List Int} {s u a c : Int} (hc : c ≤ 0) (hl : B.length + xs.length ≤ 2097152) (hu0 : 0 ≤ u) (hu : u < xs.length + 1) : (One B s u a c false).lay (nameS 1) xs = (190, One (B ++ xs.take u.toNat) s (-1) 0 0 true) := by
  have h1 := one_app (s := s) (u := u) (first_free (a := a) hc) hl
  rw [if_neg (by omega), if_neg (by omega)] at h1
  unfold Dk.lay
  rw [h1]
  dsimp only
  rw [if_pos (by decide)]
theorem lay_first (P : List Int) (hP : P.length ≤ 2097152) : (Dk.start []).lay (nameS 1) P = (0, One P P.length (-1) 0 0 false) := by
  have h0 : (Dk.start []).fst (nameS 1) = (0, Dk.start []) := by
    unfold Dk.fst
    show ((firstS (Nm (nameS 1)) false 0 0).1, _) = _
    rw [nm1_ok]
    rfl
  have hfull : ¬ (Dk.start []).full (nameS 1) P.length := by
    rintro (h | ⟨_, h⟩)
    · have : (Dk.start []).sz (nameS 1) = 0 := rfl
      rw [this] at h; omega
    · exact absurd h (by decide)
  have hhave : (Dk.start []).have (nameS 1) = [f1F [] 0] := rfl
  have h1 : (Dk.start []).app (nameS 1) P = (0, One P 0 (-1) 0 0 false) := by
    unfold Dk.app
    rw [h0]
    dsimp only
    rw [if_neg (by decide), if_neg hfull, hhave, get_one, set_one]
    rfl
  have h2 := one_chg (B := P) (s := 0) (u := -1) (first_free (a := 0) (c := 0) (by decide))
  rw [if_pos (by decide)] at h2
  unfold Dk.lay
  rw [h1]
  dsimp only
  rw [if_neg (by decide), h2, one_doF h2]
  rfl
def pc0 (sum : Nat) : List Int := pieceS 0 sum 0 []
theorem pc0_len (sum : Nat) : (pc0 sum).length = 18 := pieceS_len _ _ _ _
theorem opn_start (sum : Nat) : (Dk.start []).opn sum = ⟨0, 1, [], [], One (pc0 sum) 18 (-1) 0 0 false⟩ := by
  have hj : seekS (Dk.start []).fs = Fnd.zero := rfl
  have hm : (Dk.start []).mend Fnd.zero = (0, Dk.start []) := rfl
  have hl := lay_first (pc0 sum) (by rw [pc0_len]; decide)
  rw [pc0_len] at hl
  unfold Dk.opn
  rw [if_neg (by decide)]
  dsimp only
  rw [hj, if_neg (by rintro ⟨h, _⟩; exact absurd h (by decide)), hm]
  dsimp only
  rw [if_neg (by decide), if_pos (show Fnd.zero.gen = 0 from rfl)]
  rw [show pieceS 0 sum 0 [] = pc0 sum from rfl, hl]
  rfl
theorem put_ok {q : Dr} {d d1 : Dk} {kind : Int} {body : List Int} (h : q.stuck = false) (hl : body.length ≤ 1048576) (h2 : d.lay (nameS q.gen) (pieceS (q.len + 1) q.sum kind body) = (0, d1)) : q.put d kind body = (0, { q with len := q.len + 1, stuck := false }, d1) := by
  unfold Dr.put
  rw [if_neg (by simp [h]), if_neg (by omega), h2]
  dsimp only
  rw [if_neg (by decide)]
theorem put_err {q : Dr} {d d1 : Dk} {kind e : Int} {body : List Int} (h : q.stuck = false) (hl : body.length ≤ 1048576) (h2 : d.lay (nameS q.gen) (pieceS (q.len + 1) q.sum kind body) = (e, d1)) (he : e ≠ 0) : q.put d kind body = (e, { q with stuck := true }, d1) := by
  unfold Dr.put
  rw [if_neg (by simp [h]), if_neg (by omega), h2]
  dsimp only
  rw [if_pos he]
theorem put_stuck {q : Dr} {d : Dk} {kind : Int} {body : List Int} (h : q.stuck = true) : q.put d kind body = (196, q, d) := by
  unfold Dr.put
  rw [if_pos h]
theorem arm_one (B : List Int) (s u a c x : Int) (h : 0 ≤ x) : (One B s u a c false).arm x = One B s x a c false := by
  unfold Dk.arm
  rw [if_neg (by show ¬ false = true; decide), show max x (-1) = x by omega]
  rfl
def kB : List Int := pc0 7 ++ pieceS 1 7 5 [97]
def kT : List Int := (pieceS 2 7 6 [98]).take 3
theorem kB_len : kB.length = 37 := by unfold kB; rw [List.length_append, pc0_len, pieceS_len]; rfl
theorem kT_len : kT.length = 3 := by unfold kT; rw [List.length_take, pieceS_len]; rfl
theorem known_put1 : (Dr.mk 7 1 0 false).put (One (pc0 7) 18 (-1) 0 0 false) 5 [97] = (0, ⟨7, 1, 1, false⟩, One kB 37 (-1) 0 0 false) := by
  have h1 := put_ok (q := ⟨7, 1, 0, false⟩) (kind := 5) (body := [97]) rfl (by decide) (lay_free (B := pc0 7) (s := 18) (a := 0) (c := 0) (by decide) (by rw [pc0_len]; show 18 + (pieceS 1 7 5 [97]).length ≤ _; rw [pieceS_len]; decide))
  rw [h1]
  have : (pc0 7 ++ pieceS 1 7 5 [97]).length = 37 := kB_len
  show (0, _, One kB ((pc0 7 ++ pieceS 1 7 5 [97]).length : Nat) (-1) 0 0 false) = _
  rw [this]; rfl
theorem known_put2 : (Dr.mk 7 1 1 false).put (One kB 37 3 0 0 false) 6 [98] = (190, ⟨7, 1, 1, true⟩, One (kB ++ kT) 37 (-1) 0 0 true) := by
  have h1 := put_err (q := ⟨7, 1, 1, false⟩) (kind := 6) (body := [98]) rfl (by decide) (lay_few (B := kB) (xs := pieceS 2 7 6 [98]) (s := 37) (u := 3) (a := 0) (c := 0) (by decide) (by rw [kB_len, pieceS_len]; decide) (by decide) (by rw [pieceS_len]; decide)) (by decide)
  exact h1
theorem known_put3 : (Dr.mk 7 1 1 true).put (One (kB ++ kT) 37 (-1) 0 0 true) 6 [] = (196, ⟨7, 1, 1, true⟩, One (kB ++ kT) 37 (-1) 0 0 true) := by
  have h : (Dr.mk 7 1 1 true).stuck = true := rfl
  exact put_stuck h
theorem known_rest : (One (kB ++ kT) 37 (-1) 0 0 true).rest [100] = One (kB ++ kT) 40 (-1) 0 0 false := by
  have hl : (kB ++ kT).length = 40 := by rw [List.length_append, kB_len, kT_len]
  have hkeep : keepN [100] 0 (f1F (kB ++ kT) 37) = 3 := by
    unfold keepN
    show (min (max (keepAt [100] 0) 0) (((kB ++ kT).length : Nat) - (37 : Int))).toNat = 3
    rw [hl]; rfl
  have hr : restF [100] 0 (f1F (kB ++ kT) 37) = f1F (kB ++ kT) 40 := by
    unfold restF
    rw [hkeep]
    show ({ f0 := nameS 1, f1 := (kB ++ kT).take (37 + 3), f2 := ((37 + 3 : Nat) : Int) } : Fl) = _
    rw [List.take_of_length_le (by rw [hl]; decide)]
    rfl
  show ({ fs := [restF [100] 0 (f1F (kB ++ kT) 37)], down := false, units := -1, after := 0, calls := 0 } : Dk) = _
  rw [hr]; rfl
theorem gen1 : genS (nameS 1) = 1 := gen_name (by decide)
theorem known_seek : seekS [f1F (kB ++ kT) 40] = ⟨1, 7, [], [⟨5, [97]⟩], 37, 40, 40⟩ := by
  have hl : (kB ++ kT).length = 40 := by rw [List.length_append, kB_len, kT_len]
  have hw : wholeS (kB ++ kT) 0 = some (7, ⟨0, []⟩, 18) := by
    unfold kB
    rw [List.append_assoc]
    exact whole_piece (num := 0) (sum := 7) (kind := 0) (body := []) (by decide) (by decide) (by decide) (fun _ => rfl)
  have hc : candF (f1F (kB ++ kT) 40) = some ⟨1, 7, [], [], 18, 40, 40⟩ := by
    unfold candF
    rw [if_neg (by show ¬ genS (nameS 1) = 0; rw [gen1]; decide)]
    show (match wholeS (kB ++ kT) 0 with | some (s, r, sz) => (some ⟨genS (nameS 1), s, r.body, [], sz, (kB ++ kT).length, 40⟩ : Option Fnd) | none => none) = _
    rw [hw, gen1, hl]
  have hb : bestS [f1F (kB ++ kT) 40] = ⟨1, 7, [], [], 18, 40, 40⟩ := by
    unfold bestS
    rw [List.foldl_cons, List.foldl_nil]
    unfold stepB
    rw [hc]
    rfl
  have hs : scanS 7 41 ((kB ++ kT).drop 18) 1 = [⟨5, [97]⟩] := by
    have hd : (kB ++ kT).drop 18 = recsB 7 1 [⟨5, [97]⟩] ++ kT := by
      unfold kB
      rw [List.append_assoc, List.drop_left' (pc0_len 7)]
      simp [recsB]
    rw [hd]
    refine scan_recs (by decide) _ _ _ _ (fun r hr => ?_) (by decide) (by decide) (by decide) (fun s r sz h => ?_)
    · simp only [List.mem_singleton] at hr
      subst hr
      exact ⟨by decide, by decide, fun x hx => by simp only [List.mem_singleton] at hx; omega, by decide⟩
    · unfold wholeS at h
      rw [if_pos (.inl (by rw [kT_len]; decide))] at h
      cases h
  unfold seekS
  rw [hb]
  dsimp only
  rw [if_neg (by decide), get_one]
  show ({ gen := 1, sum := 7, summary := [], recs := scanS 7 ((kB ++ kT).length + 1) ((kB ++ kT).drop 18) 1, size := 18 + (recsB 7 1 (scanS 7 ((kB ++ kT).length + 1) ((kB ++ kT).drop 18) 1)).length, all := 40, sure := 40 } : Fnd) = _
  rw [hl, hs, recsB_len]
  rfl
theorem known_open : ((One (kB ++ kT) 40 (-1) 0 0 false).opn 7).err = 0 ∧ ((One (kB ++ kT) 40 (-1) 0 0 false).opn 7).summary = [] ∧ ((One (kB ++ kT) 40 (-1) 0 0 false).opn 7).recs = [⟨5, [97]⟩] := by
  have hl : (kB ++ kT).length = 40 := by rw [List.length_append, kB_len, kT_len]
  obtain ⟨j, hj⟩ : ∃ j : Fnd, j = ⟨1, 7, [], [⟨5, [97]⟩], 37, 40, 40⟩ := ⟨_, rfl⟩
  have hsk : seekS (One (kB ++ kT) 40 (-1) 0 0 false).fs = j := by rw [hj]; exact known_seek
  have hch := one_chg (B := kB ++ kT) (s := 40) (u := -1) (first_free (a := 0) (c := 0) (by decide))
  rw [if_pos (by decide)] at hch
  have ht : trimF (37 : Nat) (f1F (kB ++ kT) 40) = f1F kB 37 := by
    unfold trimF
    have h1 : ((kB ++ kT).take (max ((37 : Nat) : Int) 0).toNat) = kB := by
      rw [show (max ((37 : Nat) : Int) 0).toNat = 37 from rfl, List.take_left' kB_len]
    show ({ f0 := nameS 1, f1 := (kB ++ kT).take (max ((37 : Nat) : Int) 0).toNat, f2 := min (40 : Int) (((kB ++ kT).take (max ((37 : Nat) : Int) 0).toNat).length : Nat) } : Fl) = _
    rw [h1, kB_len]; rfl
  have hm1 : (One (kB ++ kT) 40 (-1) 0 0 false).mend1 j = (0, One kB 37 (-1) 0 0 false) := by
    unfold Dk.mend1
    rw [hj, if_pos (by decide)]
    show (((One (kB ++ kT) 40 (-1) 0 0 false).chg (nameS 1)).1, (One (kB ++ kT) 40 (-1) 0 0 false).doF (nameS 1) (trimF (37 : Nat))) = _
    rw [hch, one_doF hch, ht]
    rfl
  have hm2 : (One kB 37 (-1) 0 0 false).mend2 j = (0, One kB 37 (-1) 0 0 false) := by
    unfold Dk.mend2
    rw [hj, if_neg (by decide)]
  have hcl : Dk.clear 1 ((One kB 37 (-1) 0 0 false).fs.map (·.f0)) (One kB 37 (-1) 0 0 false) = (0, One kB 37 (-1) 0 0 false) := by
    show Dk.clear 1 [nameS 1] (One kB 37 (-1) 0 0 false) = _
    unfold Dk.clear
    rw [gen1, if_neg (by decide)]
    rfl
  have hm : (One (kB ++ kT) 40 (-1) 0 0 false).mend j = (0, One kB 37 (-1) 0 0 false) := by
    unfold Dk.mend
    rw [hm1]
    dsimp only
    rw [if_neg (by decide), hm2]
    dsimp only
    rw [if_neg (by decide), show j.gen = 1 by rw [hj], hcl]
  have ho : (One (kB ++ kT) 40 (-1) 0 0 false).opn 7 = ⟨0, 1, [], [⟨5, [97]⟩], One kB 37 (-1) 0 0 false⟩ := by
    unfold Dk.opn
    rw [if_neg (by show ¬ false = true; decide)]
    dsimp only
    rw [hsk, hm, hj]
    rfl
  rw [ho]
  exact ⟨rfl, rfl, rfl⟩
end Go.Proofs.YthneomomhoilkaaDoor.PA
end
section
namespace Go.Proofs.YthneomomhoilkaaDoor.PA
open Go.RowKit Go.Maps Go.Sort Go.Proofs.YthneomomhoilkaaDoorW.PrintWords Go.Proofs.YthneomomhoilkaaDoorW.PrintLast Go.Proofs.YthneomomhoilkaaDoorW.PrintMore Go.Proofs.YthneomomhoilkaaDoor.Dw
theorem put_l {b g gW gx : Nat} {w : World} {col : RCol} {d d' : Dk} {q q' : Dr} {kind e : Int} {body : List Int} (h : LdS b w col g gW gx d q) (hR : q.put d kind body = (e, q', d')) (hg : q.gen < 100000000) (hs : q.sum < 4294967296) (hl : q.len < 4294967295) (hk : 0 ≤ kind ∧ kind < 256) (A : Option Addr) (c : Nat) (hb : Byt body) (hr : ReadsInt w .u8 A body.length body) (hc : body.length ≤ c) :
    Calls Tryd.prog 8 #[.pointer (some ⟨gx, 0, none⟩), .agg #[.int .u8 kind, .slice A body.length c]] w fun e' w' => e' = .returned (.int .i64 e) ∧ ∃ col', LdS b w' col' g gW gx d' q' ∧ Below b w w' := by
  refine (put_calls h.dr hg hs hl kind hk A c body hb hr hc).mono fun e' w' h2 => ?_
  rw [hR] at h2
  exact ⟨h2.1, h.post h2.2⟩
theorem byt_one {x : Int} (h : 0 ≤ x ∧ x < 256) : Byt [x] := fun y hy => by simp only [List.mem_singleton] at hy; subst hy; exact h
theorem reads_lit (W : World) (x : Int) {W' : World} (hb : Below (W.alloc (.cells #[.int .u8 x] 5)).heap.size (W.alloc (.cells #[.int .u8 x] 5)) W') : ReadsInt W' .u8 (some ⟨W.heap.size, 0, none⟩) 1 [x] := by
  refine ⟨rfl, by decide, fun _ => ⟨_, rfl, fun j hj => ?_⟩⟩
  obtain rfl : j = 0 := by omega
  have h1 := (hb.block W.heap.size (by simp)).trans (blk_new W (.cells #[.int .u8 x] 5))
  exact (blk_cell h1 0).trans rfl
theorem LdS.newcol {b g gW gx : Nat} {w w' : World} {col : RCol} {d : Dk} {q : Dr} (h : LdS b w col g gW gx d q) (hb : Below w.heap.size w w') : LdS b w' (colN col w.heap.size fun _ => .tm) g gW gx d q := by
  have hc : Ch b w col w' (colN col w.heap.size fun _ => .tm) (fun _ => False) := Ch.of_new hb h.dr.da.le _
  obtain ⟨C, c1, c2, c3⟩ := h.box
  exact ⟨h.dr.go (hc.mono fun _ h => h.elim) (h.dr.da.ch hc (fun _ _ h => h)), ⟨C, hc.blk c1 (fun h => h), c2, c3⟩, by rw [hc.same gW (blk_lt c1)]; exact h.tag, h.le⟩
theorem ints_lit (W : World) (x : Int) (col : RCol) : XInts (W.alloc (.cells #[.int .i64 x] 3)) (colN col W.heap.size fun _ => .tm) isP (some ⟨W.heap.size, 0, none⟩) [x] := by
  refine ⟨⟨rfl, (show 1 ≤ 9223372036854775807 by decide), fun _ => ⟨_, rfl, fun j hj => ?_⟩⟩, fun _ a ha => ?_⟩
  · obtain rfl : j = 0 := by simpa using hj
    exact (blk_cell (blk_new W (.cells #[.int .i64 x] 3)) 0).trans rfl
  · cases ha
    exact ⟨by simp, by rw [colN_ge (Nat.le_refl _)]; exact fun h => h⟩
theorem rec1 (W : World) (k k' x : Int) (A : Option Addr) (c : Nat) (hk : k % 256 = k') (h : ReadsInt W .u8 A 1 [x]) : Calls Tryd.prog 9 #[.int .i64 k, .slice A 1 c] W fun e w' => ∃ A2 c2, e = .returned (.agg #[.int .u8 k', .slice A2 1 c2]) ∧ ReadsInt w' .u8 A2 1 [x] ∧ 1 ≤ c2 ∧ Below W.heap.size W w' := by
  refine (record_calls k A c [x] W h (by show 1 ≤ 140737488351232; decide)).mono ?_
  rintro e w' ⟨A2, c2, rfl, ho, hb⟩
  rw [hk]
  obtain ⟨A', c', e1, hc⟩ := own_le_cap ho
  injection e1 with q1 q2 q3
  subst q3
  exact ⟨A2, c2, rfl, own_reads' ho, hc, hb⟩
theorem rec0 (W : World) (k k' : Int) (hk : k % 256 = k') : Calls Tryd.prog 9 #[.int .i64 k, .slice none 0 0] W fun e w' => ∃ A2 c2, e = .returned (.agg #[.int .u8 k', .slice A2 0 c2]) ∧ ReadsInt w' .u8 A2 0 [] ∧ Below W.heap.size W w' := by
  refine (record_calls k none 0 [] W (reads_nil W) (by decide)).mono ?_
  rintro e w' ⟨A2, c2, rfl, ho, hb⟩
  rw [hk]
  exact ⟨A2, c2, rfl, own_reads' ho, hb⟩
structure KO (W : World) (Av Ar : Option Addr) (cv cr : Nat) : Prop where
  ex : ∃ gl Ab cb, Ar = some ⟨gl, 0, none⟩ ∧ 1 ≤ cr ∧ 1 ≤ cb ∧ ∀ W', Below W.heap.size W W' → W'.cell? ⟨gl, 0, none⟩ = some (.int .u8 5) ∧ W'.cell? ⟨gl, 1, none⟩ = some (.slice Ab 1 cb) ∧ ReadsInt W' .u8 Ab 1 [97]
theorem known_end {b g : Nat} {w : World} {col : RCol} (h : DA b w col g (One (kB ++ kT) 40 (-1) 0 0 false)) : Calls Tryd.prog 17 #[.pointer (some ⟨g, 0, none⟩), .int .u32 7] w fun e w' => ∃ gx Av cv Ar cr, e = .returned (.tuple #[.pointer (some ⟨gx, 0, none⟩), .slice Av 0 cv, .slice Ar 1 cr, .int .i64 0]) ∧ KO w' Av Ar cv cr ∧ Below b w w' := by
  refine (open_calls h 7 (by decide)).mono ?_
  rintro e w' ⟨col', hc, hd, _, h2⟩
  obtain ⟨k1, k2, k3⟩ := known_open
  obtain ⟨gx, v, vr, L, rfl, hx, htx, hgx, hob, hL⟩ := h2 k1
  have hrow := hob.row
  rw [k2] at hrow
  obtain ⟨Av, cv, rfl, _⟩ := own_form hrow
  rw [k3] at hL
  have hown := hob.rcl.own
  obtain ⟨p, rfl⟩ : ∃ p, L = [p] := by
    cases L with
    | nil => cases hL
    | cons p r =>
      rw [List.map_cons] at hL
      injection hL with _ h4
      exact ⟨p, by rw [List.map_eq_nil_iff.1 h4]⟩
  have hp : p.1 = ⟨5, [97]⟩ := by simpa using hL
  have hbody := hob.rcl.rows p (by simp)
  rw [hp] at hbody
  obtain ⟨Ab, cb, hpv, hcb, _⟩ := own_form hbody
  rw [hpv] at hbody
  have hfl : flatR [p] = [.int .u8 5, .slice Ab 1 cb] := by
    show [Value.int .u8 p.1.kind, p.2] = _
    rw [hp, hpv]; rfl
  rw [hfl] at hown
  rcases hown.2 with ⟨_, h0⟩ | ⟨gl, cap, cur, e1, hg, hh, hcc, _⟩
  · cases h0
  · subst e1
    have hcs := hown.cells (g := gl) rfl
    have hc0 := hcs 0 _ rfl
    have hc1 := hcs 1 _ rfl
    rw [add_at] at hc0 hc1
    refine ⟨gx, Av, cv, some ⟨gl, 0, none⟩, cap, rfl, ⟨gl, Ab, cb, rfl, hcc, hcb, fun W' hW => ⟨(hW.cell (p := ⟨gl, 0, none⟩) (blk_lt hh)).trans hc0, (hW.cell (p := ⟨gl, 1, none⟩) (blk_lt hh)).trans hc1, (own_reads' hbody).below hW⟩⟩, hc.below⟩
set_option maxRecDepth 100000 in
set_option maxHeartbeats 8000000 in
theorem known_calls (w : World) {b0 : Nat} (hV : VP b0 w) (hb0 : b0 ≤ w.heap.size) :
    Calls Tryd.prog 5 #[] w fun e w' => e = .returned (.bool true) ∧ Below w.heap.size w w' := by
  have HBg := Aside0.mk (begin_calls 7 w hV hb0)
  obtain ⟨b, hb⟩ : ∃ b, b = w.heap.size := ⟨_, rfl⟩
  have HBb := Aside0.mk hb
  have o1 : ((Dk.start []).opn 7).err = 0 ∧ ((Dk.start []).opn 7).summary = [] ∧ ((Dk.start []).opn 7).recs = [] ∧ ((Dk.start []).opn 7).disk = One (pc0 7) 18 (-1) 0 0 false ∧ ((Dk.start []).opn 7).gen = 1 := by rw [opn_start]; exact ⟨rfl, rfl, rfl, rfl, rfl⟩
  have HO1 := Aside0.mk o1
  have HT1 := Aside0.mk trivial
  clear hV hb0 hb o1
  go_enter Tryd.func5, Tryd.ntmps5
  go_upto_region 4 with (first
    | (go_at_call 6; have q_ := HT1.out; clear q_ HT1; refine HBg.out.mono ?_; rintro e w1 ⟨g, gW, col1, rfl, hb1, hl1⟩; rw [← HBb.out] at hl1 hb1; have HB1 := Aside0.mk hb1; have HL1 := Aside0.mk hl1; clear hb1 hl1)
    | (go_at_call 7; have q_ := HL1.out; clear q_; refine (open0_calls 7 (by decide) HL1.out HO1.out.1 HO1.out.2.1 HO1.out.2.2.1).mono ?_; rintro e w2 ⟨rfl, gx, col2, hb2, hl2⟩; rw [HO1.out.2.2.2.1, HO1.out.2.2.2.2] at hl2; have HB2 := Aside0.mk (HB1.out.trans hb2); have HL2 := Aside0.mk hl2; have x0 := hl2.cells.1; have x1 := hl2.cells.2; clear hb2 hl2))
  have hPut1 : ∀ W A c, Below w2.heap.size w2 W → ReadsInt W .u8 A 1 [97] → 1 ≤ c → Calls Tryd.prog 8 #[.pointer (some ⟨gx, 0, none⟩), .agg #[.int .u8 5, .slice A 1 c]] W fun e' w' => e' = .returned (.int .i64 0) ∧ ∃ col', LdS b w' col' g gW gx (One kB 37 (-1) 0 0 false) ⟨7, 1, 1, false⟩ ∧ Below b W w' := fun W A c hW hr hc => put_l (HL2.out.below hW) known_put1 (show 1 < 100000000 by decide) (show 7 < 4294967296 by decide) (show 0 < 4294967295 by decide) ⟨by decide, by decide⟩ A c (byt_one ⟨by decide, by decide⟩) hr hc
  have HPut1 := Aside0.mk hPut1
  have hF2 : ∀ W, Below w2.heap.size w2 W → W.cell? ⟨gW, 1, none⟩ = some (.pointer (some ⟨gx, 0, none⟩)) := fun W hW => (HL2.out.below hW).cells.2
  have HF2 := Aside0.mk hF2
  clear hPut1 hF2 x0 x1
  refine start_ (n := 8) (S := fun w' => w'.cell? ⟨gW, 1, none⟩ = some (.pointer (some ⟨gx, 0, none⟩)) ∧ Below w2.heap.size w2 w') (ds := [6]) #[false, false, false, false, false, false, false, false] (by kernel_rfl) rfl rfl ⟨(HF2.out _ (below_drew (Below.refl _ _))), (below_drew (Below.refl _ _))⟩ (fun hHeld => ?_)
  refine pure_ (i := 0) (N := some 23) (v := ?_) (a' := ?_) #[true, false, false, false, false, false, false, false] rfl rfl (by kernel_rfl) (fun _ _ _ h => h) (Or.inl ⟨by rfl, ?_⟩) ?_ ?_
  rotate_left
  · intro w'
    go_simp
    with_reducible rfl
  rotate_left
  · simp only [Act.put, List.setIfInBounds_toArray, List.set_cons_zero, List.set_cons_succ, i64_w, i32_w]
    rfl
  refine pure_ (i := 1) (N := some 24) (v := ?_) (a' := ?_) #[true, true, false, false, false, false, false, false] rfl rfl (by kernel_rfl) (fun _ _ _ h => h) (Or.inl ⟨by rfl, ?_⟩) ?_ ?_
  rotate_left
  · intro w'
    go_simp
    with_reducible rfl
  rotate_left
  · simp only [Act.put, List.setIfInBounds_toArray, List.set_cons_zero, List.set_cons_succ, i64_w, i32_w]
    rfl
  refine pure_ (i := 2) (N := some 25) (v := ?_) (a' := ?_) #[true, true, true, false, false, false, false, false] rfl rfl (by kernel_rfl) (fun _ _ _ h => h) (Or.inl ⟨by rfl, ?_⟩) ?_ ?_
  rotate_left
  · intro w'
    go_simp
    with_reducible rfl
  rotate_left
  · simp only [Act.put, List.setIfInBounds_toArray, List.set_cons_zero, List.set_cons_succ, i64_w, i32_w]
    rfl
  refine take_ (i := 3) (N := some 26) (v := ?_) (a' := ?_) #[true, true, true, true, false, false, false, false] rfl rfl (by kernel_rfl) (fun _ _ _ h => h) (Or.inl ⟨by rfl, ?_⟩) hHeld ?_ ?_
  rotate_left
  · rintro w' ⟨s0, s1⟩
    go_simp
    with_reducible rfl
  rotate_left
  · simp only [Act.put, List.setIfInBounds_toArray, List.set_cons_zero, List.set_cons_succ, i64_w, i32_w]
    rfl
  refine one_ (i := 4) (N := some 27) #[true, true, true, true, true, false, false, false] rfl rfl (by kernel_rfl) (by decide) (fun K hK => ?_)
  refine value_ (w1 := ?_) (v := ?_) (by rfl) rfl ?_ ?_
  rotate_left 2
  · go_simp
    constructor
    · rfl
    · rfl
  refine hK.out _ _ ⟨(HF2.out _ (below_alloc hHeld.2 _)), (below_alloc hHeld.2 _)⟩ (fun hHeld => ?_)
  clear hK K
  refine norm_ (a' := ?_) ?_ ?_
  rotate_left
  · show Act.put _ (some 27) _ = _
    simp only [Act.put, List.setIfInBounds_toArray, List.set_cons_zero, List.set_cons_succ, i64_w, i32_w]
    rfl
  refine one_ (i := 5) (N := some 28) #[true, true, true, true, true, true, false, false] rfl rfl (by kernel_rfl) (by decide) (fun K hK => ?_)
  refine goes_ Tryd.func9 (by kernel_rfl) rfl #[.int .i64 5, .slice (some ⟨w2.heap.size, 0, none⟩) 1 1] (by rfl) rfl rfl (by simp only [List.map_toArray, List.map_cons, List.map_nil]; rfl) ?_
  with_reducible refine ((rec1 _ 5 5 97 _ 1 rfl (reads_lit w2 97 (below_drew (Below.refl _ _))))).mono ?_
  rintro e wr2 ⟨A2, c2, rfl, hr2, hc2, hb2⟩
  refine ⟨_, rfl, ?_⟩
  have HB2r := Aside0.mk (hHeld.2.trans (hb2.mono hHeld.2.size))
  have HR2 := Aside0.mk hr2
  have HC2 := Aside0.mk hc2
  clear hb2 hr2 hc2
  refine hK.out _ _ ⟨(HF2.out _ HB2r.out), HB2r.out⟩ (fun hHeld => ?_)
  clear hK K
  refine norm_ (a' := ?_) ?_ ?_
  rotate_left
  · show Act.put _ (some 28) _ = _
    simp only [Act.put, List.setIfInBounds_toArray, List.set_cons_zero, List.set_cons_succ, i64_w, i32_w]
    rfl
  refine last_ (i := 6) (N := some 29) #[true, true, true, true, true, true, true, false] rfl rfl (by kernel_rfl) (by decide) (fun K hK => ?_)
  refine goes_ Tryd.func8 (by kernel_rfl) rfl #[.pointer (some ⟨gx, 0, none⟩), .agg #[.int .u8 5, .slice A2 1 c2]] (by rfl) rfl rfl (by simp only [List.map_toArray, List.map_cons, List.map_nil]; rfl) ?_
  with_reducible refine ((HPut1.out _ A2 c2 hHeld.2 HR2.out HC2.out)).mono ?_
  rintro e w4 ⟨rfl, col4, hl4, hb4⟩
  refine ⟨_, rfl, ?_⟩
  have HB4 := Aside0.mk ((HB2.out.trans (hHeld.2.mono HL2.out.dr.da.le)).trans hb4)
  have HL4 := Aside0.mk hl4
  clear hl4 hb4
  refine hK.out _ _ ?_
  clear hK K
  refine norm_ (a' := ?_) ?_ ?_
  rotate_left
  · show Act.put _ (some 29) _ = _
    simp only [Act.put, List.setIfInBounds_toArray, List.set_cons_zero, List.set_cons_succ, i64_w, i32_w]
    rfl
  refine pure_ (i := 7) (N := some 30) (v := ?_) (a' := ?_) #[true, true, true, true, true, true, true, true] rfl rfl (by kernel_rfl) (fun _ _ _ h => h) (Or.inl ⟨by rfl, ?_⟩) ?_ ?_
  rotate_left
  · intro w'
    go_simp
    with_reducible rfl
  rotate_left
  · simp only [Act.put, List.setIfInBounds_toArray, List.set_cons_zero, List.set_cons_succ, i64_w, i32_w]
    rfl
  refine done_ (by kernel_rfl) ?_
  have x0 := HL4.out.cells.1
  go_upto_region 7 with (go_at_call 16; refine (arm_a HL4.out.dr.da 3 (by decide)).mono ?_; rintro e w5 ⟨rfl, hp⟩; obtain ⟨col5, hl5, hb5⟩ := HL4.out.apost hp; rw [arm_one _ _ _ _ _ _ (by decide)] at hl5; have HB5 := Aside0.mk (HB4.out.trans hb5); have HL5 := Aside0.mk hl5; clear hp hl5 hb5)
  have hPut2 : ∀ W A c, Below w5.heap.size w5 W → ReadsInt W .u8 A 1 [98] → 1 ≤ c → Calls Tryd.prog 8 #[.pointer (some ⟨gx, 0, none⟩), .agg #[.int .u8 6, .slice A 1 c]] W fun e' w' => e' = .returned (.int .i64 190) ∧ ∃ col', LdS b w' col' g gW gx (One (kB ++ kT) 37 (-1) 0 0 true) ⟨7, 1, 1, true⟩ ∧ Below b W w' := fun W A c hW hr hc => put_l (HL5.out.below hW) known_put2 (show 1 < 100000000 by decide) (show 7 < 4294967296 by decide) (show 1 < 4294967295 by decide) ⟨by decide, by decide⟩ A c (byt_one ⟨by decide, by decide⟩) hr hc
  have HPut2 := Aside0.mk hPut2
  have hF5 : ∀ W, Below w5.heap.size w5 W → W.cell? ⟨gW, 1, none⟩ = some (.pointer (some ⟨gx, 0, none⟩)) := fun W hW => (HL5.out.below hW).cells.2
  have HF5 := Aside0.mk hF5
  clear hPut2 hF5 x0
  refine start_ (n := 8) (S := fun w' => w'.cell? ⟨gW, 1, none⟩ = some (.pointer (some ⟨gx, 0, none⟩)) ∧ Below w5.heap.size w5 w') (ds := [6]) #[false, false, false, false, false, false, false, false] (by kernel_rfl) rfl rfl ⟨(HF5.out _ (below_drew (Below.refl _ _))), (below_drew (Below.refl _ _))⟩ (fun hHeld => ?_)
  refine pure_ (i := 0) (N := some 36) (v := ?_) (a' := ?_) #[true, false, false, false, false, false, false, false] rfl rfl (by kernel_rfl) (fun _ _ _ h => h) (Or.inl ⟨by rfl, ?_⟩) ?_ ?_
  rotate_left
  · intro w'
    go_simp
    with_reducible rfl
  rotate_left
  · simp only [Act.put, List.setIfInBounds_toArray, List.set_cons_zero, List.set_cons_succ, i64_w, i32_w]
    rfl
  refine pure_ (i := 1) (N := some 37) (v := ?_) (a' := ?_) #[true, true, false, false, false, false, false, false] rfl rfl (by kernel_rfl) (fun _ _ _ h => h) (Or.inl ⟨by rfl, ?_⟩) ?_ ?_
  rotate_left
  · intro w'
    go_simp
    with_reducible rfl
  rotate_left
  · simp only [Act.put, List.setIfInBounds_toArray, List.set_cons_zero, List.set_cons_succ, i64_w, i32_w]
    rfl
  refine pure_ (i := 2) (N := some 38) (v := ?_) (a' := ?_) #[true, true, true, false, false, false, false, false] rfl rfl (by kernel_rfl) (fun _ _ _ h => h) (Or.inl ⟨by rfl, ?_⟩) ?_ ?_
  rotate_left
  · intro w'
    go_simp
    with_reducible rfl
  rotate_left
  · simp only [Act.put, List.setIfInBounds_toArray, List.set_cons_zero, List.set_cons_succ, i64_w, i32_w]
    rfl
  refine take_ (i := 3) (N := some 39) (v := ?_) (a' := ?_) #[true, true, true, true, false, false, false, false] rfl rfl (by kernel_rfl) (fun _ _ _ h => h) (Or.inl ⟨by rfl, ?_⟩) hHeld ?_ ?_
  rotate_left
  · rintro w' ⟨s0, s1⟩
    go_simp
    with_reducible rfl
  rotate_left
  · simp only [Act.put, List.setIfInBounds_toArray, List.set_cons_zero, List.set_cons_succ, i64_w, i32_w]
    rfl
  refine one_ (i := 4) (N := some 40) #[true, true, true, true, true, false, false, false] rfl rfl (by kernel_rfl) (by decide) (fun K hK => ?_)
  refine value_ (w1 := ?_) (v := ?_) (by rfl) rfl ?_ ?_
  rotate_left 2
  · go_simp
    constructor
    · rfl
    · rfl
  refine hK.out _ _ ⟨(HF5.out _ (below_alloc hHeld.2 _)), (below_alloc hHeld.2 _)⟩ (fun hHeld => ?_)
  clear hK K
  refine norm_ (a' := ?_) ?_ ?_
  rotate_left
  · show Act.put _ (some 40) _ = _
    simp only [Act.put, List.setIfInBounds_toArray, List.set_cons_zero, List.set_cons_succ, i64_w, i32_w]
    rfl
  refine one_ (i := 5) (N := some 41) #[true, true, true, true, true, true, false, false] rfl rfl (by kernel_rfl) (by decide) (fun K hK => ?_)
  refine goes_ Tryd.func9 (by kernel_rfl) rfl #[.int .i64 6, .slice (some ⟨w5.heap.size, 0, none⟩) 1 1] (by rfl) rfl rfl (by simp only [List.map_toArray, List.map_cons, List.map_nil]; rfl) ?_
  with_reducible refine ((rec1 _ 6 6 98 _ 1 rfl (reads_lit w5 98 (below_drew (Below.refl _ _))))).mono ?_
  rintro e wr5 ⟨A5, c5, rfl, hr5, hc5, hb5⟩
  refine ⟨_, rfl, ?_⟩
  have HB5r := Aside0.mk (hHeld.2.trans (hb5.mono hHeld.2.size))
  have HR5 := Aside0.mk hr5
  have HC5 := Aside0.mk hc5
  clear hb5 hr5 hc5
  refine hK.out _ _ ⟨(HF5.out _ HB5r.out), HB5r.out⟩ (fun hHeld => ?_)
  clear hK K
  refine norm_ (a' := ?_) ?_ ?_
  rotate_left
  · show Act.put _ (some 41) _ = _
    simp only [Act.put, List.setIfInBounds_toArray, List.set_cons_zero, List.set_cons_succ, i64_w, i32_w]
    rfl
  refine last_ (i := 6) (N := some 42) #[true, true, true, true, true, true, true, false] rfl rfl (by kernel_rfl) (by decide) (fun K hK => ?_)
  refine goes_ Tryd.func8 (by kernel_rfl) rfl #[.pointer (some ⟨gx, 0, none⟩), .agg #[.int .u8 6, .slice A5 1 c5]] (by rfl) rfl rfl (by simp only [List.map_toArray, List.map_cons, List.map_nil]; rfl) ?_
  with_reducible refine ((HPut2.out _ A5 c5 hHeld.2 HR5.out HC5.out)).mono ?_
  rintro e w7 ⟨rfl, col7, hl7, hb7⟩
  refine ⟨_, rfl, ?_⟩
  have HB7 := Aside0.mk ((HB5.out.trans (hHeld.2.mono HL5.out.dr.da.le)).trans hb7)
  have HL7 := Aside0.mk hl7
  clear hl7 hb7
  refine hK.out _ _ ?_
  clear hK K
  refine norm_ (a' := ?_) ?_ ?_
  rotate_left
  · show Act.put _ (some 42) _ = _
    simp only [Act.put, List.setIfInBounds_toArray, List.set_cons_zero, List.set_cons_succ, i64_w, i32_w]
    rfl
  refine pure_ (i := 7) (N := some 2) (v := ?_) (a' := ?_) #[true, true, true, true, true, true, true, true] rfl rfl (by kernel_rfl) (fun _ _ _ h => h) (Or.inl ⟨by rfl, ?_⟩) ?_ ?_
  rotate_left
  · intro w'
    go_simp
    with_reducible rfl
  rotate_left
  · simp only [Act.put, List.setIfInBounds_toArray, List.set_cons_zero, List.set_cons_succ, i64_w, i32_w]
    rfl
  refine done_ (by kernel_rfl) ?_
  go_upto_region 8 with fail
  have hPut3 : ∀ W A c, Below w7.heap.size w7 W → ReadsInt W .u8 A 0 [] → Calls Tryd.prog 8 #[.pointer (some ⟨gx, 0, none⟩), .agg #[.int .u8 6, .slice A 0 c]] W fun e' w' => e' = .returned (.int .i64 196) ∧ ∃ col', LdS b w' col' g gW gx (One (kB ++ kT) 37 (-1) 0 0 true) ⟨7, 1, 1, true⟩ ∧ Below b W w' := fun W A c hW hr => put_l (HL7.out.below hW) known_put3 (show 1 < 100000000 by decide) (show 7 < 4294967296 by decide) (show 1 < 4294967295 by decide) ⟨by decide, by decide⟩ A c byt_nil hr (Nat.zero_le _)
  have HPut3 := Aside0.mk hPut3
  have hF7 : ∀ W, Below w7.heap.size w7 W → W.cell? ⟨gW, 1, none⟩ = some (.pointer (some ⟨gx, 0, none⟩)) := fun W hW => (HL7.out.below hW).cells.2
  have HF7 := Aside0.mk hF7
  clear hPut3 hF7
  refine start_ (n := 7) (S := fun w' => w'.cell? ⟨gW, 1, none⟩ = some (.pointer (some ⟨gx, 0, none⟩)) ∧ Below w7.heap.size w7 w') (ds := [5]) #[false, false, false, false, false, false, false] (by kernel_rfl) rfl rfl ⟨(HF7.out _ (below_drew (Below.refl _ _))), (below_drew (Below.refl _ _))⟩ (fun hHeld => ?_)
  refine pure_ (i := 0) (N := some 43) (v := ?_) (a' := ?_) #[true, false, false, false, false, false, false] rfl rfl (by kernel_rfl) (fun _ _ _ h => h) (Or.inl ⟨by rfl, ?_⟩) ?_ ?_
  rotate_left
  · intro w'
    go_simp
    with_reducible rfl
  rotate_left
  · simp only [Act.put, List.setIfInBounds_toArray, List.set_cons_zero, List.set_cons_succ, i64_w, i32_w]
    rfl
  refine pure_ (i := 1) (N := some 44) (v := ?_) (a' := ?_) #[true, true, false, false, false, false, false] rfl rfl (by kernel_rfl) (fun _ _ _ h => h) (Or.inl ⟨by rfl, ?_⟩) ?_ ?_
  rotate_left
  · intro w'
    go_simp
    with_reducible rfl
  rotate_left
  · simp only [Act.put, List.setIfInBounds_toArray, List.set_cons_zero, List.set_cons_succ, i64_w, i32_w]
    rfl
  refine pure_ (i := 2) (N := some 45) (v := ?_) (a' := ?_) #[true, true, true, false, false, false, false] rfl rfl (by kernel_rfl) (fun _ _ _ h => h) (Or.inl ⟨by rfl, ?_⟩) ?_ ?_
  rotate_left
  · intro w'
    go_simp
    with_reducible rfl
  rotate_left
  · simp only [Act.put, List.setIfInBounds_toArray, List.set_cons_zero, List.set_cons_succ, i64_w, i32_w]
    rfl
  refine take_ (i := 3) (N := some 46) (v := ?_) (a' := ?_) #[true, true, true, true, false, false, false] rfl rfl (by kernel_rfl) (fun _ _ _ h => h) (Or.inl ⟨by rfl, ?_⟩) hHeld ?_ ?_
  rotate_left
  · rintro w' ⟨s0, s1⟩
    go_simp
    with_reducible rfl
  rotate_left
  · simp only [Act.put, List.setIfInBounds_toArray, List.set_cons_zero, List.set_cons_succ, i64_w, i32_w]
    rfl
  refine one_ (i := 4) (N := some 47) #[true, true, true, true, true, false, false] rfl rfl (by kernel_rfl) (by decide) (fun K hK => ?_)
  refine goes_ Tryd.func9 (by kernel_rfl) rfl #[.int .i64 6, .slice none 0 0] (by rfl) rfl rfl (by simp only [List.map_toArray, List.map_cons, List.map_nil]; rfl) ?_
  with_reducible refine ((rec0 _ 6 6 rfl)).mono ?_
  rintro e wr7 ⟨A7, c7, rfl, hr7, hb7⟩
  refine ⟨_, rfl, ?_⟩
  have HB7r := Aside0.mk (hHeld.2.trans (hb7.mono hHeld.2.size))
  have HR7 := Aside0.mk hr7
  clear hb7 hr7
  refine hK.out _ _ ⟨(HF7.out _ HB7r.out), HB7r.out⟩ (fun hHeld => ?_)
  clear hK K
  refine norm_ (a' := ?_) ?_ ?_
  rotate_left
  · show Act.put _ (some 47) _ = _
    simp only [Act.put, List.setIfInBounds_toArray, List.set_cons_zero, List.set_cons_succ, i64_w, i32_w]
    rfl
  refine last_ (i := 5) (N := some 48) #[true, true, true, true, true, true, false] rfl rfl (by kernel_rfl) (by decide) (fun K hK => ?_)
  refine goes_ Tryd.func8 (by kernel_rfl) rfl #[.pointer (some ⟨gx, 0, none⟩), .agg #[.int .u8 6, .slice A7 0 c7]] (by rfl) rfl rfl (by simp only [List.map_toArray, List.map_cons, List.map_nil]; rfl) ?_
  with_reducible refine ((HPut3.out _ A7 c7 hHeld.2 HR7.out)).mono ?_
  rintro e w8 ⟨rfl, col8, hl8, hb8⟩
  refine ⟨_, rfl, ?_⟩
  have HB8 := Aside0.mk ((HB7.out.trans (hHeld.2.mono HL7.out.dr.da.le)).trans hb8)
  have HL8 := Aside0.mk hl8
  clear hl8 hb8
  refine hK.out _ _ ?_
  clear hK K
  refine norm_ (a' := ?_) ?_ ?_
  rotate_left
  · show Act.put _ (some 48) _ = _
    simp only [Act.put, List.setIfInBounds_toArray, List.set_cons_zero, List.set_cons_succ, i64_w, i32_w]
    rfl
  refine pure_ (i := 6) (N := some 3) (v := ?_) (a' := ?_) #[true, true, true, true, true, true, true] rfl rfl (by kernel_rfl) (fun _ _ _ h => h) (Or.inl ⟨by rfl, ?_⟩) ?_ ?_
  rotate_left
  · intro w'
    go_simp
    with_reducible rfl
  rotate_left
  · simp only [Act.put, List.setIfInBounds_toArray, List.set_cons_zero, List.set_cons_succ, i64_w, i32_w]
    rfl
  refine done_ (by kernel_rfl) ?_
  have x0 := HL8.out.cells.1
  have x0' : ∀ o, World.cell? (w8.alloc o) ⟨gW, 0, none⟩ = some (.pointer (some ⟨g, 0, none⟩)) := fun o => (HL8.out.below (below_alloc (Below.refl _ _) o)).cells.1
  go_upto_region 10 with (go_at_call 15; have hl8 := HL8.out.newcol (below_alloc (Below.refl _ _) (.cells #[.int .i64 100] 3)); refine (restart_a hl8.dr.da (some ⟨w8.heap.size, 0, none⟩) 1 [100] (ints_lit w8 100 col8) (by decide)).mono ?_; rintro e w9 ⟨rfl, hp⟩; obtain ⟨col9, hl9, hb9⟩ := hl8.apost hp; rw [known_rest] at hl9; have HB9 := Aside0.mk (HB8.out.trans ((((below_alloc (Below.refl _ _) _).mono HL8.out.dr.da.le)).trans hb9)); have HL9 := Aside0.mk hl9; clear hp hl8 hl9 hb9)
  have x2 := HL9.out.cells.1
  clear x0 x0'
  go_upto_region 11 with (go_at_call 17; refine (known_end HL9.out.dr.da).mono ?_; rintro e w10 ⟨gy, Av, cv, Ar, cr, rfl, hko, hb10⟩; have HKO := Aside0.mk hko; have HB10 := Aside0.mk (HB9.out.trans hb10); clear hko hb10)
  obtain ⟨gl, Ab, cb, rfl, hcr, hcb, hall⟩ := HKO.out.ex
  obtain ⟨z0, z1, hrd⟩ := hall w10 (Below.refl _ _)
  have HSame : Aside0 (Calls Tryd.prog 18 #[.slice Ab 1 cb, .slice (some ⟨w10.heap.size, 0, none⟩) 1 1] (w10.alloc (.cells #[.int .u8 97] 5)) fun e w' => e = .returned (.bool true) ∧ Drawn0 (w10.alloc (.cells #[.int .u8 97] 5)) w') := ⟨sameBytes_calls [97] Ab (some ⟨w10.heap.size, 0, none⟩) cb 1 _ (Kd.C_of_reads (d := (0 : Int)) (readsInt_of.1 (hall _ (below_alloc (Below.refl _ _) _)).2.2)) hcb (Kd.C_of_reads (d := (0 : Int)) (readsInt_of.1 (reads_lit w10 97 (Below.refl _ _)))) (Nat.le_refl _)⟩
  clear hall hrd x2 hcr hcb
  go_wp2_with (go_at_call 18; refine HSame.out.mono ?_; rintro e w11 ⟨rfl, hd⟩; have HD := Aside0.mk hd; clear hd)
  go_ret
  have hbz : b ≤ w10.heap.size := by rw [HBb.out]; exact HB10.out.size
  have hba := below_alloc (Below.refl w10.heap.size w10) (.cells #[.int .u8 97] 5)
  exact ⟨rfl, by rw [← HBb.out]; exact (HB10.out.trans (hba.mono hbz)).trans (HD.out.below.mono (Nat.le_trans hbz hba.size))⟩
end Go.Proofs.YthneomomhoilkaaDoor.PA
end
