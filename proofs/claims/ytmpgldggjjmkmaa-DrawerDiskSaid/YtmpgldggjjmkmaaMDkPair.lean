/- A pair of disks and one call of a script in memory; each disk's step. Condition: none. -/
import Derived.Test.YtmpgldggjjmkmaaMDkMadeL
import Derived.Test.YtmpgldggjjmkmaaMB
import Derived.Test.YtmpgldggjjmkmaaMDkPapp
import Derived.Test.YtmpgldggjjmkmaaMDkPrest
import Derived.Test.YtmpgldggjjmkmaaMDkSort
import Derived.Test.YtmpgldggjjmkmaaMD
import Derived.Test.YtmpgldggjjmkmaaML
namespace Go.Proofs.Ytmpgldggjjmkmaa.PA
open Go.RowKit Go.Maps Go.Proofs.YtmpgldggjjmkmaaW.PrintWords Go.Proofs.YtmpgldggjjmkmaaW.PrintLast Go.Proofs.YtmpgldggjjmkmaaW.PrintMore
set_option linter.unusedVariables false
set_option linter.unusedSimpArgs false
structure OpV where
  kind : Int
  n : Int
  m : Int
  sec : Bool
  nm : ByteArray
  DA : Option Addr
  dc : Nat
  data : List Int
  KA : Option Addr
  kc : Nat
  keep : List Int
  sum : Int
def OpV.cells (o : OpV) : Array Value := #[.int .i64 o.kind, .int .i64 o.n, .int .i64 o.m, .bool o.sec, .string o.nm, .slice o.DA o.data.length o.dc, .slice o.KA o.keep.length o.kc, .int .u32 o.sum]
structure OpIn (W : World) (o : OpV) : Prop where
  n0 : -9223372036854775808 ≤ o.n
  n1 : o.n ≤ 9223372036854775807
  m0 : -9223372036854775808 ≤ o.m
  m1 : o.m ≤ 9223372036854775807
  name : o.nm.size ≤ 140737488355328
  data : ReadsInt W .u8 o.DA o.data.length o.data
  dcap : o.data.length ≤ o.dc
  dlen : o.data.length ≤ 140737488351232
  keep : ReadsInt W .i64 o.KA o.keep.length o.keep
  klen : o.keep.length < 17592186044000
theorem reads_lt {W : World} {k : IntKind} {A : Option Addr} {xs : List Int} (h : ReadsInt W k A xs.length xs) (h0 : 0 < xs.length) : ∀ a, A = some a → a.block < W.heap.size := by
  intro a ha
  obtain ⟨ad, e, hc⟩ := h.2.2 h0
  rw [ha] at e
  cases e
  have := World.block_lt_of_cell? _ _ (hc 0 h0)
  have e1 : (a.add 0).block = a.block := by unfold Addr.add; split <;> rfl
  rwa [e1] at this
structure DS (b : Nat) (w : World) (W : World) (col : RCol) (g gP gR q : Nat) (o : OpV) (dP dR : Dk) : Prop where
  blk : W.heap[g]? = some (.cells #[.pointer (some ⟨gP, 0, none⟩), .pointer none, .pointer (some ⟨gR, 0, none⟩), .pointer none] 32 (0, 0))
  tag : col g = .other
  le : b ≤ g
  args : ∀ k, k < b → col k = .other
  box : W.heap[q]? = some (.cells o.cells 38 (0, 0))
  btag : col q = .other
  bge : b ≤ q
  p : PD b W col gP dP
  r : RD b W col gR dR
  okP : dP.Ok
  okR : dR.Ok
  old : Below b w W
  inn : OpIn w o
  base : b = w.heap.size
section
variable {b : Nat} {w W W' : World} {col col' : RCol} {g gP gR q : Nat} {o : OpV} {dP dR d' : Dk}
theorem DS.ch (h : DS b w W col g gP gR q o dP dR) {S : Role → Prop} (m : Ch b W col W' col' S) (hS : ∀ r, (isP r ∨ isR r ∨ r = .other) → ¬ S r) : DS b w W' col' g gP gR q o dP dR :=
  ⟨m.blk h.blk (by rw [h.tag]; exact hS _ (.inr (.inr rfl))), (m.same g (blk_lt h.blk)).trans h.tag, h.le, fun k hk => (m.same k (Nat.lt_of_lt_of_le hk m.le)).trans (h.args k hk),
   m.blk h.box (by rw [h.btag]; exact hS _ (.inr (.inr rfl))), (m.same q (blk_lt h.box)).trans h.btag, h.bge, h.p.ch m (fun r hr => hS r (.inl hr)), h.r.ch m (fun r hr => hS r (.inr (.inl hr))), h.okP, h.okR, h.old.trans m.below, h.inn, h.base⟩
theorem DS.size (h : DS b w W col g gP gR q o dP dR) : b ≤ W.heap.size := Nat.le_trans h.le (Nat.le_of_lt (blk_lt h.blk))
theorem DS.go (h : DS b w W col g gP gR q o dP dR) (hb : Below W.heap.size W W') : DS b w W' col g gP gR q o dP dR :=
  h.ch (S := fun _ => False) (Ch.of_below hb h.size) (fun _ _ h => h)
theorem DS.drew (h : DS b w W col g gP gR q o dP dR) : DS b w W.drew col g gP gR q o dP dR := h.go ((Drawn0.refl W).step 1).below
theorem DS.pstep (h : DS b w W col g gP gR q o dP dR) (hp : PPost b W col gP d' W') (hd : d'.Ok) : ∃ col', DS b w W' col' g gP gR q o d' dR ∧ Ch b W col W' col' isP := by
  obtain ⟨col', m, hp⟩ := hp
  exact ⟨col', ⟨m.blk h.blk (by rw [h.tag]; exact fun h => h), (m.same g (blk_lt h.blk)).trans h.tag, h.le, fun k hk => (m.same k (Nat.lt_of_lt_of_le hk m.le)).trans (h.args k hk),
    m.blk h.box (by rw [h.btag]; exact fun h => h), (m.same q (blk_lt h.box)).trans h.btag, h.bge, hp, h.r.ch m (fun r hr => by cases r <;> first | exact fun h => h | exact hr.elim), hd, h.okR, h.old.trans m.below, h.inn, h.base⟩, m⟩
theorem DS.rstep (h : DS b w W col g gP gR q o dP dR) (hp : RPost b W col gR d' W') (hd : d'.Ok) : ∃ col', DS b w W' col' g gP gR q o dP d' ∧ Ch b W col W' col' isR := by
  obtain ⟨col', m, hp⟩ := hp
  exact ⟨col', ⟨m.blk h.blk (by rw [h.tag]; exact fun h => h), (m.same g (blk_lt h.blk)).trans h.tag, h.le, fun k hk => (m.same k (Nat.lt_of_lt_of_le hk m.le)).trans (h.args k hk),
    m.blk h.box (by rw [h.btag]; exact fun h => h), (m.same q (blk_lt h.box)).trans h.btag, h.bge, h.p.ch m (fun r hr => by cases r <;> first | exact fun h => h | exact hr.elim), hp, h.okP, hd, h.old.trans m.below, h.inn, h.base⟩, m⟩
theorem DS.cP (h : DS b w W col g gP gR q o dP dR) : W.cell? ⟨g, 0, none⟩ = some (.pointer (some ⟨gP, 0, none⟩)) := (blk_cell h.blk 0).trans rfl
theorem DS.cR (h : DS b w W col g gP gR q o dP dR) : W.cell? ⟨g, 2, none⟩ = some (.pointer (some ⟨gR, 0, none⟩)) := (blk_cell h.blk 2).trans rfl
theorem DS.c0 (h : DS b w W col g gP gR q o dP dR) : W.cell? ⟨q, 0, none⟩ = some (.int .i64 o.kind) := (blk_cell h.box 0).trans rfl
theorem DS.c1 (h : DS b w W col g gP gR q o dP dR) : W.cell? ⟨q, 1, none⟩ = some (.int .i64 o.n) := (blk_cell h.box 1).trans rfl
theorem DS.c2 (h : DS b w W col g gP gR q o dP dR) : W.cell? ⟨q, 2, none⟩ = some (.int .i64 o.m) := (blk_cell h.box 2).trans rfl
theorem DS.c4 (h : DS b w W col g gP gR q o dP dR) : W.cell? ⟨q, 4, none⟩ = some (.string o.nm) := (blk_cell h.box 4).trans rfl
theorem DS.c5 (h : DS b w W col g gP gR q o dP dR) : W.cell? ⟨q, 5, none⟩ = some (.slice o.DA o.data.length o.dc) := (blk_cell h.box 5).trans rfl
theorem DS.c6 (h : DS b w W col g gP gR q o dP dR) : W.cell? ⟨q, 6, none⟩ = some (.slice o.KA o.keep.length o.kc) := (blk_cell h.box 6).trans rfl
theorem DS.data (h : DS b w W col g gP gR q o dP dR) : ReadsInt W .u8 o.DA o.data.length o.data := h.inn.data.below (h.base ▸ h.old)
theorem DS.keep (h : DS b w W col g gP gR q o dP dR) : ReadsInt W .i64 o.KA o.keep.length o.keep := h.inn.keep.below (h.base ▸ h.old)
theorem DS.xdata (h : DS b w W col g gP gR q o dP dR) {S : Role → Prop} (hS : ¬ S .other) : XRow W col S o.DA o.data :=
  ⟨h.data, fun h0 a ha => ⟨reads_lt h.data h0 a ha, by rw [h.args _ (by rw [h.base]; exact reads_lt h.inn.data h0 a ha)]; exact hS⟩⟩
theorem DS.xkeep (h : DS b w W col g gP gR q o dP dR) {S : Role → Prop} (hS : ¬ S .other) : XInts W col S o.KA o.keep :=
  ⟨h.keep, fun h0 a ha => ⟨reads_lt h.keep h0 a ha, by rw [h.args _ (by rw [h.base]; exact reads_lt h.inn.keep h0 a ha)]; exact hS⟩⟩
end
def DiskPost (b : Nat) (w : World) (g gP gR : Nat) (e : Ending) (w' : World) : Prop := e = .returned (.bool true) ∧ ∃ col d, PrSt b w' col g gP gR d ∧ Below b w w'
theorem DS.post {b : Nat} {w W : World} {col : RCol} {g gP gR q : Nat} {o : OpV} {d : Dk} (h : DS b w W col g gP gR q o d d) : DiskPost b w g gP gR (.returned (.bool true)) W :=
  ⟨rfl, col, d, ⟨h.blk, h.tag, h.le, h.args, h.p, h.r, h.okP⟩, h.old⟩
end Go.Proofs.Ytmpgldggjjmkmaa.PA
