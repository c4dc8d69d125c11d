/- levylaw4.gone, walked by hand: twice through the iterator of one text, once through that of another, alive beside it. Condition: a world that holds the tables ('Tabs'). -/
import Derived.Test.YtidbcenbcllfnaaDoorTTkCl
import Derived.Test.YtidbcenbcllfnaaDoorTPAx0
import Derived.Test.YtidbcenbcllfnaaDoorTL
namespace Go.Proofs.YtidbcenbcllfnaaDoor.PA
open Go.RowKit Go.Shelf Go.Proofs.YtidbcenbcllfnaaDoorW.PrintWords Go.Proofs.YtidbcenbcllfnaaDoorW.PrintLast Go.Proofs.YtidbcenbcllfnaaDoorW.PrintMore
set_option linter.unusedVariables false
set_option linter.unusedSimpArgs false

/-- The first so many; all where 'stop' is below 1. -/
def takeT (xs : List S33) (stop : Int) : List S33 := if 1 ≤ stop then xs.take stop.toNat else xs
def levylaw4_gone.f (s : ByteArray) (stop times : Int) : Option (List S33 × Bool) :=
  if times = 2 then (if 8000 < s.size then some ([], true) else (runG (NXs s) (2 * s.size + 2) 0 false).bind fun q => some (takeT q.1 stop, true)) else none

/-- The other text, and its words. -/
abbrev x2 : ByteArray := ⟨#[120, 32, 50]⟩
abbrev toks3 : List S33 := [⟨1, 0, ⟨#[120]⟩, 0, 0⟩, ⟨3, 2, ⟨#[]⟩, 2, 0⟩, ⟨8, 3, ⟨#[]⟩, 0, 0⟩]
theorem known3 : (runG (NXs x2) 8 0 false).map (fun q => q.1) = some toks3 := by kernel_rfl
theorem gives3 : ∃ r, Gives (NXs x2) 0 false toks3 r := by
  obtain ⟨q, hq, h⟩ := Option.map_eq_some_iff.1 known3
  have := (runG_gives _ _ _ _ hq).1
  rw [h] at this
  exact ⟨_, this⟩
theorem eq_nil (f : FuncId) (lb : Array Value) (W : World) : (binOp .eql 55 (.func (.func f) #[] lb) .nilFunc).run Tryd.prog W = .ok (.bool false) W := by
  have hu := Tryd.underlying55
  obtain ⟨d, hd⟩ : ∃ d, Op.maxDepth = d + 1 := ⟨9999, rfl⟩
  unfold binOp
  simp only [Op.equal, hd]
  simp [Op.equalIn, go_sem, hu]

/-- The boxes of gone while it goes round. -/
structure GBox (b : Nat) (s : ByteArray) (stop : Int) (W : World) (v : Value) : Prop where
  st : Boxed W b 3 (.int .i64 stop)
  t1 : Boxed W (b + 1) 9 (.string s)
  t2 : Boxed W (b + 1 + 1) 9 (.string x2)
  l : Boxed W (b + 1 + 1 + 1) 22 v
  ok : Boxed W (b + 1 + 1 + 1 + 1) 4 (.bool true)

/-- One way through the text. -/
theorem once (b : Nat) (s : ByteArray) (stop : Int) (w : World) (hw : w.heap.size = b) (hT : Tabs w) (xs : List S33) (hbig : 8000 < s.size → xs = []) (hG : ¬ 8000 < s.size → ∃ r, Gives (NXs s) 0 false xs r) (hN : xs.length ≤ 20000)
    (W : World) (Be : Nat) (hB : Below b w W) (hb : GBox b s stop W (.slice none 0 0)) (hbe : Boxed W Be 4 (.bool false)) (hbe2 : b + 5 ≤ Be) :
    Calls Tryd.prog 50 #[.func (.func 29) #[] #[.pointer (some ⟨Be, 0, none⟩), .pointer (some ⟨b + 1 + 1 + 1, 0, none⟩), .pointer (some ⟨b + 1 + 1 + 1 + 1, 0, none⟩), .pointer (some ⟨b, 0, none⟩)], .pointer (some ⟨b + 1, 0, none⟩)] W fun e W' =>
      (∃ v, e = .returned v) ∧ Below b w W' ∧ ∃ v, GBox b s stop W' v ∧ TRow b W' v (takeT xs stop) := by
  have hlt := hbe.lt
  subst hw
  refine (toks1_cl _ _ _ _ s w W hT hB _ hb.t1 xs hbig hG hN
    (fun pre X => ¬ (1 ≤ stop ∧ stop ≤ (pre.length : Int)) ∧ ∃ v, Boxed X Be 4 (.bool false) ∧ GBox w.heap.size s stop X v ∧ TRow (W.heap.size + 3) X v pre)
    (fun pre X => (1 ≤ stop ∧ (pre.length : Int) = stop) ∧ ∃ v, GBox w.heap.size s stop X v ∧ TRow (W.heap.size + 3) X v pre)
    ?hJk ?hJp ?hJxp ?hJn ?hY ?h0).mono ?_
  case hJk =>
    rintro pre X Y ⟨h1, v, he, hg, ho⟩ hk
    have k : ∀ {B : Nat} {t : TypeId} {u : Value}, B < W.heap.size → Boxed X B t u → Boxed Y B t u := fun hB h => (hk.2 _ h.lt (by omega) (by simp)).trans h
    exact ⟨h1, v, k hlt he, ⟨k (by omega) hg.st, k (by omega) hg.t1, k (by omega) hg.t2, k (by omega) hg.l, k (by omega) hg.ok⟩, ho.keep hk (by omega)⟩
  case hJp =>
    rintro pre X l o o' ⟨h1, v, he, hg, ho⟩ _ hl hc
    exact ⟨h1, v, boxed_put o' he hl hc, ⟨boxed_put o' hg.st hl hc, boxed_put o' hg.t1 hl hc, boxed_put o' hg.t2 hl hc, boxed_put o' hg.l hl hc, boxed_put o' hg.ok hl hc⟩, ho.put o' hl hc⟩
  case hJxp =>
    rintro pre X l o o' ⟨h1, v, hg, ho⟩ _ hl hc
    exact ⟨h1, v, ⟨boxed_put o' hg.st hl hc, boxed_put o' hg.t1 hl hc, boxed_put o' hg.t2 hl hc, boxed_put o' hg.l hl hc, boxed_put o' hg.ok hl hc⟩, ho.put o' hl hc⟩
  case hJn =>
    rintro pre X u ⟨h1, v, he, hg, ho⟩
    exact ⟨h1, v, he.other (by omega) _, ⟨hg.st.other (by omega) _, hg.t1.other (by omega) _, hg.t2.other (by omega) _, hg.l.other (by omega) _, hg.ok.other (by omega) _⟩, ho.set (by omega) _⟩
  case hY =>
    rintro pre x W1 ⟨h1, v, he, hg, ho⟩ hsz hlen
    refine (gone1_calls Be _ _ _ x pre stop v (W.heap.size + 3) w.heap.size W1 hsz (by omega) he hg.l hg.ok hg.st ho (by omega) (by omega) (by omega) (by omega) (by omega) (by omega)).mono ?_
    rintro e W' ⟨rfl, ⟨v', c1, c2, c3, c4, c5⟩, c6, c7⟩
    refine ⟨!(overT pre.length stop), rfl, c6, c7, fun hc => ?_, fun hc => ?_⟩
    · have ho : overT pre.length stop = false := by simpa using hc
      rw [ho] at c1
      have hn : ¬ ((pre.length : Int) + 1 = stop) := fun e => by unfold overT at ho; rw [beq_iff_eq.2 e] at ho; cases ho
      exact ⟨by rw [List.length_append]; simp only [List.length_cons, List.length_nil]; omega, v', c1, ⟨c4, c7.boxed hg.t1 (by decide), c7.boxed hg.t2 (by decide), c2, c3⟩, c5⟩
    · have ho : overT pre.length stop = true := by simpa using hc
      have hn : (pre.length : Int) + 1 = stop := by unfold overT at ho; exact beq_iff_eq.1 ho
      exact ⟨⟨by omega, by rw [List.length_append]; simp only [List.length_cons, List.length_nil]; omega⟩, v', ⟨c4, c7.boxed hg.t1 (by decide), c7.boxed hg.t2 (by decide), c2, c3⟩, c5⟩
  case h0 =>
    exact ⟨by simp; omega, _, hbe, hb, Kd.R_nil _ _ _ _ _⟩
  · rintro e W' ⟨he, hB', h⟩
    refine ⟨he, hB', ?_⟩
    rcases h with ⟨h1, v, _, hg, ho⟩ | ⟨pre, hp, h1, v, hg, ho⟩
    · refine ⟨v, hg, ?_⟩
      have e : takeT xs stop = xs := by
        unfold takeT
        split
        · rw [List.take_of_length_le (by omega)]
        · rfl
      rw [e]
      exact Kd.R_lower ho (by omega)
    · refine ⟨v, hg, ?_⟩
      have e : takeT xs stop = pre := by
        unfold takeT
        rw [if_pos h1.1]
        obtain ⟨post, rfl⟩ := hp
        rw [List.take_append_of_le_length (by omega), List.take_of_length_le (by omega)]
      rw [e]
      exact Kd.R_lower ho (by omega)

/-- A row that lay there before keeps, while the other list grows. -/
abbrev Old (b n : Nat) (W : World) (v : Value) (xs : List S33) : Prop := Kd.R k33 33 W b (fun k => k < n) v xs

/-- The way through the other text, alive beside the first. -/
theorem other (b : Nat) (s : ByteArray) (stop : Int) (w : World) (hw : w.heap.size = b) (hT : Tabs w) (W : World) (Bm : Nat) (vl : Value) (ls : List S33) (hB : Below b w W) (hb : GBox b s stop W vl)
    (hm : Boxed W Bm 22 (.slice none 0 0)) (hm2 : b + 5 ≤ Bm) (ho : Old b Bm W vl ls) :
    Calls Tryd.prog 50 #[.func (.func 30) #[] #[.pointer (some ⟨Bm, 0, none⟩)], .pointer (some ⟨b + 1 + 1, 0, none⟩)] W fun e W' =>
      (∃ v, e = .returned v) ∧ Below b w W' ∧ GBox b s stop W' vl ∧ Old b Bm W' vl ls ∧ ∃ vm, Boxed W' Bm 22 vm ∧ TRow b W' vm toks3 := by
  have hlt := hm.lt
  subst hw
  refine (toks2_cl _ x2 w W hT hB _ hb.t2 toks3 (fun h => absurd h (by decide)) (fun _ => gives3) (by decide)
    (fun pre X => pre.length < 4 ∧ GBox w.heap.size s stop X vl ∧ Old w.heap.size Bm X vl ls ∧ ∃ v, Boxed X Bm 22 v ∧ TRow (W.heap.size + 3) X v pre)
    (fun pre X => pre.length = 4)
    ?hJk ?hJp ?hJxp ?hJn ?hY ?h0).mono ?_
  case hJk =>
    rintro pre X Y ⟨h1, hg, hl, v, hv, ho⟩ hk
    have k : ∀ {B : Nat} {t : TypeId} {u : Value}, B < W.heap.size → Boxed X B t u → Boxed Y B t u := fun hB h => (hk.2 _ h.lt (by omega) (by simp)).trans h
    exact ⟨h1, ⟨k (by omega) hg.st, k (by omega) hg.t1, k (by omega) hg.t2, k (by omega) hg.l, k (by omega) hg.ok⟩, Kd.R_step hl (fun i hi hlt2 => hk.2 i hlt2 (by omega) (by simp)), v, k hlt hv, ho.keep hk (by omega)⟩
  case hJp =>
    rintro pre X l o o' ⟨h1, hg, hl2, v, hv, ho⟩ hl hX hc
    exact ⟨h1, ⟨boxed_put o' hg.st hX hc, boxed_put o' hg.t1 hX hc, boxed_put o' hg.t2 hX hc, boxed_put o' hg.l hX hc, boxed_put o' hg.ok hX hc⟩, Kd.R_step hl2 (fun i hi _ => World.putObj_heap_other (by omega)), v, boxed_put o' hv hX hc, ho.put o' hX hc⟩
  case hJxp => exact fun pre X l o o' h _ _ _ => h
  case hJn =>
    rintro pre X u ⟨h1, hg, hl, v, hv, ho⟩
    exact ⟨h1, ⟨hg.st.other (by omega) _, hg.t1.other (by omega) _, hg.t2.other (by omega) _, hg.l.other (by omega) _, hg.ok.other (by omega) _⟩, Kd.R_step hl (fun i hi _ => Below.heap_setCell X ⟨W.heap.size + 1 + 1, 0, none⟩ u i (by show i ≠ W.heap.size + 1 + 1; omega)), v, hv.other (by omega) _, ho.set (by omega) _⟩
  case hY =>
    rintro pre x W1 ⟨h1, hg, hl, v, hv, ho⟩ hsz hlen
    refine (gone2_calls Bm _ x pre v (W.heap.size + 3) w.heap.size W1 hsz (by omega) hv ho (by omega) (by omega) (by omega)).mono ?_
    rintro e W' ⟨rfl, ⟨v', c1, c2⟩, c3, c4, c5⟩
    have hne : ∀ i, i < Bm → some i ≠ v.ownBlock := fun i hi e => by have := Kd.R_base ho i e.symm; omega
    have k : ∀ {B : Nat} {t : TypeId} {u : Value}, B < Bm → Boxed W1 B t u → Boxed W' B t u := fun hB h => (c5.2 _ h.lt (by omega) (hne _ hB)).trans h
    refine ⟨decide ((pre.length : Int) + 1 < 4), rfl, c3, c4, fun hc => ?_, fun hc => ?_⟩
    · have hn := of_decide_eq_true hc
      exact ⟨by rw [List.length_append]; simp only [List.length_cons, List.length_nil]; omega, ⟨k (by omega) hg.st, k (by omega) hg.t1, k (by omega) hg.t2, k (by omega) hg.l, k (by omega) hg.ok⟩, Kd.R_step hl (fun i hi hlt2 => c5.2 i hlt2 (by omega) (hne i hi)), v', c1, c2⟩
    · have hn := of_decide_eq_false hc
      rw [List.length_append]; simp only [List.length_cons, List.length_nil]; omega
  case h0 =>
    exact ⟨by decide, hb, ho, _, hm, Kd.R_nil _ _ _ _ _⟩
  · rintro e W' ⟨he, hB', h⟩
    rcases h with ⟨h1, hg, hl, v, hv, ho⟩ | ⟨pre, hp, h1⟩
    · exact ⟨he, hB', hg, hl, v, hv, Kd.R_lower ho (by omega)⟩
    · have := hp.length_le
      rw [h1] at this
      exact absurd this (by decide)

abbrev lit3 : Obj := .cells #[.int .i64 1, .int .i64 0, .string ⟨#[120]⟩, .int .i64 0, .int .i64 0, .int .i64 3, .int .i64 2, .string ⟨#[]⟩, .int .i64 2, .int .i64 0, .int .i64 8, .int .i64 3, .string ⟨#[]⟩, .int .i64 0, .int .i64 0] 33
theorem lit3_C (W : World) : Kd.C k33 (W.alloc lit3) (some ⟨W.heap.size, 0, none⟩) toks3.length toks3 := by
  have ho := World.ownsRow_lit (base := 0) (e := 33) (size := 5) W #[.int .i64 1, .int .i64 0, .string ⟨#[120]⟩, .int .i64 0, .int .i64 0, .int .i64 3, .int .i64 2, .string ⟨#[]⟩, .int .i64 2, .int .i64 0, .int .i64 8, .int .i64 3, .string ⟨#[]⟩, .int .i64 0, .int .i64 0] 3 (Nat.zero_le _) (by decide) (by rfl)
  have hr : Kd.R k33 33 (W.alloc lit3) 0 (fun _ => True) (.slice (some ⟨W.heap.size, 0, none⟩) 3 3) toks3 :=
    ⟨fun _ _ => trivial, _, ho, Reps.c5 (k33_mkM _ _ _ _) (Reps.c5 (k33_mkM _ _ _ _) (Reps.c5 (k33_mkM _ _ _ _) (Reps.none _ _)))⟩
  exact (Kd.R_reads' hr).2.2
theorem same3 : levylaw4_same.f 9 toks3 toks3 = some true := by kernel_rfl
theorem tokens_calls (s : ByteArray) (w : World) : Calls Tryd.prog 28 #[.string s] w fun e w' =>
    e = .returned (.func (.func 50) #[] #[.pointer (some ⟨w.heap.size, 0, none⟩)]) ∧ w' = w.alloc (.cells #[.string s] 9) := by
  go_enter Tryd.func28, Tryd.ntmps28
  go_wp2
  go_ret
  exact ⟨rfl, rfl⟩

set_option maxRecDepth 100000 in
set_option maxHeartbeats 8000000 in
theorem gone_walk (s : ByteArray) (stop : Int) (w : World) (hT : Tabs w) (xs : List S33) (hbig : 8000 < s.size → xs = []) (hG : ¬ 8000 < s.size → ∃ r, Gives (NXs s) 0 false xs r) (hN : xs.length ≤ 20000) :
    Calls Tryd.prog 17 #[.string s, .int .i64 stop, .int .i64 2] w fun e w' => ∃ v0_ : Value, e = .returned (.tuple #[v0_, .bool true]) ∧ Kd.R k33 33 w' w.heap.size (fun _ => True) v0_ (takeT xs stop) ∧ Below w.heap.size w w' := by
  go_enter Tryd.func17, Tryd.ntmps17
  have heq := eq_nil
  go_wp2_with (go_at_call 28; refine (tokens_calls _ _).mono ?_; rintro e w1 ⟨rfl, rfl⟩)
  have hB0 : Below w.heap.size w (((((w.alloc (.cells #[.int .i64 stop] 3)).alloc (.cells #[.string s] 9)).alloc (.cells #[.string x2] 9)).alloc (.cells #[.slice none 0 0] 22)).alloc (.cells #[.bool true] 4)) := by repeat (first | exact Below.refl _ _ | apply below_alloc)
  have hg0 : GBox w.heap.size s stop (((((w.alloc (.cells #[.int .i64 stop] 3)).alloc (.cells #[.string s] 9)).alloc (.cells #[.string x2] 9)).alloc (.cells #[.slice none 0 0] 22)).alloc (.cells #[.bool true] 4)) (.slice none 0 0) := by
    have h0 := Boxed.new w 3 (.int .i64 stop)
    have h1 := Boxed.new (w.alloc (.cells #[.int .i64 stop] 3)) 9 (.string s)
    have h2 := Boxed.new ((w.alloc (.cells #[.int .i64 stop] 3)).alloc (.cells #[.string s] 9)) 9 (.string x2)
    have h3 := Boxed.new (((w.alloc (.cells #[.int .i64 stop] 3)).alloc (.cells #[.string s] 9)).alloc (.cells #[.string x2] 9)) 22 (.slice none 0 0)
    have h4 := Boxed.new ((((w.alloc (.cells #[.int .i64 stop] 3)).alloc (.cells #[.string s] 9)).alloc (.cells #[.string x2] 9)).alloc (.cells #[.slice none 0 0] 22)) 4 (.bool true)
    simp only [World.size_alloc] at h1 h2 h3 h4
    exact ⟨(((h0.alloc _).alloc _).alloc _).alloc _, ((h1.alloc _).alloc _).alloc _, (h2.alloc _).alloc _, h3.alloc _, h4⟩
  obtain ⟨W0, hW0⟩ : ∃ W0, (((((w.alloc (.cells #[.int .i64 stop] 3)).alloc (.cells #[.string s] 9)).alloc (.cells #[.string x2] 9)).alloc (.cells #[.slice none 0 0] 22)).alloc (.cells #[.bool true] 4)) = W0 := ⟨_, rfl⟩
  rw [hW0] at hB0 hg0 ⊢
  clear hW0
  go_loopw [12] (fun p wr => ∃ (i : Nat) (v : Value), p = .int .i64 (i : Int) ∧ i ≤ 2 ∧ Below w.heap.size w wr ∧ GBox w.heap.size s stop wr v ∧ TRow w.heap.size wr v (if i = 0 then [] else takeT xs stop)) (fun p wr => (2 - intOf p).toNat)
  case atStart => exact ⟨0, .slice none 0 0, rfl, by omega, hB0, hg0, Kd.R_nil _ _ _ _ _⟩
  case round =>
    obtain ⟨i, v, rfl, hi, hBr, hgr, hor⟩ := hrel
    by_cases hc : i = 2
    · subst hc
      have hor2 : TRow w.heap.size wr v (takeT xs stop) := hor
      clear hor hB0 hg0
      have hm := Boxed.new wr 22 (.slice none 0 0)
      have hb2 := hgr.ok.lt
      have HC := Aside0.mk (other w.heap.size s stop w rfl hT (wr.alloc (.cells #[.slice none 0 0] 22)) wr.heap.size v (takeT xs stop) (below_alloc hBr _) ⟨hgr.st.alloc _, hgr.t1.alloc _, hgr.t2.alloc _, hgr.l.alloc _, hgr.ok.alloc _⟩ hm (by omega) (Kd.R_alloc (Kd.R_mono (Kd.R_bound hor2) (fun k hk => hk.2.2.1)) _))
      clear hgr hBr hor2 hm hb2 hT
      go_wp2_with (go_at_call 50; refine HC.out.mono ?_; rintro e W2 ⟨⟨vv, rfl⟩, hB2, hg2, ho2, vm, hm2, hom⟩; have LB := Aside0.mk hg2.l; have OB := Aside0.mk hg2.ok; have MB := Aside0.mk hm2; have MR := Aside0.mk hom; have LR := Aside0.mk ho2; have BB := Aside0.mk hB2; clear hg2 hm2 hom ho2 hB2 HC)
      obtain ⟨A1, c1, e1⟩ := Kd.R_slice LR.out
      subst e1
      obtain ⟨A3, c3, e3⟩ := Kd.R_slice MR.out
      subst e3
      obtain ⟨n1, hn1⟩ : ∃ n1, n1 = (takeT xs stop).length := ⟨_, rfl⟩
      rw [← hn1] at LB LR
      have HS3 : Aside0 (Calls Tryd.prog 14 #[.slice A3 3 c3, .slice (some ⟨W2.heap.size, 0, none⟩) 3 3] (W2.alloc lit3).drew fun e w' => e = .returned (.bool true) ∧ Drawn0 (W2.alloc lit3).drew w') :=
        ⟨levylaw4_same.calls 9 A3 c3 toks3 (some ⟨W2.heap.size, 0, none⟩) 3 toks3 true ((W2.alloc lit3).drew) (Kd.R_reads' (Kd.R_drew (Kd.R_alloc MR.out lit3))).2.2 (Kd.R_reads' (Kd.R_drew (Kd.R_alloc MR.out lit3))).2.1 (Kd.C_drew (lit3_C W2)) (Nat.le_refl _) same3⟩
      refine start_ (n := 12) (S := fun w' => w'.cell? ⟨w.heap.size + 1 + 1 + 1, 0, none⟩ = some (.slice A1 n1 c1) ∧ w'.cell? ⟨w.heap.size + 1 + 1 + 1 + 1, 0, none⟩ = some (.bool true) ∧ w'.cell? ⟨wr.heap.size, 0, none⟩ = some (.slice A3 3 c3)) (ds := []) #[false, false, false, false, false, false, false, false, false, false, false, false] (by kernel_rfl) rfl rfl ⟨(Boxed.cell (W := W2.drew) LB.out), (Boxed.cell (W := W2.drew) OB.out), (Boxed.cell (W := W2.drew) MB.out)⟩ (fun hHeld => ?_)
      refine take_ (i := 0) (N := some 35) (v := ?_) (a' := ?_) #[true, false, false, false, false, false, false, false, false, false, false, false] rfl rfl (by kernel_rfl) (fun _ _ _ h => h) (Or.inl ⟨by rfl, ?_⟩) hHeld ?_ ?_
      rotate_left
      · rintro w' ⟨s0, s1, s2⟩
        go_simp
        with_reducible rfl
      rotate_left
      · simp only [Act.put, List.setIfInBounds_toArray, List.set_cons_zero, List.set_cons_succ, i64_w, i32_w]
        rfl
      refine take_ (i := 1) (N := some 36) (v := ?_) (a' := ?_) #[true, true, false, false, false, false, false, false, false, false, false, false] rfl rfl (by kernel_rfl) (fun _ _ _ h => h) (Or.inl ⟨by rfl, ?_⟩) hHeld ?_ ?_
      rotate_left
      · rintro w' ⟨s0, s1, s2⟩
        go_simp
        with_reducible rfl
      rotate_left
      · simp only [Act.put, List.setIfInBounds_toArray, List.set_cons_zero, List.set_cons_succ, i64_w, i32_w]
        rfl
      refine pure_ (i := 2) (N := some 37) (v := ?_) (a' := ?_) #[true, true, true, false, false, false, false, false, false, false, false, false] rfl rfl (by kernel_rfl) (fun _ _ _ h => h) (Or.inl ⟨by rfl, ?_⟩) ?_ ?_
      rotate_left
      · intro w'
        go_simp
        with_reducible rfl
      rotate_left
      · simp only [Act.put, List.setIfInBounds_toArray, List.set_cons_zero, List.set_cons_succ, i64_w, i32_w]
        rfl
      refine pure_ (i := 4) (N := some 39) (v := ?_) (a' := ?_) #[true, true, true, false, true, false, false, false, false, false, false, false] rfl rfl (by kernel_rfl) (fun _ _ _ h => h) (Or.inl ⟨by rfl, ?_⟩) ?_ ?_
      rotate_left
      · intro w'
        go_simp
        with_reducible rfl
      rotate_left
      · simp only [Act.put, List.setIfInBounds_toArray, List.set_cons_zero, List.set_cons_succ, i64_w, i32_w]
        rfl
      refine pure_ (i := 5) (N := some 40) (v := ?_) (a' := ?_) #[true, true, true, false, true, true, false, false, false, false, false, false] rfl rfl (by kernel_rfl) (fun _ _ _ h => h) (Or.inl ⟨by rfl, ?_⟩) ?_ ?_
      rotate_left
      · intro w'
        go_simp
        with_reducible rfl
      rotate_left
      · simp only [Act.put, List.setIfInBounds_toArray, List.set_cons_zero, List.set_cons_succ, i64_w, i32_w]
        rfl
      refine pure_ (i := 6) (N := some 41) (v := ?_) (a' := ?_) #[true, true, true, false, true, true, true, false, false, false, false, false] rfl rfl (by kernel_rfl) (fun _ _ _ h => h) (Or.inl ⟨by rfl, ?_⟩) ?_ ?_
      rotate_left
      · intro w'
        go_simp
        with_reducible rfl
      rotate_left
      · simp only [Act.put, List.setIfInBounds_toArray, List.set_cons_zero, List.set_cons_succ, i64_w, i32_w]
        rfl
      refine take_ (i := 3) (N := some 38) (v := ?_) (a' := ?_) #[true, true, true, true, true, true, true, false, false, false, false, false] rfl rfl (by kernel_rfl) (fun _ _ _ h => h) (Or.inl ⟨by rfl, ?_⟩) hHeld ?_ ?_
      rotate_left
      · rintro w' ⟨s0, s1, s2⟩
        go_simp
        with_reducible rfl
      rotate_left
      · simp only [Act.put, List.setIfInBounds_toArray, List.set_cons_zero, List.set_cons_succ, i64_w, i32_w]
        rfl
      refine one_ (i := 7) (N := some 42) #[true, true, true, true, true, true, true, true, false, false, false, false] rfl rfl (by kernel_rfl) (by decide) (fun K hK => ?_)
      refine value_ (w1 := ?_) (v := ?_) (by rfl) rfl ?_ ?_
      rotate_left 2
      · go_simp
        constructor
        · rfl
        · rfl
      refine hK.out _ _ ⟨(Boxed.cell (W := (W2.alloc lit3).drew) (Boxed.alloc (W := W2) LB.out _)), (Boxed.cell (W := (W2.alloc lit3).drew) (Boxed.alloc (W := W2) OB.out _)), (Boxed.cell (W := (W2.alloc lit3).drew) (Boxed.alloc (W := W2) MB.out _))⟩ (fun hHeld => ?_)
      clear hK K
      refine norm_ (a' := ?_) ?_ ?_
      rotate_left
      · show Act.put _ (some 42) _ = _
        simp only [Act.put, List.setIfInBounds_toArray, List.set_cons_zero, List.set_cons_succ, i64_w, i32_w]
        rfl
      refine one_ (i := 8) (N := some 43) #[true, true, true, true, true, true, true, true, true, false, false, false] rfl rfl (by kernel_rfl) (by decide) (fun K hK => ?_)
      refine goes_ Tryd.func14 (by kernel_rfl) rfl #[.slice A3 3 c3, .slice (some ⟨W2.heap.size, 0, none⟩) 3 3] (by rfl) rfl rfl (by simp only [List.map_toArray, List.map_cons, List.map_nil]; rfl) ?_
      with_reducible refine (HS3.out).mono ?_
      rintro e w4 ⟨rfl, ⟨m4, rfl⟩⟩
      refine ⟨_, rfl, ?_⟩
      refine hK.out _ _ ⟨(Boxed.cell (W := (W2.alloc lit3).drew.drewN m4) (Boxed.alloc (W := W2) LB.out _)), (Boxed.cell (W := (W2.alloc lit3).drew.drewN m4) (Boxed.alloc (W := W2) OB.out _)), (Boxed.cell (W := (W2.alloc lit3).drew.drewN m4) (Boxed.alloc (W := W2) MB.out _))⟩ (fun hHeld => ?_)
      clear hK K
      refine norm_ (a' := ?_) ?_ ?_
      rotate_left
      · show Act.put _ (some 43) _ = _
        simp only [Act.put, List.setIfInBounds_toArray, List.set_cons_zero, List.set_cons_succ, i64_w, i32_w]
        rfl
      refine pure_ (i := 9) (N := some 44) (v := ?_) (a' := ?_) #[true, true, true, true, true, true, true, true, true, true, false, false] rfl rfl (by kernel_rfl) (fun _ _ _ h => h) (Or.inl ⟨by rfl, ?_⟩) ?_ ?_
      rotate_left
      · intro w'
        go_simp
        with_reducible rfl
      rotate_left
      · simp only [Act.put, List.setIfInBounds_toArray, List.set_cons_zero, List.set_cons_succ, i64_w, i32_w]
        rfl
      refine pure_ (i := 10) (N := some 6) (v := ?_) (a' := ?_) #[true, true, true, true, true, true, true, true, true, true, true, false] rfl rfl (by kernel_rfl) (fun _ _ _ h => h) (Or.inl ⟨by rfl, ?_⟩) ?_ ?_
      rotate_left
      · intro w'
        go_simp
        with_reducible rfl
      rotate_left
      · simp only [Act.put, List.setIfInBounds_toArray, List.set_cons_zero, List.set_cons_succ, i64_w, i32_w]
        rfl
      refine pure_ (i := 11) (N := some 7) (v := ?_) (a' := ?_) #[true, true, true, true, true, true, true, true, true, true, true, true] rfl rfl (by kernel_rfl) (fun _ _ _ h => h) (Or.inl ⟨by rfl, ?_⟩) ?_ ?_
      rotate_left
      · intro w'
        go_simp
        with_reducible rfl
      rotate_left
      · simp only [Act.put, List.setIfInBounds_toArray, List.set_cons_zero, List.set_cons_succ, i64_w, i32_w]
        rfl
      refine done_ (by kernel_rfl) ?_
      go_wp2
      subst hn1
      exact bodyPost_ret (results_tmp2 rfl _ _ _) rfl ⟨_, rfl, Kd.R_drewN (Kd.R_drew (Kd.R_alloc (Kd.R_mono LR.out (fun _ _ => trivial)) _)) _, pw_below_drewN (below_drew1 (below_alloc BB.out _)) _⟩
    · have hlt : ((i : Int) < 2) = True := eq_true (by omega)
      have hb1 := hgr.l.lt
      have hb2 := hgr.ok.lt
      have hne : w.heap.size + 1 + 1 + 1 < wr.heap.size := hb1
      have hsz : (wr.setCell ⟨w.heap.size + 1 + 1 + 1, 0, none⟩ (.slice none 0 0)).heap.size = wr.heap.size := by simp [World.setCell]
      have hbe : Boxed ((wr.setCell ⟨w.heap.size + 1 + 1 + 1, 0, none⟩ (.slice none 0 0)).alloc (.cells #[.bool false] 4)) wr.heap.size 4 (.bool false) := by
        have h := Boxed.new (wr.setCell ⟨w.heap.size + 1 + 1 + 1, 0, none⟩ (.slice none 0 0)) 4 (.bool false)
        rwa [hsz] at h
      have HC := Aside0.mk (once w.heap.size s stop w rfl hT xs hbig hG hN _ wr.heap.size (below_alloc (hBr.setCell (p := ⟨w.heap.size + 1 + 1 + 1, 0, none⟩) (by show w.heap.size ≤ w.heap.size + 1 + 1 + 1; omega) _) _)
        ⟨(hgr.st.other (by omega) _).alloc _, (hgr.t1.other (by omega) _).alloc _, (hgr.t2.other (by omega) _).alloc _, (hgr.l.set _).alloc _, (hgr.ok.other (by omega) _).alloc _⟩ hbe (by omega))
      have cl := hgr.l.cell
      have fl := hgr.l.frozen
      clear hgr hBr hor hB0 hg0 hbe hsz
      go_wp2_with (go_at_call 50; refine HC.out.mono ?_; rintro e W2 ⟨⟨vv, rfl⟩, hB2, v2, hg2, ho2⟩; clear HC; have HB2 := Aside0.mk hB2; have HG2 := Aside0.mk hg2; have HO2 := Aside0.mk ho2; clear hB2 hg2 ho2)
      refine ⟨⟨i + 1, v2, congrArg (Value.int .i64) (by omega), by omega, HB2.out, HG2.out, ?_⟩, ?_⟩
      · rw [if_neg (by omega)]; exact HO2.out
      · simp only [intOf]; omega

theorem levylaw4_gone.calls (a0 : ByteArray) (a1 a2 : Int) (r1 : List S33) (r2 : Bool) (w : World) (hT : Tabs w) (h : levylaw4_gone.f a0 a1 a2 = some (r1, r2)) :
    Calls Tryd.prog 17 #[.string a0, .int .i64 a1, .int .i64 a2] w fun e w' => ∃ v0_ : Value, e = .returned (.tuple #[v0_, .bool r2]) ∧ Kd.R k33 33 w' w.heap.size (fun _ => True) v0_ r1 ∧ Below w.heap.size w w' := by
  unfold levylaw4_gone.f at h
  split at h
  · next h2 =>
    subst h2
    split at h
    · next hs =>
      cases h
      have e : takeT ([] : List S33) a1 = [] := by unfold takeT; split <;> simp
      have := gone_walk a0 a1 w hT [] (fun _ => rfl) (fun h => absurd hs h) (by simp)
      rw [e] at this
      exact this
    · next hs =>
      obtain ⟨q, hq, e⟩ := Option.bind_eq_some_iff.1 h
      cases e
      obtain ⟨g1, g2⟩ := runG_gives _ _ _ _ hq
      exact gone_walk a0 a1 w hT q.1 (fun h => absurd h hs) (fun _ => ⟨_, g1⟩) (by omega)
  · cases h
end Go.Proofs.YtidbcenbcllfnaaDoor.PA
