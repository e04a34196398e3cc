/-
  Parts of a payment in memory; what split.Try's own function has caught.
-/
import Derived.Test.YthefgdehfgkhhaaGreatK01
import Derived.Test.YthefgdehfgkhhaaGreatK15
import Derived.Test.YthefgdehfgkhhaaGreatK16
namespace Go.Proofs.YthefgdehfgkhhaaGreat
open Go.RowKit Go.Shelf
set_option linter.unusedVariables false
set_option linter.unusedSimpArgs false
/-- The cells of a part read as the part. -/
def PV (w : World) (a : Array Value) (p : Prt) : Prop :=
 ∃ Aw nw cw As ns cs At nt ct, a = #[.int .i64 p.a, .slice Aw nw cw, .slice As ns cs, .slice At nt ct] ∧ RE w Aw nw cw p.way ∧ RI w As ns cs p.s ∧ RI w At nt ct p.t ∧ nw ≤ 8 ∧ ns = nw
theorem PV.size {w : World} {a : Array Value} {p : Prt} (h : PV w a p) : a.size = 4 := by
 obtain ⟨Aw, nw, cw, As, ns, cs, At, nt, ct, rfl, _⟩ := h
 rfl
theorem PV.stay {w w' : World} {a : Array Value} {p : Prt} (h : PV w a p) (hk : ∀ (T : TypeId) (b : Nat) cs fr, T = 56 ∨ T = 3 → w.heap[b]? = some (.cells cs T fr) → w'.heap[b]? = w.heap[b]?) : PV w' a p := by
 obtain ⟨Aw, nw, cw, As, ns, cs, At, nt, ct, e, r1, r2, r3, hn⟩ := h
 exact ⟨Aw, nw, cw, As, ns, cs, At, nt, ct, e, r1.stay fun b cs fr hh => hk _ b cs fr (.inl rfl) hh, r2.stay fun b cs fr hh => hk _ b cs fr (.inr rfl) hh, r3.stay fun b cs fr hh => hk _ b cs fr (.inr rfl) hh, hn⟩
theorem PV.on {w w' : World} {a : Array Value} {p : Prt} (h : PV w a p) (hb : Below w.heap.size w w') : PV w' a p := h.stay fun _ b _ _ _ hh => hb.block b (blk_lt hh)
theorem PV.gr {M : Nat → Prop} {w w' : World} {a : Array Value} {p : Prt} (h : PV w a p) (hg : Gr M w w') (hM : ∀ (T : TypeId) (b : Nat) cs fr, T = 56 ∨ T = 3 → w.heap[b]? = some (.cells cs T fr) → ¬ M b) : PV w' a p :=
 h.stay fun T b cs fr hT hh => hg.block b (blk_lt hh) (hM T b cs fr hT hh)
/-- A row of parts. -/
def RP (w : World) (A : Option Addr) (n c : Nat) (ps : List Prt) : Prop :=
 ∃ l, Rg 51 4 w A n c l ∧ l.length = ps.length ∧ ∀ (i : Nat) (a : Array Value) (p : Prt), l[i]? = some a → ps[i]? = some p → PV w a p
theorem RP.len {w : World} {A : Option Addr} {n c : Nat} {ps : List Prt} (h : RP w A n c ps) : ps.length = n := by
 obtain ⟨l, r, e, _⟩ := h
 rw [← e, r.len]
theorem RP.stay {w w' : World} {A : Option Addr} {n c : Nat} {ps : List Prt} (h : RP w A n c ps) (hk : ∀ (T : TypeId) (b : Nat) cs fr, T = 51 ∨ (T = 56 ∨ T = 3) → w.heap[b]? = some (.cells cs T fr) → w'.heap[b]? = w.heap[b]?) : RP w' A n c ps := by
 obtain ⟨l, r, e, hp⟩ := h
 exact ⟨l, r.stay fun b cs fr hh => hk _ b cs fr (.inl rfl) hh, e, fun i a p h1 h2 => (hp i a p h1 h2).stay fun T b cs fr hT hh => hk T b cs fr (.inr hT) hh⟩
theorem RP.on {w w' : World} {A : Option Addr} {n c : Nat} {ps : List Prt} (h : RP w A n c ps) (hb : Below w.heap.size w w') : RP w' A n c ps := h.stay fun _ b _ _ _ hh => hb.block b (blk_lt hh)
theorem RP.gr {M : Nat → Prop} {w w' : World} {A : Option Addr} {n c : Nat} {ps : List Prt} (h : RP w A n c ps) (hg : Gr M w w') (hM : ∀ (T : TypeId) (b : Nat) cs fr, T = 51 ∨ (T = 56 ∨ T = 3) → w.heap[b]? = some (.cells cs T fr) → ¬ M b) : RP w' A n c ps :=
 h.stay fun T b cs fr hT hh => hg.block b (blk_lt hh) (hM T b cs fr hT hh)
theorem RP.nil (w : World) : RP w none 0 0 [] := ⟨[], Rg.nil w, rfl, fun i a p h => by simp at h⟩
/-! What turns: the map of a mind, and a box of a fraction. -/
theorem map_ne {w : World} {p b n : Nat} {L : Notes} (hM : MindAt w p b n L) {g : Nat} {cs : Array Value} {T : TypeId} {fr : Nat × Nat} (hh : w.heap[g]? = some (.cells cs T fr)) : g ≠ b := by
 obtain ⟨es, cl, hm⟩ := hM.isMap
 intro e
 subst e
 rw [hm] at hh
 simp at hh
theorem blk_ne {w : World} {g g' : Nat} {T T' : TypeId} {cs cs' : Array Value} {fr : Nat × Nat} (hB : Blk w g' T' cs') (hh : w.heap[g]? = some (.cells cs T fr)) (hT : T ≠ T') : g ≠ g' := by
 intro e
 subst e
 unfold Blk at hB
 rw [hB] at hh
 injection hh with hh
 injection hh with _ ht
 exact hT ht.symm
theorem MindAt.nocell {w : World} {p b n : Nat} {L : Notes} (hM : MindAt w p b n L) (o : Nat) (d : Int) : w.cell? ⟨b, o, none⟩ ≠ some (.int .u32 d) := by
 obtain ⟨es, cl, hm⟩ := hM.isMap
 simp [World.cell?, hm]
theorem frac_nocell {w : World} {g : Nat} {t : TypeId} {A B : Option Addr} {n c m d : Nat} (k : Blk w g t #[.slice A n c, .slice B m d]) (o : Nat) (z : Int) : w.cell? ⟨g, o, none⟩ ≠ some (.int .u32 z) := by
 rw [k.cell o]
 match o with
 | 0 => simp
 | 1 => simp
 | n + 2 => simp
/-- The boxes. -/
structure TryEnv where
 p : Nat
 b : Nat
 bg : Nat
 bm : Nat
 bf : Nat
 bt : Nat
 bx : Nat
 bo : Nat
 x : Int
 fr : Int
 td : Int
 Ag : Option Addr
 ng : Nat
 cg : Nat
def TryEnv.caps (e : TryEnv) : Array Value := #[.pointer (some ⟨e.bg, 0, none⟩), .pointer (some ⟨e.bm, 0, none⟩), .pointer (some ⟨e.bf, 0, none⟩), .pointer (some ⟨e.bt, 0, none⟩), .pointer (some ⟨e.bx, 0, none⟩), .pointer (some ⟨e.bo, 0, none⟩)]
structure TryAt (w : World) (e : TryEnv) (es : List Ed) : Prop where
 g : w.cell? ⟨e.bg, 0, none⟩ = some (.slice e.Ag e.ng e.cg)
 m : w.cell? ⟨e.bm, 0, none⟩ = some (.pointer (some ⟨e.p, 0, none⟩))
 f : w.cell? ⟨e.bf, 0, none⟩ = some (.int .i64 e.fr)
 t : w.cell? ⟨e.bt, 0, none⟩ = some (.int .i64 e.td)
 x : w.cell? ⟨e.bx, 0, none⟩ = some (.int .i64 e.x)
 row : RE w e.Ag e.ng e.cg es
 lt : (e.bg < w.heap.size ∧ e.bm < w.heap.size) ∧ e.bf < w.heap.size ∧ e.bt < w.heap.size ∧ e.bx < w.heap.size
 nb : (e.bg ≠ e.b ∧ e.bm ≠ e.b) ∧ e.bf ≠ e.b ∧ e.bt ≠ e.b ∧ e.bx ≠ e.b
 no : (e.bg ≠ e.bo ∧ e.bm ≠ e.bo) ∧ e.bf ≠ e.bo ∧ e.bt ≠ e.bo ∧ e.bx ≠ e.bo
theorem TryAt.gr {w w' : World} {e : TryEnv} {g : List Ed} {p n : Nat} {L : Notes} (h : TryAt w e g) (hM : MindAt w p e.b n L) (hq : ∃ cs, Blk w e.bo 34 cs) (hg : Gr (fun k => k = e.b ∨ k = e.bo) w w') : TryAt w' e g := by
 obtain ⟨⟨l1, l2⟩, l3, l4, l5⟩ := h.lt
 obtain ⟨⟨n1, n2⟩, n3, n4, n5⟩ := h.nb
 obtain ⟨⟨o1, o2⟩, o3, o4, o5⟩ := h.no
 have hs := hg.size
 refine ⟨(hg.cell l1 (by omega)).trans h.g, (hg.cell l2 (by omega)).trans h.m, (hg.cell l3 (by omega)).trans h.f, (hg.cell l4 (by omega)).trans h.t, (hg.cell l5 (by omega)).trans h.x, Rg.gr h.row hg ?_, by omega, h.nb, h.no⟩
 obtain ⟨cs', k⟩ := hq
 rintro b cs fr hh (e | e)
 ·exact map_ne hM hh e
 ·exact blk_ne k hh (by decide) e
theorem TryAt.on {w w' : World} {e : TryEnv} {g : List Ed} (h : TryAt w e g) (hb : Below w.heap.size w w') : TryAt w' e g := by
 obtain ⟨⟨l1, l2⟩, l3, l4, l5⟩ := h.lt
 have hs := hb.size
 exact ⟨(hb.cell l1).trans h.g, (hb.cell l2).trans h.m, (hb.cell l3).trans h.f, (hb.cell l4).trans h.t, (hb.cell l5).trans h.x, h.row.on hb, by omega, h.nb, h.no⟩
/-- The box bo holds the fraction q. -/
def FracAt (w : World) (g : Nat) (q : Rat) (b : Nat) : Prop := ∃ A n c B m d, Blk w g 34 #[.slice A n c, .slice B m d] ∧ IsQ w (.agg #[.slice A n c, .slice B m d]) q b
theorem FracAt.on {w w' : World} {g : Nat} {q : Rat} {b : Nat} (h : FracAt w g q b) (hb : Below w.heap.size w w') : FracAt w' g q b := by
 obtain ⟨A, n, c, B, m, d, k, I⟩ := h
 exact ⟨A, n, c, B, m, d, k.below hb k.lt, I.on hb⟩
theorem FracAt.mind {w w' : World} {g : Nat} {q : Rat} {b p bm n : Nat} {L : Notes} (h : FracAt w g q b) (hM : MindAt w p bm n L) (hg : Gr (· = bm) w w') : FracAt w' g q b := by
 obtain ⟨A, n, c, B, m, d, k, I⟩ := h
 exact ⟨A, n, c, B, m, d, k.gr hg (fun e => map_ne hM k e), I.gr1 hg (hM.nocell)⟩
theorem FracAt.lt {w : World} {g : Nat} {q : Rat} {b : Nat} (h : FracAt w g q b) : g < w.heap.size := by
 obtain ⟨_, _, _, _, _, _, k, _⟩ := h
 exact k.lt
theorem FracAt.blk {w : World} {g : Nat} {q : Rat} {b : Nat} (h : FracAt w g q b) : ∃ cs, Blk w g 34 cs := by
 obtain ⟨_, _, _, _, _, _, k, _⟩ := h
 exact ⟨_, k⟩
theorem frac_set {W : World} {G : Nat} {t : TypeId} {A0 B0 : Option Addr} {n0 c0 m0 d0 : Nat} {A B : Option Addr} {n c m d b : Nat} {q : Rat} (hB : Blk W G t #[.slice A0 n0 c0, .slice B0 m0 d0]) (I : IsQ W (.agg #[.slice A n c, .slice B m d]) q b) :
 let V := (W.setCell ⟨G, 0, none⟩ (.slice A n c)).setCell ⟨G, 1, none⟩ (.slice B m d)
 Blk V G t #[.slice A n c, .slice B m d] ∧ IsQ V (.agg #[.slice A n c, .slice B m d]) q b ∧ Gr (· = G) W V := by
 intro V
 have hg : Gr (· = G) W V := ((Gr.refl (· = G) W).setCell (g := G) (i := 0) (fun _ => show G = G from rfl) _).setCell (g := G) (i := 1) (fun _ => show G = G from rfl) _
 exact ⟨(hB.set_ 0 _).set_ 1 _, I.gr1 hg (frac_nocell hB), hg⟩
end Go.Proofs.YthefgdehfgkhhaaGreat
namespace Go.Proofs.YthefgdehfgkhhaaGreat
open Go.RowKit Go.Shelf
set_option linter.unusedVariables false
set_option linter.unusedSimpArgs false
attribute [local go_sem] Oper.semAt_some
theorem set9 (cur : Array Value) (p : Nat) (v0 v1 v2 v3 v4 v5 v6 v7 v8 : Value) (hp : p + 9 ≤ cur.size) (q : Nat) :
 (((((((((cur.setIfInBounds p v0).setIfInBounds (p + 1) v1).setIfInBounds (p + 2) v2).setIfInBounds (p + 3) v3).setIfInBounds (p + 4) v4).setIfInBounds (p + 5) v5).setIfInBounds (p + 6) v6).setIfInBounds (p + 7) v7).setIfInBounds (p + 8) v8)[q]? = if p ≤ q ∧ q < p + 9 then #[v0, v1, v2, v3, v4, v5, v6, v7, v8][q - p]? else cur[q]? := by
 by_cases h : p ≤ q ∧ q < p + 9
 ·rw [if_pos h]
  obtain ⟨k, rfl⟩ : ∃ k, q = p + k := ⟨q - p, by omega⟩
  rw [Nat.add_sub_cancel_left]
  have hk : k < 9 := by omega
  have : k = 0 ∨ k = 1 ∨ k = 2 ∨ k = 3 ∨ k = 4 ∨ k = 5 ∨ k = 6 ∨ k = 7 ∨ k = 8 := by omega
  rcases this with rfl | this
  ·simp only [Nat.add_zero]
   repeat rw [Array.getElem?_setIfInBounds_ne (by omega)]
   rw [Array.getElem?_setIfInBounds_self_of_lt (by omega)]
   rfl
  ·rcases this with rfl | rfl | rfl | rfl | rfl | rfl | rfl | rfl <;> (repeat rw [Array.getElem?_setIfInBounds_ne (by omega)]) <;> rw [Array.getElem?_setIfInBounds_self_of_lt (by simp only [Array.size_setIfInBounds]; omega)] <;> rfl
 ·rw [if_neg h]
  repeat rw [Array.getElem?_setIfInBounds_ne (by omega)]
/-- Block g holds the rows, ahead of what is spare. -/
def RowE (w : World) (g : Nat) (es : List Ed) : Prop := ∃ cur, w.heap[g]? = some (.cells cur 56 (0, 0)) ∧ es.length * 9 ≤ cur.size ∧ ∀ (i : Nat) (e : Ed), es[i]? = some e → ∀ (j : Nat) (v : Value), e.cs[j]? = some v → cur[i * 9 + j]? = some v
def put9 (w : World) (g p : Nat) (e : Ed) : World :=
 ((((((((w.setCell ⟨g, p, none⟩ (.int .i64 e.f)).setCell ⟨g, p + 1, none⟩ (.int .i64 e.t)).setCell ⟨g, p + 2, none⟩ (.int .i64 e.c)).setCell ⟨g, p + 3, none⟩ (.int .i64 e.r)).setCell ⟨g, p + 4, none⟩ (.int .i64 e.p0)).setCell ⟨g, p + 5, none⟩ (.int .i64 e.p1)).setCell ⟨g, p + 6, none⟩ (.int .i64 e.p2)).setCell ⟨g, p + 7, none⟩ (.int .i64 e.p3)).setCell ⟨g, p + 8, none⟩ (.int .i64 e.p4)
theorem put9_gr (w : World) (g p : Nat) (e : Ed) : Gr (· = g) w (put9 w g p e) := by
 unfold put9
 have h0 := Gr.refl (· = g) w
 have h1 := h0.setCell (g := g) (i := p) (fun _ => show g = g from rfl) (.int .i64 e.f)
 have h2 := h1.setCell (g := g) (i := p + 1) (fun _ => show g = g from rfl) (.int .i64 e.t)
 have h3 := h2.setCell (g := g) (i := p + 2) (fun _ => show g = g from rfl) (.int .i64 e.c)
 have h4 := h3.setCell (g := g) (i := p + 3) (fun _ => show g = g from rfl) (.int .i64 e.r)
 have h5 := h4.setCell (g := g) (i := p + 4) (fun _ => show g = g from rfl) (.int .i64 e.p0)
 have h6 := h5.setCell (g := g) (i := p + 5) (fun _ => show g = g from rfl) (.int .i64 e.p1)
 have h7 := h6.setCell (g := g) (i := p + 6) (fun _ => show g = g from rfl) (.int .i64 e.p2)
 have h8 := h7.setCell (g := g) (i := p + 7) (fun _ => show g = g from rfl) (.int .i64 e.p3)
 exact h8.setCell (g := g) (i := p + 8) (fun _ => show g = g from rfl) (.int .i64 e.p4)
theorem put9_blk {w : World} {g p : Nat} {T : TypeId} {cur : Array Value} (e : Ed) (h : Blk w g T cur) (hp : p + 9 ≤ cur.size) : ∃ cur', Blk (put9 w g p e) g T cur' ∧ cur'.size = cur.size ∧ ∀ q : Nat, cur'[q]? = if p ≤ q ∧ q < p + 9 then e.cs[q - p]? else cur[q]? := by
 refine ⟨_, ((((((((h.set_ p (.int .i64 e.f)).set_ (p + 1) (.int .i64 e.t)).set_ (p + 2) (.int .i64 e.c)).set_ (p + 3) (.int .i64 e.r)).set_ (p + 4) (.int .i64 e.p0)).set_ (p + 5) (.int .i64 e.p1)).set_ (p + 6) (.int .i64 e.p2)).set_ (p + 7) (.int .i64 e.p3)).set_ (p + 8) (.int .i64 e.p4), ?_, fun q => ?_⟩
 ·simp only [Array.size_setIfInBounds]
 ·exact set9 cur p _ _ _ _ _ _ _ _ _ hp q
theorem RowE.put {w : World} {g : Nat} {es : List Ed} (h : RowE w g es) {i : Nat} (hi : i < es.length) (e : Ed) : RowE (put9 w g (i * 9) e) g (es.set i e) := by
 obtain ⟨cur, hh, hs, hc⟩ := h
 obtain ⟨cur', hB, hsz, hget⟩ := put9_blk (p := i * 9) e (show Blk w g _ cur from hh) (by omega)
 refine ⟨cur', hB, by rw [hsz, List.length_set]; exact hs, fun i' e' he' j v hv => ?_⟩
 rw [hget]
 have hj : j < 9 := by
  have := (Array.getElem?_eq_some_iff.1 hv).1
  have h9 : e'.cs.size = 9 := rfl
  omega
 clear hB hsz
 generalize w = w at *
 by_cases e1 : i = i'
 ·subst e1
  rw [if_pos (by omega), Nat.add_sub_cancel_left]
  rw [List.getElem?_set_self hi] at he'
  injection he' with he'
  subst he'
  exact hv
 ·rw [if_neg (by omega)]
  rw [List.getElem?_set_ne e1] at he'
  exact hc i' e' he' j v hv
theorem RowE.drew {w : World} {g : Nat} {es : List Ed} (h : RowE w g es) : RowE w.drew g es := h
theorem RowE.re {w : World} {g : Nat} {es : List Ed} (h : RowE w g es) {n c : Nat} (hn : es.length = n) (hc : n ≤ c) : RE w (some ⟨g, 0, none⟩) n c es := by
 obtain ⟨cur, hh, hs, hcell⟩ := h
 refine ⟨by rw [ecs, List.length_map]; exact hn, hc, ecs_wide es, fun _ => ⟨g, 0, cur, (0, 0), rfl, hh, fun i a ha j v hv => ?_⟩⟩
 rw [ecs, List.getElem?_map] at ha
 cases he : es[i]? with
 | none => rw [he] at ha; simp at ha
 | some e =>
  rw [he] at ha
  simp at ha
  subst ha
  rw [Nat.zero_add]
  exact hcell i e he j v hv
theorem RowE.frozen {w : World} {g : Nat} {es : List Ed} (h : RowE w g es) (o : Nat) : w.frozen? ⟨g, o, none⟩ = false := by
 obtain ⟨cur, hh, _⟩ := h
 exact Blk.frozen (w := w) (t := 56) (cs := cur) hh o
theorem RowE.on {w w' : World} {g : Nat} {es : List Ed} (h : RowE w g es) (hb : Below w.heap.size w w') : RowE w' g es := by
 obtain ⟨cur, hh, r⟩ := h
 exact ⟨cur, (hb.block g (blk_lt hh)).trans hh, r⟩
theorem RowE.lt {w : World} {g : Nat} {es : List Ed} (h : RowE w g es) : g < w.heap.size := by
 obtain ⟨cur, hh, r⟩ := h
 exact blk_lt hh
theorem OwnE.rowE {w : World} {base : Nat} {v : Value} {es : List Ed} (h : OwnE w base v es) (h0 : 0 < es.length) : ∃ g c, v = .slice (some ⟨g, 0, none⟩) es.length c ∧ base ≤ g ∧ es.length ≤ c ∧ RowE w g es := by
 rcases h.2 with ⟨rfl, hx⟩ | ⟨g, cap, cur, rfl, hg, hh, hnc, hcm, hcs, hx⟩
 ·omega
 ·refine ⟨g, cap, rfl, hg, hnc, cur, hh, by rw [hcs]; omega, fun i e he j u hu => ?_⟩
  have h1 : (ecs es)[i]? = some e.cs := by rw [ecs, List.getElem?_map, he]; rfl
  have h2 := flat_at (ecs es) (ecs_wide es) i e.cs h1 j u hu
  have h3 : (efl es)[i * 9 + j]? = some u := h2
  rw [← hx, List.getElem?_take] at h3
  split at h3
  ·simpa using h3
  ·cases h3
/-! The plain order. -/
def preR (es : List Ed) (i : Nat) : List Ed := (es.take i).foldl (fun r e => insE e r) []
theorem preR_succ {es : List Ed} {i : Nat} {e : Ed} (h : es[i]? = some e) : preR es (i + 1) = insE e (preR es i) := by
 unfold preR
 rw [takes_one es h, List.foldl_append]
 rfl
theorem insE_len (e : Ed) : ∀ l, (insE e l).length = l.length + 1
 | [] => rfl
 | a :: l => by
  unfold insE
  split
  ·simp [insE_len e l]
  ·rfl
theorem preR_len (es : List Ed) : ∀ i, i ≤ es.length → (preR es i).length = i
 | 0, _ => rfl
 | i + 1, h => by
  have hi : i < es.length := h
  rw [preR_succ (List.getElem?_eq_getElem hi), insE_len, preR_len es i (by omega)]
theorem preR_all (es : List Ed) : (preR es es.length).reverse = sortE es := by unfold preR sortE; rw [List.take_length]
theorem insE_step {e a : Ed} {l : List Ed} : insE e (a :: l) = if orderI e a < 0 then a :: insE e l else e :: a :: l := by rw [insE]
/-- The row while an edge is brought to its place. -/
def midE (r : List Ed) (k : Nat) (e : Ed) (rest : List Ed) : List Ed := (r.drop k).reverse ++ e :: ((r.take k).reverse ++ rest)
theorem mid_at {r : List Ed} {k : Nat} {e : Ed} {rest : List Ed} (hk : k ≤ r.length) : (midE r k e rest)[r.length - k]? = some e := by
 unfold midE
 rw [List.getElem?_append_right (by simp), List.length_reverse, List.length_drop, Nat.sub_self]
 rfl
theorem mid_ahead {r : List Ed} {k : Nat} {e a : Ed} {rest : List Ed} (ha : r[k]? = some a) : (midE r k e rest)[r.length - k - 1]? = some a := by
 have hk := (List.getElem?_eq_some_iff.1 ha).1
 unfold midE
 rw [List.getElem?_append_left (by simp; omega), List.getElem?_reverse (by simp; omega)]
 simp
 exact ha
theorem mid_swap {r : List Ed} {k : Nat} {e a : Ed} {rest : List Ed} (ha : r[k]? = some a) : ((midE r k e rest).set (r.length - k) a).set (r.length - k - 1) e = midE r (k + 1) e rest := by
 obtain ⟨hk, rfl⟩ := List.getElem?_eq_some_iff.1 ha
 unfold midE
 have h1 : (r.drop k).reverse = (r.drop (k + 1)).reverse ++ [r[k]] := by rw [List.drop_eq_getElem_cons hk, List.reverse_cons]
 have h2 : (r.take (k + 1)).reverse = r[k] :: (r.take k).reverse := by rw [List.take_succ_eq_append_getElem hk]; simp
 rw [h1, h2]
 have hl : ((r.drop (k + 1)).reverse).length = r.length - k - 1 := by simp; omega
 rw [List.append_assoc, List.set_append_right _ _ (by rw [hl]; omega), hl, show r.length - k - (r.length - k - 1) = 1 by omega]
 rw [List.set_append_right _ _ (by rw [hl]; exact Nat.le_refl _), hl, Nat.sub_self]
 rfl
set_option maxRecDepth 100000 in
set_option maxHeartbeats 4000000 in
theorem ins_any (w : World) (g c : Nat) (es : List Ed) (n : Nat) (hn : es.length = n) (h1 : 1 ≤ n) (hn20 : n ≤ 20) (hc : n ≤ c) (h : RowE w g es) :
 Calls Tryz.prog 114 #[.slice (some ⟨g, 0, none⟩) n c, .int .i64 0, .int .i64 (n : Int), .func (.func 49) #[] #[]] w fun e w' => e = .returned (.tuple #[]) ∧ RowE w' g (sortE es) ∧ Gr (· = g) w w' := by
 have HR := Lib.hid h
 have HN := Lib.hid hn
 have h1' : (1 : Int) ≤ (n : Int) := by omega
 have hn20' : (n : Int) ≤ 20 := by omega
 clear h hn
 go_enter Tryz.func114, Tryz.ntmps114
 go_wp2_with fail
 go_loopw [8] (fun iv wr => ∃ i : Nat, 1 ≤ i ∧ i ≤ n ∧ iv = .int .i64 i ∧ Hid (RowE wr g ((preR es i).reverse ++ es.drop i)) ∧ Hid (Gr (· = g) w wr)) (fun iv _ => n - (intOf iv).toNat)
 case atStart =>
  refine ⟨1, Nat.le_refl _, h1, rfl, Lib.hid ?_, Lib.hid (Gr.refl _ _)⟩
  have : (preR es 1).reverse ++ es.drop 1 = es := by
   cases es with
   | nil => rfl
   | cons e l => rfl
  rw [this]
  exact HR.out
 case round =>
  obtain ⟨i, hi1, hi, rfl, HO, HG⟩ := hrel
  by_cases hlt : i < n
  ·have hlt' : (i : Int) < (n : Int) := by omega
   have hi1' : (1 : Int) ≤ (i : Int) := by omega
   obtain ⟨e, he⟩ : ∃ e, es[i]? = some e := ⟨_, List.getElem?_eq_getElem (by rw [HN.out]; exact hlt)⟩
   obtain ⟨r, hr⟩ : ∃ r, preR es i = r := ⟨_, rfl⟩
   have hrl : r.length = i := by rw [← hr]; exact preR_len es i (by rw [HN.out]; exact hi)
   have HPS : Hid (preR es (i + 1) = insE e r) := Lib.hid (by rw [preR_succ he, hr])
   have HO2 : Hid (RowE wr g (midE r 0 e (es.drop (i + 1)))) := Lib.hid (by
    have := HO.out
    rw [hr, drop_at he] at this
    exact this)
   have HRL := Lib.hid hrl
   have HML : Hid (∀ k, k ≤ i → (midE r k e (es.drop (i + 1))).length = n) := Lib.hid (fun k hk => by have := HN.out; have := HRL.out; simp [midE]; omega)
   clear he hr hrl HO
   go_wp2_with fail
   go_loopw [9] (fun jv wr => ∃ k q : Nat, k + q = i ∧ jv = .int .i64 (q : Int) ∧ Hid (RowE wr g (midE r k e (es.drop (i + 1)))) ∧ Hid (insE e r = r.take k ++ insE e (r.drop k)) ∧ Hid (Gr (· = g) w wr)) (fun jv _ => (intOf jv).toNat)
   case atStart => exact ⟨0, i, by omega, rfl, HO2, Lib.hid (by simp), HG⟩
   case round =>
    obtain ⟨k, q, hkq, rfl, HX, HI, HGX⟩ := hrel
    clear HO2 HG
    rcases Nat.eq_zero_or_pos q with h0 | h0
    ·subst h0
     have hki : k = i := by omega
     go_upto_region 4 with (fail)
     refine wp_region_noPanic ?_
     refine ord_begin 16 (fun wx => Below wr.heap.size wr wx) (by kernel_rfl) ?_
     have hx0 : Below wr.heap.size wr wr.drew := (Below.refl _ _).drew
     refine ord_take (i := 0) (v := ?_) (by kernel_rfl) rfl (by decide) (by kernel_rfl) (by kernel_rfl) (fun _ _ _ h => h) (Or.inl ⟨by rfl, ?_⟩) hx0 ?_
     rotate_left
     ·intro wz hz; go_simp; (try with_reducible rfl)
     try simp only [Act.put, pu]
     refine ord_take (i := 1) (v := ?_) (by kernel_rfl) rfl (by decide) (by kernel_rfl) (by kernel_rfl) (fun _ _ _ h => h) (Or.inl ⟨by rfl, ?_⟩) hx0 ?_
     rotate_left
     ·intro wz hz; go_simp; (try with_reducible rfl)
     try simp only [Act.put, pu]
     refine ord_take (i := 2) (v := ?_) (by kernel_rfl) rfl (by decide) (by kernel_rfl) (by kernel_rfl) (fun _ _ _ h => h) (Or.inl ⟨by rfl, ?_⟩) hx0 ?_
     rotate_left
     ·intro wz hz; go_simp; (try with_reducible rfl)
     try simp only [Act.put, pu]
     refine ord_take (i := 3) (v := ?_) (by kernel_rfl) rfl (by decide) (by kernel_rfl) (by kernel_rfl) (fun _ _ _ h => h) (Or.inl ⟨by rfl, ?_⟩) hx0 ?_
     rotate_left
     ·intro wz hz; go_simp; (try with_reducible rfl)
     try simp only [Act.put, pu]
     refine ord_take (i := 4) (v := undef) (by kernel_rfl) rfl (by decide) (by kernel_rfl) (by kernel_rfl) (fun _ _ _ h => h) (Or.inr ⟨by rfl, rfl⟩) hx0 ?_
     try simp only [Act.put, pu]
     refine ord_take (i := 5) (v := undef) (by kernel_rfl) rfl (by decide) (by kernel_rfl) (by kernel_rfl) (fun _ _ _ h => h) (Or.inr ⟨by rfl, rfl⟩) hx0 ?_
     try simp only [Act.put, pu]
     refine ord_take (i := 6) (v := undef) (by kernel_rfl) rfl (by decide) (by kernel_rfl) (by kernel_rfl) (fun _ _ _ h => h) (Or.inr ⟨by rfl, rfl⟩) hx0 ?_
     try simp only [Act.put, pu]
     refine ord_take (i := 7) (v := undef) (by kernel_rfl) rfl (by decide) (by kernel_rfl) (by kernel_rfl) (fun _ _ _ h => h) (Or.inr ⟨by rfl, rfl⟩) hx0 ?_
     try simp only [Act.put, pu]
     refine ord_take (i := 8) (v := undef) (by kernel_rfl) rfl (by decide) (by kernel_rfl) (by kernel_rfl) (fun _ _ _ h => h) (Or.inr ⟨by rfl, rfl⟩) hx0 ?_
     try simp only [Act.put, pu]
     refine ord_take (i := 9) (v := undef) (by kernel_rfl) rfl (by decide) (by kernel_rfl) (by kernel_rfl) (fun _ _ _ h => h) (Or.inr ⟨by rfl, rfl⟩) hx0 ?_
     try simp only [Act.put, pu]
     refine ord_take (i := 10) (v := undef) (by kernel_rfl) rfl (by decide) (by kernel_rfl) (by kernel_rfl) (fun _ _ _ h => h) (Or.inr ⟨by rfl, rfl⟩) hx0 ?_
     try simp only [Act.put, pu]
     refine ord_take (i := 11) (v := undef) (by kernel_rfl) rfl (by decide) (by kernel_rfl) (by kernel_rfl) (fun _ _ _ h => h) (Or.inr ⟨by rfl, rfl⟩) hx0 ?_
     try simp only [Act.put, pu]
     refine ord_take (i := 12) (v := undef) (by kernel_rfl) rfl (by decide) (by kernel_rfl) (by kernel_rfl) (fun _ _ _ h => h) (Or.inr ⟨by rfl, rfl⟩) hx0 ?_
     try simp only [Act.put, pu]
     refine ord_take (i := 13) (v := undef) (by kernel_rfl) rfl (by decide) (by kernel_rfl) (by kernel_rfl) (fun _ _ _ h => h) (Or.inr ⟨by rfl, rfl⟩) hx0 ?_
     try simp only [Act.put, pu]
     refine ord_take (i := 14) (v := undef) (by kernel_rfl) rfl (by decide) (by kernel_rfl) (by kernel_rfl) (fun _ _ _ h => h) (Or.inr ⟨by rfl, rfl⟩) hx0 ?_
     try simp only [Act.put, pu]
     refine ord_take (i := 15) (v := undef) (by kernel_rfl) rfl (by decide) (by kernel_rfl) (by kernel_rfl) (fun _ _ _ h => h) (Or.inr ⟨by rfl, rfl⟩) hx0 ?_
     try simp only [Act.put, pu]
     refine ord_rest (by kernel_rfl) ?_
     refine wpAny_take (i := 16) (v := ?_) rfl (by kernel_rfl) (by kernel_rfl) (by kernel_rfl) (fun _ _ _ h => h) (Or.inl ⟨by rfl, ?_⟩) ?_
     rotate_left
     ·intro wz; go_simp; (try with_reducible rfl)
     try simp only [Act.put, pu]
     refine wpAny_done (by kernel_rfl) ?_ _
     refine NoPanic.normal ?_
     have HR5 : Hid (RowE wr.drew g ((preR es (i + 1)).reverse ++ es.drop (i + 1))) := Lib.hid (by
      have hx := HX.out
      have hI := HI.out
      rw [hki, List.drop_of_length_le (by rw [HRL.out]; exact Nat.le_refl _)] at hI
      rw [hki] at hx
      rw [HPS.out, hI]
      unfold midE at hx
      rw [List.drop_of_length_le (by rw [HRL.out]; exact Nat.le_refl _)] at hx
      rw [List.take_of_length_le (by rw [HRL.out]; exact Nat.le_refl _)] at hx ⊢
      simpa [insE] using (show RowE wr.drew g _ from hx))
     have HG5 := Lib.hid HGX.out.drew
     go_wp2_with fail
     go_roundw
     case rel => exact ⟨i + 1, by omega, by omega, by go_num, HR5, HG5⟩
     case measure => simp [intOf]; omega
    ·obtain ⟨Q, rfl⟩ : ∃ Q, q = Q + 1 := ⟨q - 1, by omega⟩
     have hkr : k < r.length := by have := HRL.out; omega
     obtain ⟨a, ha⟩ : ∃ a, r[k]? = some a := ⟨_, List.getElem?_eq_getElem hkr⟩
     have hrow := HX.out.re (HML.out k (by omega)) hc
     obtain ⟨e1, hb1, hx1, _, a0, a1, a2, a3, a4, a5, a6, a7, a8⟩ := hrow.edge_at (i := Q + 1) (by omega)
     obtain ⟨e2, _, hx2, _, b0, b1, b2, b3, b4, b5, b6, b7, b8⟩ := hrow.edge_at (i := Q) (by omega)
     have he1 : e1 = e := by
      have := mid_at (r := r) (k := k) (e := e) (rest := es.drop (i + 1)) (by omega)
      rw [show r.length - k = Q + 1 by have := HRL.out; omega, hx1] at this
      exact Option.some.inj this
     have he2 : e2 = a := by
      have := mid_ahead (r := r) (k := k) (e := e) (rest := es.drop (i + 1)) ha
      rw [show r.length - k - 1 = Q by have := HRL.out; omega, hx2] at this
      exact Option.some.inj this
     rw [he1] at a0 a1 a2 a3 a4 a5 a6 a7 a8
     rw [he2] at b0 b1 b2 b3 b4 b5 b6 b7 b8
     simp only [Nat.zero_add] at a0 a1 a2 a3 a4 a5 a6 a7 a8 b0 b1 b2 b3 b4 b5 b6 b7 b8
     have HA := Lib.hid ha
     have hQ1 : (Q : Int) + 1 < (n : Int) := by omega
     have hw1 : IntKind.i64.wrap ((Q : Nat) : Int) = (Q : Int) := IntWalk.i64_in _ (by omega)
     have hQ4 : (0 : Int) ≤ (Q : Int) := by omega
     have hQ0 : (0 : Int) ≤ (Q : Int) + 1 := by omega
     have hQ2 : (Q : Int) < (n : Int) := by omega
     have hQ3 : ((Q : Int) + 1).toNat = Q + 1 := by omega
     clear he1 he2 hx1 hx2 hrow ha
     have HQ1 : Hid (((Q + 1 : Nat) : Int) = (Q : Int) + 1) := Lib.hid rfl
     rw [HQ1.out]
     go_upto_region 4 with (fail)
     refine wp_region_noPanic ?_
     refine ord_begin 16 (fun wx => Below wr.heap.size wr wx) (by kernel_rfl) ?_
     have hx0 : Below wr.heap.size wr wr.drew := (Below.refl _ _).drew
     refine ord_take (i := 0) (v := ?_) (by kernel_rfl) rfl (by decide) (by kernel_rfl) (by kernel_rfl) (fun _ _ _ h => h) (Or.inl ⟨by rfl, ?_⟩) hx0 ?_
     rotate_left
     ·intro wz hz; go_simp; (try with_reducible rfl)
     try simp only [Act.put, pu]
     refine ord_take (i := 1) (v := ?_) (by kernel_rfl) rfl (by decide) (by kernel_rfl) (by kernel_rfl) (fun _ _ _ h => h) (Or.inl ⟨by rfl, ?_⟩) hx0 ?_
     rotate_left
     ·intro wz hz; go_simp; (try with_reducible rfl)
     try simp only [Act.put, pu]
     refine ord_take (i := 2) (v := ?_) (by kernel_rfl) rfl (by decide) (by kernel_rfl) (by kernel_rfl) (fun _ _ _ h => h) (Or.inl ⟨by rfl, ?_⟩) hx0 ?_
     rotate_left
     ·intro wz hz; go_simp; (try with_reducible rfl)
     try simp only [Act.put, pu]
     refine ord_take (i := 3) (v := ?_) (by kernel_rfl) rfl (by decide) (by kernel_rfl) (by kernel_rfl) (fun _ _ _ h => h) (Or.inl ⟨by rfl, ?_⟩) hx0 ?_
     rotate_left
     ·intro wz hz; go_simp; (try with_reducible rfl)
     try simp only [Act.put, pu]
     refine ord_take (i := 4) (v := ?_) (by kernel_rfl) rfl (by decide) (by kernel_rfl) (by kernel_rfl) (fun _ _ _ h => h) (Or.inl ⟨by rfl, ?_⟩) hx0 ?_
     rotate_left
     ·intro wz hz; go_simp; (try with_reducible rfl)
     try simp only [Act.put, pu]
     refine ord_take (i := 5) (v := ?_) (by kernel_rfl) rfl (by decide) (by kernel_rfl) (by kernel_rfl) (fun _ _ _ h => h) (Or.inl ⟨by rfl, ?_⟩) hx0 ?_
     rotate_left
     ·intro wz hz; go_simp; (try with_reducible rfl)
     try simp only [Act.put, pu]
     refine ord_take (i := 6) (v := ?_) (by kernel_rfl) rfl (by decide) (by kernel_rfl) (by kernel_rfl) (fun _ _ _ h => h) (Or.inl ⟨by rfl, ?_⟩) hx0 ?_
     rotate_left
     ·intro wz hz; go_simp; (try with_reducible rfl)
     try simp only [Act.put, pu]
     refine ord_take (i := 7) (v := ?_) (by kernel_rfl) rfl (by decide) (by kernel_rfl) (by kernel_rfl) (fun _ _ _ h => h) (Or.inl ⟨by rfl, ?_⟩) hx0 ?_
     rotate_left
     ·intro wz hz; go_simp; (try with_reducible rfl)
     try simp only [Act.put, pu]
     refine ord_take (i := 8) (v := ?_) (by kernel_rfl) rfl (by decide) (by kernel_rfl) (by kernel_rfl) (fun _ _ _ h => h) (Or.inl ⟨by rfl, ?_⟩) hx0 ?_
     rotate_left
     ·intro wz hz; have ay0 := (hz.cell (p := ⟨g, _, none⟩) hb1).trans a0; have ay1 := (hz.cell (p := ⟨g, _, none⟩) hb1).trans a1; have ay2 := (hz.cell (p := ⟨g, _, none⟩) hb1).trans a2; have ay3 := (hz.cell (p := ⟨g, _, none⟩) hb1).trans a3; have ay4 := (hz.cell (p := ⟨g, _, none⟩) hb1).trans a4; have ay5 := (hz.cell (p := ⟨g, _, none⟩) hb1).trans a5; have ay6 := (hz.cell (p := ⟨g, _, none⟩) hb1).trans a6; have ay7 := (hz.cell (p := ⟨g, _, none⟩) hb1).trans a7; have ay8 := (hz.cell (p := ⟨g, _, none⟩) hb1).trans a8; go_simp; (try with_reducible rfl)
     try simp only [Act.put, pu]
     refine ord_take (i := 9) (v := ?_) (by kernel_rfl) rfl (by decide) (by kernel_rfl) (by kernel_rfl) (fun _ _ _ h => h) (Or.inl ⟨by rfl, ?_⟩) hx0 ?_
     rotate_left
     ·intro wz hz; go_simp; (try with_reducible rfl)
     try simp only [Act.put, pu]
     refine ord_take (i := 10) (v := ?_) (by kernel_rfl) rfl (by decide) (by kernel_rfl) (by kernel_rfl) (fun _ _ _ h => h) (Or.inl ⟨by rfl, ?_⟩) hx0 ?_
     rotate_left
     ·intro wz hz; go_simp; (try with_reducible rfl)
     try simp only [Act.put, pu]
     refine ord_take (i := 11) (v := ?_) (by kernel_rfl) rfl (by decide) (by kernel_rfl) (by kernel_rfl) (fun _ _ _ h => h) (Or.inl ⟨by rfl, ?_⟩) hx0 ?_
     rotate_left
     ·intro wz hz; go_simp; (try with_reducible rfl)
     try simp only [Act.put, pu]
     refine ord_take (i := 12) (v := ?_) (by kernel_rfl) rfl (by decide) (by kernel_rfl) (by kernel_rfl) (fun _ _ _ h => h) (Or.inl ⟨by rfl, ?_⟩) hx0 ?_
     rotate_left
     ·intro wz hz; go_simp; (try with_reducible rfl)
     try simp only [Act.put, pu]
     refine ord_take (i := 13) (v := ?_) (by kernel_rfl) rfl (by decide) (by kernel_rfl) (by kernel_rfl) (fun _ _ _ h => h) (Or.inl ⟨by rfl, ?_⟩) hx0 ?_
     rotate_left
     ·intro wz hz; have by0 := (hz.cell (p := ⟨g, _, none⟩) hb1).trans b0; have by1 := (hz.cell (p := ⟨g, _, none⟩) hb1).trans b1; have by2 := (hz.cell (p := ⟨g, _, none⟩) hb1).trans b2; have by3 := (hz.cell (p := ⟨g, _, none⟩) hb1).trans b3; have by4 := (hz.cell (p := ⟨g, _, none⟩) hb1).trans b4; have by5 := (hz.cell (p := ⟨g, _, none⟩) hb1).trans b5; have by6 := (hz.cell (p := ⟨g, _, none⟩) hb1).trans b6; have by7 := (hz.cell (p := ⟨g, _, none⟩) hb1).trans b7; have by8 := (hz.cell (p := ⟨g, _, none⟩) hb1).trans b8; go_simp; (try with_reducible rfl)
     try simp only [Act.put, pu]
     refine ord_step (i := 14) rfl (by decide) (by kernel_rfl) (by rfl) (fun K hK => ?_)
     go_simp
     refine (order_any e a wr.drew).mono ?_
     rintro y X4b_1 ⟨rfl, hb⟩
     have hx1 := bltB hx0 hx0.size hb
     clear hb hx0
     refine hK _ _ hx1 ?_
     clear hK K
     try simp only [Act.put, pu]
     refine ord_take (i := 15) (v := ?_) (by kernel_rfl) rfl (by decide) (by kernel_rfl) (by kernel_rfl) (fun _ _ _ h => h) (Or.inl ⟨by rfl, ?_⟩) hx1 ?_
     rotate_left
     ·intro wz hz; go_simp; (try with_reducible rfl)
     try simp only [Act.put, pu]
     refine ord_rest (by kernel_rfl) ?_
     refine wpAny_take (i := 16) (v := ?_) rfl (by kernel_rfl) (by kernel_rfl) (by kernel_rfl) (fun _ _ _ h => h) (Or.inl ⟨by rfl, ?_⟩) ?_
     rotate_left
     ·intro wz; go_simp; (try with_reducible rfl)
     try simp only [Act.put, pu]
     refine wpAny_done (by kernel_rfl) ?_ _
     refine NoPanic.normal ?_
     have HX4 := Lib.hid (HX.out.on hx1)
     have HG4 := Lib.hid (HGX.out.trans (Gr.of_below hx1))
     by_cases hc2 : orderI e a < 0
     ·have HC := Lib.hid hc2
      have x0 := (hx1.cell (p := ⟨g, _, none⟩) hb1).trans a0
      have x1 := (hx1.cell (p := ⟨g, _, none⟩) hb1).trans a1
      have x2 := (hx1.cell (p := ⟨g, _, none⟩) hb1).trans a2
      have x3 := (hx1.cell (p := ⟨g, _, none⟩) hb1).trans a3
      have x4 := (hx1.cell (p := ⟨g, _, none⟩) hb1).trans a4
      have x5 := (hx1.cell (p := ⟨g, _, none⟩) hb1).trans a5
      have x6 := (hx1.cell (p := ⟨g, _, none⟩) hb1).trans a6
      have x7 := (hx1.cell (p := ⟨g, _, none⟩) hb1).trans a7
      have x8 := (hx1.cell (p := ⟨g, _, none⟩) hb1).trans a8
      have y0 := (hx1.cell (p := ⟨g, _, none⟩) hb1).trans b0
      have y1 := (hx1.cell (p := ⟨g, _, none⟩) hb1).trans b1
      have y2 := (hx1.cell (p := ⟨g, _, none⟩) hb1).trans b2
      have y3 := (hx1.cell (p := ⟨g, _, none⟩) hb1).trans b3
      have y4 := (hx1.cell (p := ⟨g, _, none⟩) hb1).trans b4
      have y5 := (hx1.cell (p := ⟨g, _, none⟩) hb1).trans b5
      have y6 := (hx1.cell (p := ⟨g, _, none⟩) hb1).trans b6
      have y7 := (hx1.cell (p := ⟨g, _, none⟩) hb1).trans b7
      have y8 := (hx1.cell (p := ⟨g, _, none⟩) hb1).trans b8
      clear a0 a1 a2 a3 a4 a5 a6 a7 a8 b0 b1 b2 b3 b4 b5 b6 b7 b8
      have hX4 : RowE X4b_1 g (midE r k e (es.drop (i + 1))) := HX4.out
      have hG4 : Gr (· = g) w X4b_1 := HG4.out
      clear HX4 HG4 hx1 HX HGX
      go_upto_region 6 with (fail)
      have fa0 : X4b_1.frozen? ⟨g, (Q + 1) * 9, none⟩ = false := hX4.frozen _
      have fb0 : X4b_1.frozen? ⟨g, Q * 9, none⟩ = false := hX4.frozen _
      have fa1 : X4b_1.frozen? ⟨g, (Q + 1) * 9 + 1, none⟩ = false := hX4.frozen _
      have fb1 : X4b_1.frozen? ⟨g, Q * 9 + 1, none⟩ = false := hX4.frozen _
      have fa2 : X4b_1.frozen? ⟨g, (Q + 1) * 9 + 2, none⟩ = false := hX4.frozen _
      have fb2 : X4b_1.frozen? ⟨g, Q * 9 + 2, none⟩ = false := hX4.frozen _
      have fa3 : X4b_1.frozen? ⟨g, (Q + 1) * 9 + 3, none⟩ = false := hX4.frozen _
      have fb3 : X4b_1.frozen? ⟨g, Q * 9 + 3, none⟩ = false := hX4.frozen _
      have fa4 : X4b_1.frozen? ⟨g, (Q + 1) * 9 + 4, none⟩ = false := hX4.frozen _
      have fb4 : X4b_1.frozen? ⟨g, Q * 9 + 4, none⟩ = false := hX4.frozen _
      have fa5 : X4b_1.frozen? ⟨g, (Q + 1) * 9 + 5, none⟩ = false := hX4.frozen _
      have fb5 : X4b_1.frozen? ⟨g, Q * 9 + 5, none⟩ = false := hX4.frozen _
      have fa6 : X4b_1.frozen? ⟨g, (Q + 1) * 9 + 6, none⟩ = false := hX4.frozen _
      have fb6 : X4b_1.frozen? ⟨g, Q * 9 + 6, none⟩ = false := hX4.frozen _
      have fa7 : X4b_1.frozen? ⟨g, (Q + 1) * 9 + 7, none⟩ = false := hX4.frozen _
      have fb7 : X4b_1.frozen? ⟨g, Q * 9 + 7, none⟩ = false := hX4.frozen _
      have fa8 : X4b_1.frozen? ⟨g, (Q + 1) * 9 + 8, none⟩ = false := hX4.frozen _
      have fb8 : X4b_1.frozen? ⟨g, Q * 9 + 8, none⟩ = false := hX4.frozen _
      have hl4 : (midE r k e (es.drop (i + 1))).length = n := HML.out k (by omega)
      have hR5 := (hX4.put (i := Q + 1) (by omega) a).put (i := Q) (by rw [List.length_set]; omega) e
      obtain ⟨W5, hW5⟩ : ∃ W, W = (put9 (put9 X4b_1 g ((Q + 1) * 9) a) g (Q * 9) e).drew := ⟨_, rfl⟩
      have HR6 : Hid (RowE W5 g (midE r (k + 1) e (es.drop (i + 1)))) := Lib.hid (by
       have hm := mid_swap (e := e) (rest := es.drop (i + 1)) HA.out
       rw [← hm, show r.length - k - 1 = Q by have := HRL.out; omega]
       have hq : r.length - k = Q + 1 := by have := HRL.out; omega
       rw [hq, hW5]
       exact hR5.drew)
      have HG6 : Hid (Gr (· = g) w W5) := Lib.hid (by rw [hW5]; exact (hG4.trans ((put9_gr X4b_1 g ((Q + 1) * 9) a).trans (put9_gr _ g (Q * 9) e))).drew)
      unfold put9 at hW5
      have HI6 : Hid (insE e r = r.take (k + 1) ++ insE e (r.drop (k + 1))) := Lib.hid (by
       rw [HI.out, drop_at HA.out, insE_step, if_pos HC.out]
       obtain ⟨hk', hka⟩ := List.getElem?_eq_some_iff.mp HA.out
       rw [List.take_succ_eq_append_getElem hk', hka]
       simp)
      clear hR5 hX4 hG4 hl4 hc2 h0
      go_big_region
      rw [← hW5]
      clear hW5 x0 x1 x2 x3 x4 x5 x6 x7 x8 y0 y1 y2 y3 y4 y5 y6 y7 y8 fa0 fb0 fa1 fb1 fa2 fb2 fa3 fb3 fa4 fb4 fa5 fb5 fa6 fb6 fa7 fb7 fa8 fb8
      go_wp2_with fail
      go_roundw
      case rel => exact ⟨k + 1, Q, by omega, rfl, HR6, HI6, HG6⟩
      case measure => simp [intOf]
     ·have HR5 : Hid (RowE X4b_1 g ((preR es (i + 1)).reverse ++ es.drop (i + 1))) := Lib.hid (by
       have hx := HX4.out
       rw [HPS.out, HI.out]
       have hd := drop_at HA.out
       rw [hd, insE_step, if_neg hc2, ← hd]
       unfold midE at hx
       simpa using hx)
      clear a0 a1 a2 a3 a4 a5 a6 a7 a8 b0 b1 b2 b3 b4 b5 b6 b7 b8 HX HGX HX4
      go_wp2_with fail
      go_roundw
      case rel => exact ⟨i + 1, by omega, by omega, by go_num, HR5, HG4⟩
      case measure => simp [intOf]; omega
  ·have hin : i = n := by omega
   subst hin
   go_wp2_with fail
   refine bodyPost_end (v := .tuple #[]) (by simp [results, Tryz.f114, go_sem]) rfl ⟨rfl, ?_, HG.out⟩
   have := HO.out
   have hl : i = es.length := HN.out.symm
   rw [hl, preR_all, List.drop_length, List.append_nil] at this
   exact this
end Go.Proofs.YthefgdehfgkhhaaGreat
namespace Go.Proofs.YthefgdehfgkhhaaGreat
open Go.RowKit Go.Shelf
set_option linter.unusedVariables false
set_option linter.unusedSimpArgs false
attribute [local go_sem] Oper.semAt_some
theorem ins_nil (w : World) (A : Option Addr) (c : Nat) : Calls Tryz.prog 114 #[.slice A 0 c, .int .i64 0, .int .i64 0, .func (.func 49) #[] #[]] w fun e w' => e = .returned (.tuple #[]) ∧ w' = w := by
 have h0 : ¬ (1 : Int) < 0 := by decide
 go_enter Tryz.func114, Tryz.ntmps114
 go_wp2_with fail
 go_loopw [8] (fun iv wr => iv = .int .i64 1 ∧ wr = w) (fun iv _ => 0)
 case atStart => exact ⟨rfl, rfl⟩
 case round =>
  obtain ⟨rfl, rfl⟩ := hrel
  go_wp2_with fail
  exact bodyPost_end (v := .tuple #[]) (by simp [results, Tryz.f114, go_sem]) rfl ⟨rfl, rfl⟩
theorem OwnE.nil_at {w : World} {base : Nat} {v : Value} (h : OwnE w base v []) : ∃ A c, v = .slice A 0 c := by
 rcases h.2 with ⟨rfl, _⟩ | ⟨g, cap, cur, rfl, _⟩
 ·exact ⟨_, _, rfl⟩
 ·exact ⟨_, _, rfl⟩
/-- The row v, of which the call owns the block, is brought into order. -/
def RetSo (w : World) (base : Nat) (v : Value) (es : List Ed) (e : Ending) (w' : World) : Prop :=
 e = .returned (.tuple #[]) ∧ (∃ A c, v = .slice A es.length c ∧ RE w' A es.length c (sortE es)) ∧ Gr (fun k => base ≤ k) w w'
theorem sort_len (es : List Ed) : (sortE es).length = es.length := by
 rw [← preR_all, List.length_reverse, preR_len es _ (Nat.le_refl _)]
set_option maxRecDepth 100000 in
theorem insA_any (w : World) (base : Nat) (v : Value) (es : List Ed) (h : OwnE w base v es) (hn : es.length ≤ 20) :
 Calls Tryz.prog 114 #[v, .int .i64 0, .int .i64 (es.length : Int), .func (.func 49) #[] #[]] w (RetSo w base v es) := by
 rcases Nat.eq_zero_or_pos es.length with h0 | h0
 ·have he : es = [] := List.eq_nil_of_length_eq_zero h0
  subst he
  obtain ⟨A, c, rfl⟩ := h.nil_at
  refine (ins_nil w A c).mono ?_
  rintro e w' ⟨rfl, rfl⟩
  exact ⟨rfl, ⟨A, c, rfl, ⟨rfl, Nat.zero_le _, ecs_wide _, fun h => absurd h (Nat.lt_irrefl _)⟩⟩, Gr.refl _ _⟩
 ·obtain ⟨g, c, rfl, hg, hc, hr⟩ := h.rowE h0
  refine (ins_any w g c es es.length rfl h0 hn hc hr).mono ?_
  rintro e w' ⟨rfl, hr', hG⟩
  exact ⟨rfl, ⟨_, c, rfl, hr'.re (sort_len es) hc⟩, hG.mono fun k _ e => by rw [e]; exact hg⟩
set_option maxRecDepth 100000 in
theorem stable_any (w : World) (base : Nat) (v : Value) (es : List Ed) (h : OwnE w base v es) (hn : es.length < 20) :
 Calls Tryz.prog 89 #[v, .int .i64 (es.length : Int), .func (.func 49) #[] #[]] w (RetSo w base v es) := by
 obtain ⟨n, hne⟩ : ∃ n, es.length = n := ⟨_, rfl⟩
 have HC := insA_any w base v es h (by omega)
 rw [hne] at HC ⊢
 have HC := Lib.hid HC
 have g1 : ¬ (20 : Int) ≤ (n : Int) := by omega
 have g2 : ¬ (20 : Int) < (n : Int) := by omega
 clear h hn hne
 go_enter Tryz.func89, Tryz.ntmps89
 go_wp2_with fail
 go_loopw [7, 8] (fun av bv wr => av = .int .i64 0 ∧ bv = .int .i64 20 ∧ wr = w) (fun _ _ _ => 0)
 case atStart => exact ⟨rfl, rfl, rfl⟩
 case round =>
  obtain ⟨rfl, rfl, rfl⟩ := hrel
  go_wp2_with fail
  refine HC.out.mono ?_
  rintro e w' hs
  have HS := Lib.hid hs
  obtain ⟨rfl, _⟩ := hs
  clear HC
  go_wp2_with fail
  go_loopw [6] (fun av wr => av = .int .i64 20 ∧ wr = w') (fun _ _ => 0)
  case atStart => exact ⟨rfl, rfl⟩
  case round =>
   obtain ⟨rfl, rfl⟩ := hrel
   go_wp2_with fail
   exact bodyPost_end (v := .tuple #[]) (by simp [results, Tryz.f89, go_sem]) rfl HS.out
set_option maxRecDepth 100000 in
theorem sort_any (w : World) (base : Nat) (A : Option Addr) (c : Nat) (es : List Ed) (h : OwnE w base (.slice A es.length c) es) (hn : es.length < 20) :
 Calls Tryz.prog 55 #[.slice A es.length c, .func (.func 49) #[] #[]] w (RetSo w base (.slice A es.length c) es) := by
 obtain ⟨n, hne⟩ : ∃ n, es.length = n := ⟨_, rfl⟩
 have HC := stable_any w base (.slice A es.length c) es h hn
 rw [hne] at HC ⊢
 have HC := Lib.hid HC
 clear h hn hne
 go_enter Tryz.func55, Tryz.ntmps55
 go_wp2_with fail
 refine HC.out.mono ?_
 rintro e w' hs
 have HS := Lib.hid hs
 obtain ⟨rfl, _⟩ := hs
 clear HC
 go_wp2_with fail
 exact bodyPost_end (v := .tuple #[]) (by simp [results, Tryz.f55, go_sem]) rfl HS.out
/-- A row of edges, for good. -/
def RetE (w : World) (es : List Ed) (e : Ending) (w' : World) : Prop := ∃ A c, e = .returned (.slice A es.length c) ∧ RE w' A es.length c es ∧ Below w.heap.size w w'
set_option maxRecDepth 100000 in
theorem gof_any (w : World) (A : Option Addr) (n c : Nat) (g : List Ed) (h : RE w A n c g) (hn : n < 20) : Calls Tryz.prog 28 #[.slice A n c] w (RetE w (ofG g)) := by
 have HL := Lib.hid h
 clear h
 go_enter Tryz.func28, Tryz.ntmps28
 go_wp2_with fail
 refine (those_edge w A n c g HL.out (by omega)).mono ?_
 rintro e w1 ⟨v, rfl, ho, hb⟩
 obtain ⟨A1, c1, rfl, _⟩ := ho.row
 have hl : (g.filter edgeB).length < 20 := Nat.lt_of_le_of_lt (List.length_filter_le _ _) (by rw [HL.out.elen]; exact hn)
 have HC := sort_any w1 w.heap.size A1 c1 _ ho hl
 obtain ⟨m, hm⟩ : ∃ m, (g.filter edgeB).length = m := ⟨_, rfl⟩
 have HM : Hid ((ofG g).length = m) := Lib.hid (by unfold ofG; rw [sort_len]; exact hm)
 rw [hm] at HC ⊢
 have HC := Lib.hid HC
 have HB := Lib.hid hb
 clear ho hb hl hm
 go_wp2_with fail
 refine HC.out.mono ?_
 rintro e w2 ⟨rfl, ⟨A2, c2, e2, hr⟩, hG⟩
 injection e2 with e1 e2 e3
 subst e1 e3
 have hf : RetE w (ofG g) (.returned (.slice A1 m c1)) w2 := ⟨A1, c1, by rw [HM.out], by rw [HM.out, e2]; exact hr, HB.out.trans (hG.below (B := w.heap.size) HB.out.size (fun k hk hb => by omega))⟩
 have HF := Lib.hid hf
 clear hr hG hf HC e2
 go_wp2_with fail
 go_ret
 exact HF.out
end Go.Proofs.YthefgdehfgkhhaaGreat
