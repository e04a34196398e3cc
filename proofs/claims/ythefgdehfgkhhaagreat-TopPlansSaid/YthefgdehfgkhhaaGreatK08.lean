/-
  A mind: Copy, Odds.
-/
import Derived.Test.YthefgdehfgkhhaaGreatK05
import Derived.Shelf.SlMaps.Clone
import Derived.Test.YthefgdehfgkhhaaGreatK07
import Derived.Test.YthefgdehfgkhhaaGreatK01
import Derived.Test.YthefgdehfgkhhaaGreatK06
import Derived.Test.YthefgdehfgkhhaaGreatK02
import Derived.StillTailTactics
namespace Go.Proofs.YthefgdehfgkhhaaGreat
open Go.RowKit Go.Maps
set_option linter.unusedVariables false
set_option linter.unusedSimpArgs false
attribute [local go_sem] Oper.semAt_some
set_option maxRecDepth 100000 in
theorem mclone_any (w : World) (b n : Nat) (D : DataW Unit) (h : w.ownsMap Tryz.prog 125 (noteElem (H := Unit)) b n D) : Calls Tryz.prog 102 #[.map (some b)] w fun e w' => e = .returned (.map (some w.heap.size)) ∧ w'.ownsMap Tryz.prog 125 (noteElem (H := Unit)) w.heap.size n D ∧ Below w.heap.size w w' ∧ w.heap.size < w'.heap.size := by
 obtain ⟨es, clock, hb, F, hs, hD⟩ := h
 have hq := fun w => run_eql_map_nil_sl (P := Tryz.prog) w 81 _ _ (some b) Tryz.underlying81
 have hf : (w.alloc (.map es clock)).ownsMap Tryz.prog 125 (noteElem (H := Unit)) w.heap.size n D := ⟨es, clock, (MapKept.heap_alloc w _).1, F, hs, hD⟩
 have hbl : Below w.heap.size w (w.alloc (.map es clock)) := (Below.refl _ _).alloc (Nat.le_refl _) _
 have HF := Lib.hid (And.intro hf hbl)
 clear hf hbl hs hD F
 go_enter Tryz.func102, Tryz.ntmps102
 go_wp2
 rw [run_callFunc_extern Tryz.func80 (by kernel_rfl) (by kernel_rfl) (by kernel_rfl) (e := Extern.MapsClone.clone) (by kernel_rfl), run_maps_clone_sl w 81 hb]
 simp only [Result.andThen]
 rw [Oper.upon_value]
 go_wp2
 rw [run_typeAssert_map_sl _ 81 _ _ _ _ Tryz.underlying81]
 simp only [Result.andThen]
 rw [Oper.upon_value]
 go_wp2
 go_ret
 exact ⟨rfl, HF.out.1, HF.out.2, by simp⟩
theorem copy_any (w : World) (p b n : Nat) (L : Notes) (h : MindAt w p b n L) : Calls Tryz.prog 65 #[.pointer (some ⟨p, 0, none⟩)] w fun e w' => ∃ p2 b2, e = .returned (.pointer (some ⟨p2, 0, none⟩)) ∧ MindAt w' p2 b2 n L ∧ w.heap.size ≤ p2 ∧ w.heap.size ≤ b2 ∧ Below w.heap.size w w' := by
 obtain ⟨D, hown, hs⟩ := h.own
 have hc : w.cell? ⟨p, 0, none⟩ = some (.map (some b)) := h.box.cell 0
 have HO := Lib.hid hown
 have HS := Lib.hid hs
 clear hown hs h
 go_enter Tryz.func65, Tryz.ntmps65
 go_wp2_with fail
 refine (mclone_any w b n D HO.out).mono ?_
 rintro e w1 ⟨rfl, hown1, hb, hlt⟩
 have H1 := Lib.hid (And.intro hown1 (And.intro hb hlt))
 clear hown1 hb hlt
 go_wp2_with fail
 go_ret
 refine ⟨w1.heap.size, w.heap.size, rfl, ⟨Blk.new w1 _ _, ⟨D, H1.out.1.alloc _, HS.out⟩, by have := H1.out.2.2; omega⟩, H1.out.2.1.size, Nat.le_refl _, H1.out.2.1.alloc H1.out.2.1.size _⟩
/-- The odds of an amount: above and below, in lowest terms. -/
def oN (L : Notes) (e : E4) (x : Int) : Nat := (oddN L e x).toNat
def oD (L : Notes) (e : E4) : Nat := (oddD L e).toNat
def oddA (L : Notes) (e : E4) (x : Int) : List Nat := if oddOk e x then digs (oN L e x / Nat.gcd (oN L e x) (oD L e)) else []
def oddB (L : Notes) (e : E4) (x : Int) : List Nat := if oddOk e x then digs (oD L e / Nat.gcd (oN L e x) (oD L e)) else []
def RetOd (w : World) (L : Notes) (e : E4) (x : Int) (y : Ending) (w' : World) : Prop :=
 ∃ A n c B m d, y = .returned (.tuple #[.agg #[.slice A n c, .slice B m d], .bool (oddOk e x)]) ∧ Rd w' w'.heap.size A n c (oddA L e x) ∧ Rd w' w'.heap.size B m d (oddB L e x) ∧ Below w.heap.size w w'
set_option maxRecDepth 100000 in
set_option maxHeartbeats 1000000 in
theorem odds_any (w : World) (p b n : Nat) (L : Notes) (h : MindAt w p b n L) (hgd : Good L) (e : Ed) (x : Int) : Calls Tryz.prog 14 #[.pointer (some ⟨p, 0, none⟩), e.v, .int .i64 x] w (RetOd w L e.e4 x) := by
 obtain ⟨f, t, c, r, p0, p1, p2, p3, p4⟩ := e
 obtain ⟨cs, hcs⟩ : ∃ cs : Array Value, cs = #[.int .i64 f, .int .i64 t, .int .i64 c, .int .i64 r, .int .i64 p0, .int .i64 p1, .int .i64 p2, .int .i64 p3, .int .i64 p4] := ⟨_, rfl⟩
 obtain ⟨w0, hw0⟩ : ∃ w0, w0 = (w.alloc (.cells cs 56)).alloc (.cells #[.slice none 0 0, .slice none 0 0] 34) := ⟨_, rfl⟩
 have hb0 : Below w.heap.size w w0 := by rw [hw0]; exact ((Below.refl _ _).alloc (Nat.le_refl _) _).alloc (by simp) _
 have J0 : Blk w0 w.heap.size 56 cs := by rw [hw0]; exact (Blk.new w _ _).alloc _
 have R0 : Blk w0 (w.heap.size + 1) 34 #[.slice none 0 0, .slice none 0 0] := by
  rw [hw0]
  have := Blk.new (w.alloc (.cells cs 56)) 34 #[.slice none 0 0, .slice none 0 0]
  rw [World.size_alloc] at this
  exact this
 have hM0 := h.on hb0
 rw [hcs] at hw0 J0
 clear hcs
 have j0 := J0.cell 0
 have j1 := J0.cell 1
 have j2 := J0.cell 2
 have j3 := J0.cell 3
 have j4 := J0.cell 4
 have j5 := J0.cell 5
 have j6 := J0.cell 6
 have j7 := J0.cell 7
 have j8 := J0.cell 8
 simp only [Ed.v, Ed.cs]
 go_enter Tryz.func14, Tryz.ntmps14
 go_wp2_with fail
 rw [← hw0]
 clear hw0
 go_wp2_with fail
 refine (may_any ⟨f, t, c, r, p0, p1, p2, p3, p4⟩ w0).mono ?_
 rintro y w1 ⟨rfl, hb⟩
 have J := J0.below hb J0.lt
 have R := R0.below hb R0.lt
 have hM := hM0.on hb
 have hb1 := bltB hb0 hb0.size hb
 clear hb j0 j1 j2 j3 j4 j5 j6 j7 j8 hM0 h J0 R0 hb0
 have HE : Hid (oddOk (Ed.e4 ⟨f, t, c, r, p0, p1, p2, p3, p4⟩) x = (mayB f t c r && (decide (0 ≤ x) && decide (x ≤ r)))) := Lib.hid rfl
 have hj0 := J.cell 0
 have hj1 := J.cell 1
 have hj2 := J.cell 2
 have hj3 := J.cell 3
 have hj4 := J.cell 4
 have hj5 := J.cell 5
 have hj6 := J.cell 6
 have hj7 := J.cell 7
 have hj8 := J.cell 8
 have hr0 := R.cell 0
 have hr1 := R.cell 1
 have hf0 := R.frozen 0
 have hf1 := R.frozen 1
 simp only
 by_cases hok : (mayB f t c r && (decide (0 ≤ x) && decide (x ≤ r))) = true
 ·simp only [Bool.and_eq_true, decide_eq_true_eq] at hok
  obtain ⟨hm, hx0, hx1⟩ := hok
  have HT : Hid (oddOk (Ed.e4 ⟨f, t, c, r, p0, p1, p2, p3, p4⟩) x = true) := Lib.hid (by rw [HE.out, hm, decide_eq_true hx0, decide_eq_true hx1]; rfl)
  have hs := mayB_iff.1 hm
  have hrr := hs.2.2.2.2.1
  have hrm := hs.2.2.2.2.2
  have hcnt := cnt_ok hgd (f, c) hrr
  rw [hm]
  clear HE
  go_wp2_with fail
  refine (bounds_any w1 p b n L hM hgd ⟨f, t, c, r, p0, p1, p2, p3, p4⟩).mono ?_
  rintro y w2 ⟨rfl, hb⟩
  have HB : Hid (bnd L (Ed.e4 ⟨f, t, c, r, p0, p1, p2, p3, p4⟩) = cnt L (f, c) r) := Lib.hid (by unfold bnd; rw [if_pos]; rfl; exact hm)
  rw [HB.out]
  have R2 := R.below hb R.lt
  have hb2 := bltB hb1 hb1.size hb
  have HN : Hid (oN L (Ed.e4 ⟨f, t, c, r, p0, p1, p2, p3, p4⟩) x = ((cnt L (f, c) r).2 - min (max x (cnt L (f, c) r).1) (cnt L (f, c) r).2).toNat) := Lib.hid rfl
  have HD : Hid (oD L (Ed.e4 ⟨f, t, c, r, p0, p1, p2, p3, p4⟩) = ((cnt L (f, c) r).2 - (cnt L (f, c) r).1).toNat) := Lib.hid rfl
  clear hb R J hM hj0 hj1 hj2 hj3 hj4 hj5 hj6 hj7 hj8 hr0 hr1 hf0 hf1 hb1 HB
  obtain ⟨lo, hlo⟩ : ∃ lo, (cnt L (f, c) r).1 = lo := ⟨_, rfl⟩
  obtain ⟨hi, hhi⟩ : ∃ hi, (cnt L (f, c) r).2 = hi := ⟨_, rfl⟩
  rw [hlo, hhi] at hcnt HN
  rw [hlo, hhi] at HD
  simp only [hlo, hhi]
  clear hlo hhi
  obtain ⟨z1, hz1, hv1⟩ := max_named x lo
  obtain ⟨z2, hz2, hv2⟩ := min_named z1 hi
  obtain ⟨N, hN⟩ : ∃ N : Nat, hi - z2 = (N : Int) := ⟨(hi - z2).toNat, by omega⟩
  obtain ⟨D, hD⟩ : ∃ D : Nat, hi - lo = (D : Int) := ⟨(hi - lo).toNat, by omega⟩
  have HN2 : Hid (oN L (Ed.e4 ⟨f, t, c, r, p0, p1, p2, p3, p4⟩) x = N) := Lib.hid (by rw [HN.out, ← hz1, ← hz2, hN]; rfl)
  have HD2 : Hid (oD L (Ed.e4 ⟨f, t, c, r, p0, p1, p2, p3, p4⟩) = D) := Lib.hid (by rw [HD.out, hD]; rfl)
  have hw1 : IntKind.i64.wrap (hi - z2) = (N : Int) := by rw [IntWalk.i64_in _ (by omega), hN]
  have hw2 : IntKind.i64.wrap (hi - lo) = (D : Int) := by rw [IntWalk.i64_in _ (by omega), hD]
  have hNb : N < 18446744073709551616 := by omega
  have hDb : D < 18446744073709551616 := by omega
  have hD0 : 0 < D := by omega
  have HZ := Lib.hid (And.intro hNb (And.intro hDb hD0))
  have hu1 : IntKind.u64.wrap (N : Int) = (N : Int) := by simp [IntKind.wrap, IntKind.signed, IntKind.bits]; omega
  have hu2 : IntKind.u64.wrap (D : Int) = (D : Int) := by simp [IntKind.wrap, IntKind.signed, IntKind.bits]; omega
  clear HN HD hz1 hz2 hcnt hN hD hs hNb hDb hD0 hx0 hx1 hrr hrm hm
  go_wp2_with fail
  refine (fof_any w2 N D HZ.out.1 HZ.out.2.1).mono ?_
  rintro y w3 ⟨A, n', c', B, m', d', rfl, r1, r2, hb⟩
  have hD0 := HZ.out.2.2
  rw [if_neg (Nat.pos_iff_ne_zero.1 hD0)] at r1 r2
  rw [decide_eq_true hD0]
  have R3 := R2.below hb R2.lt
  have hb3 := bltB hb2 hb2.size hb
  have hc0 := R3.cell 0
  have hc1 := R3.cell 1
  have hf0 := R3.frozen 0
  have hf1 := R3.frozen 1
  clear hb R2 hb2
  go_wp2_with fail
  obtain ⟨h4, q1, q2, hb4⟩ := fr_store R3 r1 r2 hb3 (Nat.le_succ _)
  refine bodyPost_ret (v := .tuple #[.agg #[.slice A n' c', .slice B m' d'], .bool true]) ?_ rfl ?_
  ·have e0 := h4.cell 0
   have e1 := h4.cell 1
   simp [results, Tryz.f14, go_sem, e0, e1]
  ·refine ⟨A, n', c', B, m', d', by rw [HT.out], ?_, ?_, hb4⟩
   ·unfold oddA; rw [if_pos HT.out, HN2.out, HD2.out]; exact q1
   ·unfold oddB; rw [if_pos HT.out, HN2.out, HD2.out]; exact q2
 ·have HT : Hid (oddOk (Ed.e4 ⟨f, t, c, r, p0, p1, p2, p3, p4⟩) x = false) := Lib.hid (by rw [HE.out]; simpa using hok)
  have HA : Hid (oddA L (Ed.e4 ⟨f, t, c, r, p0, p1, p2, p3, p4⟩) x = []) := Lib.hid (by unfold oddA; rw [if_neg (by rw [HT.out]; decide)])
  have HB : Hid (oddB L (Ed.e4 ⟨f, t, c, r, p0, p1, p2, p3, p4⟩) x = []) := Lib.hid (by unfold oddB; rw [if_neg (by rw [HT.out]; decide)])
  rcases hm : mayB f t c r with _ | _
  ·clear hok HE
   go_wp2_with fail
   obtain ⟨h4, q1, q2, hb4⟩ := fr_store R (Rd.nil _ _) (Rd.nil _ _) hb1 (Nat.le_succ _)
   refine bodyPost_ret (v := .tuple #[.agg #[.slice none 0 0, .slice none 0 0], .bool false]) ?_ rfl ?_
   ·have e0 := h4.cell 0
    have e1 := h4.cell 1
    simp [results, Tryz.f14, go_sem, e0, e1]
   ·refine ⟨none, 0, 0, none, 0, 0, by rw [HT.out], ?_, ?_, hb4⟩
    ·rw [HA.out]; exact q1
    ·rw [HB.out]; exact q2
  ·by_cases hx0 : 0 ≤ x
   ·have hx1 : ¬ x ≤ r := fun hx1 => hok (by rw [hm, decide_eq_true hx0, decide_eq_true hx1]; rfl)
    clear hok HE
    go_wp2_with fail
    obtain ⟨h4, q1, q2, hb4⟩ := fr_store R (Rd.nil _ _) (Rd.nil _ _) hb1 (Nat.le_succ _)
    refine bodyPost_ret (v := .tuple #[.agg #[.slice none 0 0, .slice none 0 0], .bool false]) ?_ rfl ?_
    ·have e0 := h4.cell 0
     have e1 := h4.cell 1
     simp [results, Tryz.f14, go_sem, e0, e1]
    ·refine ⟨none, 0, 0, none, 0, 0, by rw [HT.out], ?_, ?_, hb4⟩
     ·rw [HA.out]; exact q1
     ·rw [HB.out]; exact q2
   ·clear hok HE
    go_wp2_with fail
    obtain ⟨h4, q1, q2, hb4⟩ := fr_store R (Rd.nil _ _) (Rd.nil _ _) hb1 (Nat.le_succ _)
    refine bodyPost_ret (v := .tuple #[.agg #[.slice none 0 0, .slice none 0 0], .bool false]) ?_ rfl ?_
    ·have e0 := h4.cell 0
     have e1 := h4.cell 1
     simp [results, Tryz.f14, go_sem, e0, e1]
    ·refine ⟨none, 0, 0, none, 0, 0, by rw [HT.out], ?_, ?_, hb4⟩
     ·rw [HA.out]; exact q1
     ·rw [HB.out]; exact q2
end Go.Proofs.YthefgdehfgkhhaaGreat
namespace Go.Proofs.YthefgdehfgkhhaaGreat
set_option linter.unusedVariables false
set_option linter.unusedSimpArgs false
/-- An edge of noughts. -/
def Ed.z : Ed := ⟨0, 0, 0, 0, 0, 0, 0, 0, 0⟩
def eAt (l : List Ed) (i : Nat) : Ed := l.getD i Ed.z
/-! Policies, edges, graphs. -/
def inB (n low high : Int) : Bool := decide (low ≤ n) && decide (n ≤ high)
def polB (e : Ed) : Bool := inB e.p0 0 1125899906842624 && (inB e.p3 0 e.p4 && (inB e.p4 0 1125899906842624 && (inB e.p1 0 1000000 && inB e.p2 0 1048576)))
def feeB (e : Ed) (a : Int) : Bool := partB a e.p1 1000000 && (polB e && addB e.p0 (a * e.p1 / 1000000))
def feeV (e : Ed) (a : Int) : Int := if feeB e a then e.p0 + a * e.p1 / 1000000 else 0
def edgeB (e : Ed) : Bool := inB e.f 0 11 && (inB e.t 0 11 && (decide (e.f ≠ e.t) && (inB e.c 0 39 && (inB e.r 1 1125899906842624 && polB e))))
def orI (a b : Int) : Int := if a = 0 then b else a
def orderI (a b : Ed) : Int := orI (cmpI a.c b.c) (cmpI a.f b.f)
def rightAt (g : List Ed) (i : Nat) : Bool :=
 edgeB (eAt g i) && ((decide (i = 0) || decide (orderI (eAt g (i - 1)) (eAt g i) < 0)) &&
  (decide (i = 0) || (decide ((eAt g (i - 1)).c ≠ (eAt g i).c) ||
   ((decide (i ≤ 1) || decide ((eAt g (i - 2)).c ≠ (eAt g i).c)) && (decide ((eAt g (i - 1)).f = (eAt g i).t) && (decide ((eAt g (i - 1)).t = (eAt g i).f) && decide ((eAt g (i - 1)).r = (eAt g i).r)))))))
def rightG (g : List Ed) : Bool := (List.range g.length).all (rightAt g)
/-- An edge is brought td its place among those that lie ahead, from behind. -/
def insE (e : Ed) : List Ed → List Ed
 | [] => [e]
 | a :: l => if orderI e a < 0 then a :: insE e l else e :: a :: l
def sortE (l : List Ed) : List Ed := (l.foldl (fun r e => insE e r) []).reverse
def ofG (l : List Ed) : List Ed := sortE (l.filter edgeB)
def intoG (g : List Ed) (p : Int) : List Ed := g.filter fun e => decide (e.t = p)
/-! Ways and what they cost. -/
def wayAt (l : List Ed) (i : Nat) : Bool :=
 edgeB (eAt l i) && ((decide (i = 0) || decide ((eAt l (i - 1)).t = (eAt l i).f)) && !(l.take i).any (fun x => decide (x.f = (eAt l i).t) || decide (x.t = (eAt l i).t)))
def wayB (l : List Ed) : Bool := (decide (1 ≤ l.length) && decide (l.length ≤ 8)) && (List.range l.length).all (wayAt l)
/-- From the last edge on: what is sent, and till when. -/
def costR : List Ed → Int → Int → Option (List Int × List Int)
 | [], _, _ => some ([], [])
 | e :: es, a, x =>
  if inB a e.p3 (min e.p4 e.r) && decide (x ≤ 1048576) then
   if es.isEmpty || (feeB e a && addB a (feeV e a)) then
    (costR es (if addB a (feeV e a) then a + feeV e a else 0) (x + e.p2)).map fun r => (r.1 ++ [a], r.2 ++ [x])
   else none
  else none
def cost (l : List Ed) (a x : Int) : Option (List Int × List Int) :=
 if wayB l && (inB a 1 1125899906842624 && inB x 1 1048576) then costR l.reverse a x else none
/-! Odds of ways, and the way with the greatest ones. -/
def oddQ (L : Notes) (e : Ed) (x : Int) : Rat := mkRat (oN L e.e4 x : Nat) (oD L e.e4)
def oddsL (L : Notes) : List Ed → List Int → Rat → Rat
 | e :: es, x :: xs, q => oddsL L es xs (q * oddQ L e x)
 | _, _, q => q
def oddsW (L : Notes) (l : List Ed) (a x : Int) : Option (Rat × Int) := (cost l a x).map fun r => (oddsL L l r.1 1, r.1.headD 0)
structure Fnd where
 way : List Ed
 q : Rat
 s : Int
def rowsI : List Ed → List Ed → Int
 | [], [] => 0
 | [], _ :: _ => -1
 | _ :: _, [] => 1
 | a :: as_, b :: bs => if cmpI a.c b.c ≠ 0 then cmpI a.c b.c else rowsI as_ bs
def betterB (a b : Fnd) : Bool := decide (orI (cmpQ b.q a.q) (orI (cmpI a.s b.s) (rowsI a.way b.way)) < 0)
def lessB (q : Rat) (b : Option Fnd) : Bool := match b with | none => false | some y => decide (cmpQ q y.q < 0)
def cutB (l : List Ed) (o : Option (Rat × Int)) (b : Option Fnd) : Bool :=
 match o with
 | none => !l.isEmpty
 | some (q, _) => !l.isEmpty && (decide (q = 0) || lessB q b)
def keepF (b : Option Fnd) (x : Fnd) : Option Fnd := match b with | none => some x | some y => if betterB x y then some x else some y
def lookF (L : Notes) (g : List Ed) (fr td a x : Int) : Nat → Option Fnd → List Ed → Int → Option Fnd
 | 0, b, l, at_ =>
  if cutB l (oddsW L l a x) b then b
  else if at_ = fr then keepF b ⟨l, ((oddsW L l a x).getD (0, 0)).1, ((oddsW L l a x).getD (0, 0)).2⟩
  else b
 | n + 1, b, l, at_ =>
  if cutB l (oddsW L l a x) b then b
  else if at_ = fr then keepF b ⟨l, ((oddsW L l a x).getD (0, 0)).1, ((oddsW L l a x).getD (0, 0)).2⟩
  else (intoG g at_).foldl (fun b e => if decide (e.f = td) || l.any (fun y => decide (y.f = e.f)) then b else lookF L g fr td a x n b (e :: l) e.f) b
def argsB (g : List Ed) (fr td a x : Int) : Bool :=
 rightG g && (inB fr 0 11 && (inB td 0 11 && (decide (fr ≠ td) && (inB a 1 1125899906842624 && inB x 1 1048576))))
def bestF (L : Notes) (g : List Ed) (fr td a x : Int) : Option Fnd := if argsB g fr td a x then lookF L g fr td a x 8 none [] td else none
/-- What became of a way is noted. -/
def noteF (L : Notes) : List Ed → List Int → Int → Notes
 | e :: es, x :: xs, k => if k = 0 then failL L e.e4 x else noteF (passL L e.e4 x) es xs (k - 1)
 | _, _, _ => L
/-! Parts. -/
def shares (a n : Int) : Option (List Int) :=
 if n < 1 ∨ 8 < n ∨ a < n then none else some ((List.range n.toNat).map fun (i : Nat) => a / n + if (i : Int) < a % n then 1 else 0)
structure Prt where
 a : Int
 way : List Ed
 s : List Int
 t : List Int
def sentL (L : Notes) : List Ed → List Int → Notes
 | e :: es, x :: xs => sentL (moveL (passL L e.e4 x) e.e4 x) es xs
 | _, _ => L
def sendF (g : List Ed) (fr td x : Int) (L : Notes) (a : Int) : Option (Prt × Fnd) :=
 (bestF L g fr td a x).bind fun y => (cost y.way a x).map fun r => (⟨a, y.way, r.1, r.2⟩, y)
def sendsF (g : List Ed) (fr td x : Int) : Notes → Rat → List Int → Option (List Prt × Rat)
 | L, q, [] => some ([], q)
 | L, q, a :: as_ => match sendF g fr td x L a with
  | none => none
  | some (p, y) => (sendsF g fr td x (sentL L p.way p.s) (q * y.q) as_).map fun r => (p :: r.1, r.2)
def tryF (L : Notes) (g : List Ed) (fr td a x n : Int) : Option (List Prt × Rat) :=
 match shares a n with
 | none => none
 | some sh => sendsF g fr td x L 1 sh
def moreF (b o : Option (List Prt × Rat)) : Option (List Prt × Rat) := match o with
 | none => b
 | some y => match b with
  | none => some y
  | some z => if 0 < cmpQ y.2 z.2 then some y else some z
def splitF (L : Notes) (g : List Ed) (fr td a x most : Int) : Option (List Prt × Rat) :=
 if argsB g fr td a x then (List.range most.toNat).foldl (fun b (i : Nat) => moreF b (tryF L g fr td a x (i + 1))) none else none
def totalF (l : List Prt) : Int := (l.map fun p => p.s.headD 0).sum
end Go.Proofs.YthefgdehfgkhhaaGreat
namespace Go.Proofs.YthefgdehfgkhhaaGreat
open Go.RowKit
set_option linter.unusedVariables false
set_option linter.unusedSimpArgs false
/-- The slice A, n long, reads as the list l of elements of k cells each, in a block of the type T. -/
structure Rg (T : TypeId) (k : Nat) (w : World) (A : Option Addr) (n c : Nat) (l : List (Array Value)) : Prop where
 len : l.length = n
 cap : n ≤ c
 wide : ∀ a ∈ l, a.size = k
 at_ : 0 < n → ∃ (b off : Nat) (cs : Array Value) (fr : Nat × Nat), A = some ⟨b, off, none⟩ ∧ w.heap[b]? = some (.cells cs T fr) ∧ ∀ (i : Nat) (a : Array Value), l[i]? = some a → ∀ (j : Nat) (v : Value), a[j]? = some v → cs[off + i * k + j]? = some v
/-- What turns is in M; all else that was there is as it was. -/
structure Gr (M : Nat → Prop) (w w' : World) : Prop where
 os : w'.os = w.os
 tape : w'.tape = w.tape
 output : w'.output = w.output
 size : w.heap.size ≤ w'.heap.size
 block : ∀ k, k < w.heap.size → ¬ M k → w'.heap[k]? = w.heap[k]?
theorem blk_lt {w : World} {b : Nat} {o : Obj} (h : w.heap[b]? = some o) : b < w.heap.size := (Array.getElem?_eq_some_iff.1 h).1
theorem Gr.refl (M : Nat → Prop) (w : World) : Gr M w w := ⟨rfl, rfl, rfl, Nat.le_refl _, fun _ _ _ => rfl⟩
theorem Gr.trans {M : Nat → Prop} {w a b : World} (h : Gr M w a) (k : Gr M a b) : Gr M w b :=
 ⟨k.os.trans h.os, k.tape.trans h.tape, k.output.trans h.output, Nat.le_trans h.size k.size, fun i hi hn => (k.block i (Nat.lt_of_lt_of_le hi h.size) hn).trans (h.block i hi hn)⟩
theorem Gr.mono {M N : Nat → Prop} {w a : World} (h : Gr M w a) (hs : ∀ k, k < w.heap.size → M k → N k) : Gr N w a :=
 ⟨h.os, h.tape, h.output, h.size, fun i hi hn => h.block i hi fun hm => hn (hs i hi hm)⟩
theorem Gr.of_below {M : Nat → Prop} {w a : World} (h : Below w.heap.size w a) : Gr M w a := ⟨h.os, h.tape, h.output, h.size, fun i hi _ => h.block i hi⟩
theorem Gr.of_grown {M : Nat → Prop} {w a : World} {b : Nat} (h : w.grownBy a (some b)) (hb : M b) : Gr M w a :=
 ⟨h.os, h.tape, h.output, h.size, fun i hi hn => h.block i hi fun e => hn (by injection e with e; subst e; exact hb)⟩
theorem Gr.below {M : Nat → Prop} {B : Nat} {w a : World} (h : Gr M w a) (hB : B ≤ w.heap.size) (hM : ∀ k, k < B → ¬ M k) : Below B w a :=
 ⟨h.os, h.tape, h.output, h.size, fun i hi => h.block i (Nat.lt_of_lt_of_le hi hB) (hM i hi)⟩
theorem Gr.drew {M : Nat → Prop} {w a : World} (h : Gr M w a) : Gr M w a.drew := h.trans (Gr.of_below (Below.refl _ _).drew)
theorem Gr.setCell {M : Nat → Prop} {w a : World} (h : Gr M w a) {g i : Nat} (hg : g < w.heap.size → M g) (v : Value) : Gr M w (a.setCell ⟨g, i, none⟩ v) :=
 ⟨h.os, h.tape, h.output, by rw [World.size_setCell]; exact h.size, fun k hk hn => by
  rw [← h.block k hk hn]
  exact Below.heap_setCell a ⟨g, i, none⟩ v k (fun e => by
   have e : k = g := e
   subst e
   exact hn (hg hk))⟩
theorem Gr.alloc {M : Nat → Prop} {w a : World} (h : Gr M w a) (o : Obj) : Gr M w (a.alloc o) := h.trans (Gr.of_below ((Below.refl _ _).alloc (Nat.le_refl _) o))
section
variable {T : TypeId} {k : Nat} {w w' : World} {A : Option Addr} {n c : Nat} {l : List (Array Value)} {M : Nat → Prop}
theorem Rg.stay (h : Rg T k w A n c l) (hk : ∀ (b : Nat) cs fr, w.heap[b]? = some (.cells cs T fr) → w'.heap[b]? = w.heap[b]?) : Rg T k w' A n c l :=
 ⟨h.len, h.cap, h.wide, fun h0 => by
  obtain ⟨b, off, cs, fr, e, hh, hc⟩ := h.at_ h0
  exact ⟨b, off, cs, fr, e, (hk b cs fr hh).trans hh, hc⟩⟩
theorem Rg.on (h : Rg T k w A n c l) (hb : Below w.heap.size w w') : Rg T k w' A n c l := h.stay fun b _ _ hh => hb.block b (blk_lt hh)
theorem Rg.gr (h : Rg T k w A n c l) (hg : Gr M w w') (hM : ∀ (b : Nat) cs fr, w.heap[b]? = some (.cells cs T fr) → ¬ M b) : Rg T k w' A n c l :=
 h.stay fun b cs fr hh => hg.block b (blk_lt hh) (hM b cs fr hh)
theorem Rg.drew (h : Rg T k w A n c l) : Rg T k w.drew A n c l := ⟨h.len, h.cap, h.wide, h.at_⟩
theorem Rg.nil (w : World) : Rg T k w none 0 0 [] := ⟨rfl, Nat.le_refl _, (fun _ h => by cases h), fun h => absurd h (Nat.lt_irrefl _)⟩
/-- An element's place and its cells. -/
theorem Rg.cells (h : Rg T k w A n c l) {i : Nat} (hi : i < n) : ∃ (b off : Nat) (a : Array Value), A = some ⟨b, off, none⟩ ∧ b < w.heap.size ∧ l[i]? = some a ∧ (∀ (j : Nat) (v : Value), a[j]? = some v → w.cell? ⟨b, off + i * k + j, none⟩ = some v) := by
 obtain ⟨b, off, cs, fr, e, hh, hc⟩ := h.at_ (by omega)
 have hl : i < l.length := by rw [h.len]; exact hi
 exact ⟨b, off, l[i], e, blk_lt hh, List.getElem?_eq_getElem hl, fun j v hv => by rw [cell_of_row w b _ cs T fr hh]; exact hc i _ (List.getElem?_eq_getElem hl) j v hv⟩
theorem flat_len (l : List (Array Value)) (hw : ∀ a ∈ l, a.size = k) : (l.flatMap fun a => a.toList).length = l.length * k := by
 induction l with
 | nil => simp
 | cons a l ih =>
  rw [List.flatMap_cons, List.length_append, ih (fun x hx => hw x (List.mem_cons_of_mem _ hx)), Array.length_toList, hw a (List.mem_cons_self ..), List.length_cons, Nat.succ_mul, Nat.add_comm]
theorem flat_at : ∀ (l : List (Array Value)) (hw : ∀ a ∈ l, a.size = k) (i : Nat) (a : Array Value), l[i]? = some a → ∀ j v, a[j]? = some v → (l.flatMap fun a => a.toList)[i * k + j]? = some v
 | [], _, i, a, h, _, _, _ => by simp at h
 | x :: l, hw, 0, a, h, j, v, hv => by
  simp at h
  subst h
  rw [List.flatMap_cons, Nat.zero_mul, Nat.zero_add, List.getElem?_append_left (by
   have := (Array.getElem?_eq_some_iff.1 hv).1
   simpa using this)]
  simpa using hv
 | x :: l, hw, i + 1, a, h, j, v, hv => by
  have hx := hw x (List.mem_cons_self ..)
  rw [List.flatMap_cons, List.getElem?_append_right (by rw [Array.length_toList, hx, Nat.succ_mul]; omega)]
  have := flat_at l (fun y hy => hw y (List.mem_cons_of_mem _ hy)) i a (by simpa using h) j v hv
  rw [← this]
  congr 1
  rw [Array.length_toList, hx, Nat.succ_mul]
  omega
theorem flat_of : ∀ (l : List (Array Value)) (hw : ∀ a ∈ l, a.size = k) (j : Nat) (v : Value), (l.flatMap fun a => a.toList)[j]? = some v → ∃ i a, l[i]? = some a ∧ ∃ q, a[q]? = some v ∧ j = i * k + q
 | [], _, j, v, h => by simp at h
 | x :: l, hw, j, v, h => by
  have hx := hw x (List.mem_cons_self ..)
  rw [List.flatMap_cons] at h
  rcases Nat.lt_or_ge j k with hj | hj
  ·rw [List.getElem?_append_left (by rw [Array.length_toList, hx]; exact hj)] at h
   exact ⟨0, x, rfl, j, by simpa using h, by simp⟩
  ·rw [List.getElem?_append_right (by rw [Array.length_toList, hx]; exact hj)] at h
   obtain ⟨i, a, h1, q, h2, h3⟩ := flat_of l (fun y hy => hw y (List.mem_cons_of_mem _ hy)) _ v h
   rw [Array.length_toList, hx] at h3
   exact ⟨i + 1, a, by simpa using h1, q, h2, by rw [Nat.succ_mul]; omega⟩
/-- What owns the flat cells reads as the rows. -/
theorem Rg.of_own {base : Nat} {v : Value} (hw : ∀ a ∈ l, a.size = k) (hl : l.length = n) (h : w.ownsRow base T k v n (l.flatMap fun a => a.toList)) : ∃ A c, v = .slice A n c ∧ Rg T k w A n c l := by
 rcases h.2 with ⟨rfl, hx⟩ | ⟨g, cap, cur, rfl, hg, hh, hnc, hcs, hx⟩
 ·have hn : n = 0 := by
   have := h.1
   rcases Nat.eq_zero_or_pos n with h0 | h0
   ·exact h0
   ·exfalso
    obtain ⟨_, _, e, _⟩ := h.form h0
    cases e
  subst hn
  have : l = [] := List.eq_nil_of_length_eq_zero hl
  subst this
  exact ⟨none, 0, rfl, Rg.nil w⟩
 ·refine ⟨some ⟨g, 0, none⟩, cap, rfl, hl, hnc, hw, fun h0 => ⟨g, 0, cur, (0, 0), rfl, hh, fun i a hi j u hu => ?_⟩⟩
  have := h.cells (g := g) rfl (i * k + j) u (flat_at l hw i a hi j u hu)
  rw [addr_add, cell_of_row w g _ cur T (0, 0) hh] at this
  simpa using this
/-- For append: the flat cells are read. -/
theorem Rg.reads (h : Rg T k w A n c l) : Reads w w.heap.size k A n (l.flatMap fun a => a.toList) := by
 refine ⟨by rw [flat_len l h.wide, h.len], fun h0 => ?_⟩
 obtain ⟨b, off, cs, fr, rfl, hh, hc⟩ := h.at_ h0
 refine ⟨_, rfl, blk_lt hh, fun j v hv => ?_⟩
 obtain ⟨i, a, h1, q, h2, rfl⟩ := flat_of l h.wide j v hv
 rw [addr_add, cell_of_row w b _ cs T fr hh, ← Nat.add_assoc]
 exact hc i a h1 q v h2
/-- A block that is known whole reads as rows. -/
theorem Rg.of_blk {g : Nat} {cs : Array Value} (h : Blk w g T cs) (hw : ∀ a ∈ l, a.size = k) (hc : ∀ (i : Nat) (a : Array Value), l[i]? = some a → ∀ (j : Nat) (v : Value), a[j]? = some v → cs[i * k + j]? = some v) {m : Nat} (hm : l.length ≤ m) : Rg T k w (some ⟨g, 0, none⟩) l.length m l :=
 ⟨rfl, hm, hw, fun _ => ⟨g, 0, cs, (0, 0), rfl, h, fun i a hi j v hv => by rw [Nat.zero_add]; exact hc i a hi j v hv⟩⟩
end
/-! Rows of edges, rows of numbers. -/
def ecs (es : List Ed) : List (Array Value) := es.map Ed.cs
def ics (xs : List Int) : List (Array Value) := xs.map fun x => #[.int .i64 x]
abbrev RE (w : World) (A : Option Addr) (n c : Nat) (es : List Ed) : Prop := Rg 56 9 w A n c (ecs es)
abbrev RI (w : World) (A : Option Addr) (n c : Nat) (xs : List Int) : Prop := Rg 3 1 w A n c (ics xs)
theorem ecs_wide (es : List Ed) : ∀ a ∈ ecs es, a.size = 9 := by
 intro a ha
 obtain ⟨e, _, rfl⟩ := List.mem_map.1 ha
 rfl
theorem ics_wide (xs : List Int) : ∀ a ∈ ics xs, a.size = 1 := by
 intro a ha
 obtain ⟨e, _, rfl⟩ := List.mem_map.1 ha
 rfl
theorem Rg.elen {w : World} {A : Option Addr} {n c : Nat} {es : List Ed} (h : RE w A n c es) : es.length = n := by have := h.len; rwa [ecs, List.length_map] at this
theorem Rg.ilen {w : World} {A : Option Addr} {n c : Nat} {xs : List Int} (h : RI w A n c xs) : xs.length = n := by have := h.len; rwa [ics, List.length_map] at this
/-- An edge's cells. -/
theorem Rg.edge {w : World} {A : Option Addr} {n c : Nat} {es : List Ed} (h : RE w A n c es) {i : Nat} (hi : i < n) :
 ∃ b off e, A = some ⟨b, off, none⟩ ∧ b < w.heap.size ∧ es[i]? = some e ∧ eAt es i = e ∧ w.cell? ⟨b, off + i * 9, none⟩ = some (.int .i64 e.f) ∧ w.cell? ⟨b, off + i * 9 + 1, none⟩ = some (.int .i64 e.t) ∧ w.cell? ⟨b, off + i * 9 + 2, none⟩ = some (.int .i64 e.c) ∧
  w.cell? ⟨b, off + i * 9 + 3, none⟩ = some (.int .i64 e.r) ∧ w.cell? ⟨b, off + i * 9 + 4, none⟩ = some (.int .i64 e.p0) ∧ w.cell? ⟨b, off + i * 9 + 5, none⟩ = some (.int .i64 e.p1) ∧ w.cell? ⟨b, off + i * 9 + 6, none⟩ = some (.int .i64 e.p2) ∧
  w.cell? ⟨b, off + i * 9 + 7, none⟩ = some (.int .i64 e.p3) ∧ w.cell? ⟨b, off + i * 9 + 8, none⟩ = some (.int .i64 e.p4) := by
 obtain ⟨b, off, a, e, hb, hl, hc⟩ := h.cells hi
 have hlen : i < es.length := by rw [h.elen]; exact hi
 rw [ecs, List.getElem?_map, List.getElem?_eq_getElem hlen] at hl
 have hl : es[i].cs = a := Option.some.inj hl
 subst hl
 refine ⟨b, off, es[i], e, hb, List.getElem?_eq_getElem hlen, ?_, hc 0 _ rfl, hc 1 _ rfl, hc 2 _ rfl, hc 3 _ rfl, hc 4 _ rfl, hc 5 _ rfl, hc 6 _ rfl, hc 7 _ rfl, hc 8 _ rfl⟩
 rw [eAt, List.getD_eq_getElem?_getD, List.getElem?_eq_getElem hlen]
 rfl
/-- An edge's cells, where the row is known. -/
theorem Rg.edge_at {w : World} {b off n c : Nat} {es : List Ed} (h : RE w (some ⟨b, off, none⟩) n c es) {i : Nat} (hi : i < n) :
 ∃ e, b < w.heap.size ∧ es[i]? = some e ∧ eAt es i = e ∧ w.cell? ⟨b, off + i * 9, none⟩ = some (.int .i64 e.f) ∧ w.cell? ⟨b, off + i * 9 + 1, none⟩ = some (.int .i64 e.t) ∧ w.cell? ⟨b, off + i * 9 + 2, none⟩ = some (.int .i64 e.c) ∧
  w.cell? ⟨b, off + i * 9 + 3, none⟩ = some (.int .i64 e.r) ∧ w.cell? ⟨b, off + i * 9 + 4, none⟩ = some (.int .i64 e.p0) ∧ w.cell? ⟨b, off + i * 9 + 5, none⟩ = some (.int .i64 e.p1) ∧ w.cell? ⟨b, off + i * 9 + 6, none⟩ = some (.int .i64 e.p2) ∧
  w.cell? ⟨b, off + i * 9 + 7, none⟩ = some (.int .i64 e.p3) ∧ w.cell? ⟨b, off + i * 9 + 8, none⟩ = some (.int .i64 e.p4) := by
 obtain ⟨b', off', e, hA, hb, hx, hat, hc⟩ := h.edge hi
 injection hA with hA
 injection hA with h1 h2
 subst h1 h2
 exact ⟨e, hb, hx, hat, hc⟩
theorem Rg.num {w : World} {A : Option Addr} {n c : Nat} {xs : List Int} (h : RI w A n c xs) {i : Nat} (hi : i < n) :
 ∃ b off, A = some ⟨b, off, none⟩ ∧ b < w.heap.size ∧ xs[i]? = some (xs.getD i 0) ∧ w.cell? ⟨b, off + i, none⟩ = some (.int .i64 (xs.getD i 0)) := by
 obtain ⟨b, off, a, e, hb, hl, hc⟩ := h.cells hi
 have hlen : i < xs.length := by rw [h.ilen]; exact hi
 rw [ics, List.getElem?_map, List.getElem?_eq_getElem hlen] at hl
 have hl : #[Value.int .i64 xs[i]] = a := Option.some.inj hl
 subst hl
 have hd : xs.getD i 0 = xs[i] := by rw [List.getD_eq_getElem?_getD, List.getElem?_eq_getElem hlen]; rfl
 refine ⟨b, off, e, hb, by rw [hd]; exact List.getElem?_eq_getElem hlen, ?_⟩
 have := hc 0 _ rfl
 rw [Nat.mul_one, Nat.add_zero] at this
 rw [hd]
 exact this
end Go.Proofs.YthefgdehfgkhhaaGreat
namespace Go.Proofs.YthefgdehfgkhhaaGreat
open Go.RowKit Go.Shelf
set_option linter.unusedVariables false
set_option linter.unusedSimpArgs false
theorem hin_any (n lo hi : Int) (w : World) : Calls Tryz.prog 110 #[.int .i64 n, .int .i64 lo, .int .i64 hi] w fun e w' => e = .returned (.bool (inB n lo hi)) ∧ w = w' := by
 by_cases h1 : lo ≤ n
 ·by_cases h2 : n ≤ hi
  ·have HF : Hid (inB n lo hi = true) := Lib.hid (by unfold inB; rw [decide_eq_true h1, decide_eq_true h2]; rfl)
   go_enter Tryz.func110, Tryz.ntmps110
   go_wp2_with fail
   go_ret
   exact ⟨by rw [HF.out]; rfl, rfl⟩
  ·have HF : Hid (inB n lo hi = false) := Lib.hid (by unfold inB; rw [decide_eq_false h2, Bool.and_false])
   have h3 : hi < n := by omega
   go_enter Tryz.func110, Tryz.ntmps110
   go_wp2_with fail
   go_ret
   exact ⟨by rw [HF.out]; rfl, rfl⟩
 ·have HF : Hid (inB n lo hi = false) := Lib.hid (by unfold inB; rw [decide_eq_false h1]; rfl)
  have h3 : n < lo := by omega
  go_enter Tryz.func110, Tryz.ntmps110
  go_wp2_with fail
  go_ret
  exact ⟨by rw [HF.out]; rfl, rfl⟩
theorem gin_any (n lo hi : Int) (w : World) : Calls Tryz.prog 86 #[.int .i64 n, .int .i64 lo, .int .i64 hi] w fun e w' => e = .returned (.bool (inB n lo hi)) ∧ w = w' := by
 by_cases h1 : lo ≤ n
 ·by_cases h2 : n ≤ hi
  ·have HF : Hid (inB n lo hi = true) := Lib.hid (by unfold inB; rw [decide_eq_true h1, decide_eq_true h2]; rfl)
   go_enter Tryz.func86, Tryz.ntmps86
   go_wp2_with fail
   go_ret
   exact ⟨by rw [HF.out]; rfl, rfl⟩
  ·have HF : Hid (inB n lo hi = false) := Lib.hid (by unfold inB; rw [decide_eq_false h2, Bool.and_false])
   have h3 : hi < n := by omega
   go_enter Tryz.func86, Tryz.ntmps86
   go_wp2_with fail
   go_ret
   exact ⟨by rw [HF.out]; rfl, rfl⟩
 ·have HF : Hid (inB n lo hi = false) := Lib.hid (by unfold inB; rw [decide_eq_false h1]; rfl)
  have h3 : n < lo := by omega
  go_enter Tryz.func86, Tryz.ntmps86
  go_wp2_with fail
  go_ret
  exact ⟨by rw [HF.out]; rfl, rfl⟩
theorem within_any (n lo hi : Int) (w : World) : Calls Tryz.prog 95 #[.int .i64 n, .int .i64 lo, .int .i64 hi] w fun e w' => e = .returned (.bool (inB n lo hi)) ∧ w = w' := by
 by_cases h1 : lo ≤ n
 ·by_cases h2 : n ≤ hi
  ·have HF : Hid (inB n lo hi = true) := Lib.hid (by unfold inB; rw [decide_eq_true h1, decide_eq_true h2]; rfl)
   go_enter Tryz.func95, Tryz.ntmps95
   go_wp2_with fail
   go_ret
   exact ⟨by rw [HF.out]; rfl, rfl⟩
  ·have HF : Hid (inB n lo hi = false) := Lib.hid (by unfold inB; rw [decide_eq_false h2, Bool.and_false])
   have h3 : hi < n := by omega
   go_enter Tryz.func95, Tryz.ntmps95
   go_wp2_with fail
   go_ret
   exact ⟨by rw [HF.out]; rfl, rfl⟩
 ·have HF : Hid (inB n lo hi = false) := Lib.hid (by unfold inB; rw [decide_eq_false h1]; rfl)
  have h3 : n < lo := by omega
  go_enter Tryz.func95, Tryz.ntmps95
  go_wp2_with fail
  go_ret
  exact ⟨by rw [HF.out]; rfl, rfl⟩
/-- A policy, as a value. -/
def Ed.pcs (e : Ed) : Array Value := #[.int .i64 e.p0, .int .i64 e.p1, .int .i64 e.p2, .int .i64 e.p3, .int .i64 e.p4]
def Ed.pv (e : Ed) : Value := .agg e.pcs
set_option maxRecDepth 100000 in
theorem pol_any (e : Ed) (w : World) : Calls Tryz.prog 82 #[e.pv] w fun x w' => x = .returned (.bool (polB e)) ∧ Below w.heap.size w w' := by
 obtain ⟨f, t, c, r, p0, p1, p2, p3, p4⟩ := e
 simp only [Ed.pv, Ed.pcs]
 have HE : Hid (polB ⟨f, t, c, r, p0, p1, p2, p3, p4⟩ = (inB p0 0 1125899906842624 && (inB p3 0 p4 && (inB p4 0 1125899906842624 && (inB p1 0 1000000 && inB p2 0 1048576))))) := Lib.hid rfl
 go_enter Tryz.func82, Tryz.ntmps82
 go_wp2_with fail
 refine (hin_any _ _ _ _).mono ?_
 rintro e w' ⟨rfl, rfl⟩
 obtain ⟨b0, hb0⟩ : ∃ b, inB p0 0 1125899906842624 = b := ⟨_, rfl⟩
 rw [hb0] at HE ⊢
 clear hb0
 rcases b0 with _ | _
 ·go_wp2_with fail
  go_ret
  exact ⟨by rw [HE.out]; rfl, (Below.refl _ _).alloc (Nat.le_refl _) _⟩
 go_wp2_with fail
 refine (hin_any _ _ _ _).mono ?_
 rintro e w' ⟨rfl, rfl⟩
 obtain ⟨b0, hb0⟩ : ∃ b, inB p3 0 p4 = b := ⟨_, rfl⟩
 rw [hb0] at HE ⊢
 clear hb0
 rcases b0 with _ | _
 ·go_wp2_with fail
  go_ret
  exact ⟨by rw [HE.out]; rfl, (Below.refl _ _).alloc (Nat.le_refl _) _⟩
 go_wp2_with fail
 refine (hin_any _ _ _ _).mono ?_
 rintro e w' ⟨rfl, rfl⟩
 obtain ⟨b0, hb0⟩ : ∃ b, inB p4 0 1125899906842624 = b := ⟨_, rfl⟩
 rw [hb0] at HE ⊢
 clear hb0
 rcases b0 with _ | _
 ·go_wp2_with fail
  go_ret
  exact ⟨by rw [HE.out]; rfl, (Below.refl _ _).alloc (Nat.le_refl _) _⟩
 go_wp2_with fail
 refine (hin_any _ _ _ _).mono ?_
 rintro e w' ⟨rfl, rfl⟩
 obtain ⟨b0, hb0⟩ : ∃ b, inB p1 0 1000000 = b := ⟨_, rfl⟩
 rw [hb0] at HE ⊢
 clear hb0
 rcases b0 with _ | _
 ·go_wp2_with fail
  go_ret
  exact ⟨by rw [HE.out]; rfl, (Below.refl _ _).alloc (Nat.le_refl _) _⟩
 go_wp2_with fail
 refine (hin_any _ _ _ _).mono ?_
 rintro e w' ⟨rfl, rfl⟩
 obtain ⟨b0, hb0⟩ : ∃ b, inB p2 0 1048576 = b := ⟨_, rfl⟩
 rw [hb0] at HE ⊢
 clear hb0
 go_wp2_with fail
 go_ret
 exact ⟨by rw [HE.out]; rfl, (Below.refl _ _).alloc (Nat.le_refl _) _⟩
set_option maxRecDepth 100000 in
theorem edge_any (e : Ed) (w : World) : Calls Tryz.prog 48 #[e.v] w fun x w' => x = .returned (.bool (edgeB e)) ∧ Below w.heap.size w w' := by
 have HP := Lib.hid (pol_any e (w.alloc (.cells e.cs 56)))
 obtain ⟨pb, hpb⟩ : ∃ b, polB e = b := ⟨_, rfl⟩
 rw [hpb] at HP
 have HE : Hid (edgeB e = (inB e.f 0 11 && (inB e.t 0 11 && (decide (e.f ≠ e.t) && (inB e.c 0 39 && (inB e.r 1 1125899906842624 && pb)))))) := Lib.hid (by rw [← hpb]; rfl)
 clear hpb
 obtain ⟨f, t, c, r, p0, p1, p2, p3, p4⟩ := e
 simp only [Ed.v, Ed.cs, Ed.pv, Ed.pcs] at *
 go_enter Tryz.func48, Tryz.ntmps48
 go_wp2_with fail
 refine (gin_any _ _ _ _).mono ?_
 rintro e w' ⟨rfl, rfl⟩
 obtain ⟨b0, hb0⟩ : ∃ b, inB f 0 11 = b := ⟨_, rfl⟩
 rw [hb0] at HE ⊢
 clear hb0
 rcases b0 with _ | _
 ·go_wp2_with fail
  go_ret
  exact ⟨by rw [HE.out]; rfl, (Below.refl _ _).alloc (Nat.le_refl _) _⟩
 go_wp2_with fail
 refine (gin_any _ _ _ _).mono ?_
 rintro e w' ⟨rfl, rfl⟩
 obtain ⟨b0, hb0⟩ : ∃ b, inB t 0 11 = b := ⟨_, rfl⟩
 rw [hb0] at HE ⊢
 clear hb0
 rcases b0 with _ | _
 ·go_wp2_with fail
  go_ret
  exact ⟨by rw [HE.out]; rfl, (Below.refl _ _).alloc (Nat.le_refl _) _⟩
 by_cases hft : f = t
 ·have HF : Hid (edgeB ⟨f, t, c, r, p0, p1, p2, p3, p4⟩ = false) := Lib.hid (by rw [HE.out, decide_eq_false (fun h => h hft)]; rfl)
  have h1 : (f == t) = true := by simpa using hft
  have h2 : (f != t) = false := by simpa using hft
  clear hft HE
  go_wp2_with fail
  go_ret
  exact ⟨by rw [HF.out]; rfl, (Below.refl _ _).alloc (Nat.le_refl _) _⟩
 have h1 : (f == t) = false := by simpa using hft
 have h2 : (f != t) = true := by simpa using hft
 have HE : Hid (edgeB ⟨f, t, c, r, p0, p1, p2, p3, p4⟩ = (inB c 0 39 && (inB r 1 1125899906842624 && pb))) := Lib.hid (by rw [HE.out, decide_eq_true hft]; rfl)
 clear hft
 go_wp2_with fail
 refine (gin_any _ _ _ _).mono ?_
 rintro e w' ⟨rfl, rfl⟩
 obtain ⟨b0, hb0⟩ : ∃ b, inB c 0 39 = b := ⟨_, rfl⟩
 rw [hb0] at HE ⊢
 clear hb0
 rcases b0 with _ | _
 ·go_wp2_with fail
  go_ret
  exact ⟨by rw [HE.out]; rfl, (Below.refl _ _).alloc (Nat.le_refl _) _⟩
 go_wp2_with fail
 refine (gin_any _ _ _ _).mono ?_
 rintro e w' ⟨rfl, rfl⟩
 obtain ⟨b0, hb0⟩ : ∃ b, inB r 1 1125899906842624 = b := ⟨_, rfl⟩
 rw [hb0] at HE ⊢
 clear hb0
 rcases b0 with _ | _
 ·go_wp2_with fail
  go_ret
  exact ⟨by rw [HE.out]; rfl, (Below.refl _ _).alloc (Nat.le_refl _) _⟩
 go_wp2_with fail
 refine HP.out.mono ?_
 rintro e w' ⟨rfl, hb⟩
 have HB := Lib.hid (((Below.refl w.heap.size w).alloc (Nat.le_refl _) _).trans (hb.mono (by simp)))
 clear hb
 go_wp2_with fail
 go_ret
 exact ⟨by rw [HE.out]; rfl, HB.out⟩
theorem pol_spec {e : Ed} (h : polB e = true) : (0 ≤ e.p0 ∧ e.p0 ≤ 1125899906842624) ∧ (0 ≤ e.p3 ∧ e.p3 ≤ e.p4) ∧ (0 ≤ e.p4 ∧ e.p4 ≤ 1125899906842624) ∧ (0 ≤ e.p1 ∧ e.p1 ≤ 1000000) ∧ (0 ≤ e.p2 ∧ e.p2 ≤ 1048576) := by
 unfold polB inB at h
 simp only [Bool.and_eq_true, decide_eq_true_eq] at h
 obtain ⟨a, b, c, d, k⟩ := h
 exact ⟨a, b, c, d, k⟩
set_option maxRecDepth 100000 in
theorem fee_any (e : Ed) (a : Int) (w : World) (hp : polB e = true) : Calls Tryz.prog 45 #[e.pv, .int .i64 a] w fun x w' => x = .returned (.tuple #[.int .i64 (feeV e a), .bool (feeB e a)]) ∧ Below w.heap.size w w' := by
 have hs := pol_spec hp
 have HP := Lib.hid (fun W => pol_any e W)
 have HX := Lib.hid (show feeB e a = (partB a e.p1 1000000 && addB e.p0 (a * e.p1 / 1000000)) ∧ feeV e a = if feeB e a then e.p0 + a * e.p1 / 1000000 else 0 from ⟨by unfold feeB; rw [hp, Bool.true_and], rfl⟩)
 rw [hp] at HP
 have HN := Lib.hid (fun W => nPart_any W a e.p1 1000000 (by omega) (by omega))
 clear hs hp
 obtain ⟨f, t, c, r, p0, p1, p2, p3, p4⟩ := e
 simp only [Ed.pv, Ed.pcs] at *
 obtain ⟨w0, hw0⟩ : ∃ W, W = w.alloc (.cells #[.int .i64 p0, .int .i64 p1, .int .i64 p2, .int .i64 p3, .int .i64 p4] 54) := ⟨_, rfl⟩
 have hB0 : Below w.heap.size w w0 := by rw [hw0]; exact (Below.refl _ _).alloc (Nat.le_refl _) _
 have k0 : Blk w0 w.heap.size 54 #[.int .i64 p0, .int .i64 p1, .int .i64 p2, .int .i64 p3, .int .i64 p4] := by rw [hw0]; exact Blk.new w _ _
 go_enter Tryz.func45, Tryz.ntmps45
 go_wp2_with fail
 rw [← hw0]
 clear hw0
 refine (HN.out w0).mono ?_
 rintro y w1 ⟨rfl, hb⟩
 have k1 := k0.below hb k0.lt
 have hB1 := bltB hB0 hB0.size hb
 clear hb hB0 k0
 have c0 := k1.cell 0
 have c1 := k1.cell 1
 have c2 := k1.cell 2
 have c3 := k1.cell 3
 have c4 := k1.cell 4
 obtain ⟨b0, hb0⟩ : ∃ b, partB a p1 1000000 = b := ⟨_, rfl⟩
 rw [hb0] at HX ⊢
 clear hb0
 rcases b0 with _ | _
 ·have HF : Hid (feeB ⟨f, t, c, r, p0, p1, p2, p3, p4⟩ a = false ∧ feeV ⟨f, t, c, r, p0, p1, p2, p3, p4⟩ a = 0) := Lib.hid (by
   have h := HX.out.1
   rw [Bool.false_and] at h
   exact ⟨h, by rw [HX.out.2, h]; rfl⟩)
  clear HX
  rw [if_neg (by decide)]
  go_wp2_with fail
  go_ret2
  exact ⟨by rw [HF.out.1, HF.out.2]; rfl, hB1⟩
 rw [if_pos rfl]
 obtain ⟨v, hv⟩ : ∃ v, a * p1 / 1000000 = v := ⟨_, rfl⟩
 rw [hv] at HX ⊢
 clear hv
 go_wp2_with fail
 refine (HP.out w1).mono ?_
 rintro y w2 ⟨rfl, hb⟩
 have k2 := k1.below hb k1.lt
 have hB2 := bltB hB1 hB1.size hb
 clear hb hB1 k1 c0 c1 c2 c3 c4
 have c0 := k2.cell 0
 go_wp2_with fail
 refine (nadd_any _ _ _).mono ?_
 rintro y w' ⟨rfl, rfl⟩
 have HF : Hid (feeB ⟨f, t, c, r, p0, p1, p2, p3, p4⟩ a = addB p0 v ∧ feeV ⟨f, t, c, r, p0, p1, p2, p3, p4⟩ a = if addB p0 v = true then p0 + v else 0) := Lib.hid (by
  have h := HX.out.1
  rw [Bool.true_and] at h
  exact ⟨h, by rw [HX.out.2, h]⟩)
 clear HX
 generalize (if addB p0 v = true then p0 + v else 0) = z at HF ⊢
 generalize addB p0 v = b at HF ⊢
 go_wp2_with fail
 go_ret2
 exact ⟨by rw [HF.out.1, HF.out.2]; rfl, hB2⟩
theorem cmpI_eq (x y : Int) : Lib.compareInt x y = cmpI x y := rfl
theorem compare_any (x y : Int) (w : World) : Calls Tryz.prog 76 #[.int .i64 x, .int .i64 y] w fun e w' => e = .returned (.int .i64 (cmpI x y)) ∧ w' = w := Tryz.cmp_Compare_int x y w
/-- The first number that is not 0. -/
def orL : List Int → Int
 | [] => 0
 | x :: l => if x = 0 then orL l else x
theorem or_any (w : World) (A : Option Addr) (n c : Nat) (xs : List Int) (h : RI w A n c xs) (hn : n ≤ 1048576) : Calls Tryz.prog 87 #[.slice A n c] w fun e w' => e = .returned (.int .i64 (orL xs)) ∧ w = w' := by
 have HL := Lib.hid h
 have hlen := h.ilen
 clear h
 go_enter Tryz.func87, Tryz.ntmps87
 go_wp2_with fail
 go_loop [8] (fun iv => ∃ i : Nat, i ≤ n ∧ iv = .int .i64 i ∧ Hid (orL xs = orL (xs.drop i))) (fun iv => n - (intOf iv).toNat)
 case atStart => exact ⟨0, Nat.zero_le _, rfl, Lib.hid rfl⟩
 case round =>
  obtain ⟨i, hi, rfl, HO⟩ := hrel
  by_cases hlt : i < n
  ·obtain ⟨b, off, hA, hb, hx, hc⟩ := HL.out.num hlt
   have hdrop : xs.drop i = xs.getD i 0 :: xs.drop (i + 1) := by
    rw [List.drop_eq_getElem_cons (by rw [HL.out.ilen]; exact hlt)]
    congr 1
    rw [List.getD_eq_getElem?_getD, List.getElem?_eq_getElem (by rw [HL.out.ilen]; exact hlt)]
    rfl
   obtain ⟨v, hv⟩ : ∃ v, xs.getD i 0 = v := ⟨_, rfl⟩
   rw [hv] at hc hdrop
   have HD := Lib.hid hdrop
   subst hA
   clear hx hv hdrop
   have hlt' : (i : Int) < (n : Int) := by omega
   by_cases h0 : v = 0
   ·have HO2 : Hid (orL xs = orL (xs.drop (i + 1))) := Lib.hid (by rw [HO.out, HD.out, orL, if_pos h0])
    have hz : (v != 0) = false := by simp [h0]
    have hz2 : (v == 0) = true := by simp [h0]
    clear h0
    go_wp2_with fail
    go_round
    case rel => exact ⟨i + 1, by omega, by go_num, HO2⟩
    case measure => simp [intOf]; omega
   ·have HO2 : Hid (orL xs = v) := Lib.hid (by rw [HO.out, HD.out, orL, if_neg h0])
    have hz : (v != 0) = true := by simp [h0]
    have hz2 : (v == 0) = false := by simp [h0]
    clear h0
    go_wp2_with fail
    go_ret
    exact ⟨by rw [HO2.out]; rfl, rfl⟩
  ·have HO2 : Hid (orL xs = 0) := Lib.hid (by rw [HO.out, List.drop_of_length_le (by rw [hlen]; omega)]; rfl)
   go_wp2_with fail
   go_ret
   exact ⟨by rw [HO2.out]; rfl, rfl⟩
theorem orL2 (x y : Int) : orL [x, y] = orI x y := by
 unfold orI orL orL orL
 split
 ·split <;> simp_all
 ·rfl
set_option maxRecDepth 100000 in
theorem order_any (a b : Ed) (w : World) : Calls Tryz.prog 49 #[a.v, b.v] w fun x w' => x = .returned (.int .i64 (orderI a b)) ∧ Below w.heap.size w w' := by
 have HO : Hid (orderI a b = orI (cmpI a.c b.c) (cmpI a.f b.f)) := Lib.hid rfl
 obtain ⟨f, t, c, r, p0, p1, p2, p3, p4⟩ := a
 obtain ⟨f', t', c', r', p0', p1', p2', p3', p4'⟩ := b
 simp only [Ed.v, Ed.cs] at *
 obtain ⟨w0, hw0⟩ : ∃ W, W = (w.alloc (.cells #[.int .i64 f, .int .i64 t, .int .i64 c, .int .i64 r, .int .i64 p0, .int .i64 p1, .int .i64 p2, .int .i64 p3, .int .i64 p4] 56)).alloc (.cells #[.int .i64 f', .int .i64 t', .int .i64 c', .int .i64 r', .int .i64 p0', .int .i64 p1', .int .i64 p2', .int .i64 p3', .int .i64 p4'] 56) := ⟨_, rfl⟩
 have hB0 : Below w.heap.size w w0 := by rw [hw0]; exact ((Below.refl _ _).alloc (Nat.le_refl _) _).alloc (by simp) _
 have k0 : Blk w0 w.heap.size 56 #[.int .i64 f, .int .i64 t, .int .i64 c, .int .i64 r, .int .i64 p0, .int .i64 p1, .int .i64 p2, .int .i64 p3, .int .i64 p4] := by rw [hw0]; exact (Blk.new w _ _).alloc _
 have k1 : Blk w0 (w.heap.size + 1) 56 #[.int .i64 f', .int .i64 t', .int .i64 c', .int .i64 r', .int .i64 p0', .int .i64 p1', .int .i64 p2', .int .i64 p3', .int .i64 p4'] := by
  rw [hw0]
  have := Blk.new (w.alloc (.cells #[.int .i64 f, .int .i64 t, .int .i64 c, .int .i64 r, .int .i64 p0, .int .i64 p1, .int .i64 p2, .int .i64 p3, .int .i64 p4] 56)) 56 #[.int .i64 f', .int .i64 t', .int .i64 c', .int .i64 r', .int .i64 p0', .int .i64 p1', .int .i64 p2', .int .i64 p3', .int .i64 p4']
  rw [World.size_alloc] at this
  exact this
 go_enter Tryz.func49, Tryz.ntmps49
 go_wp2_with fail
 rw [← hw0]
 clear hw0
 have a0 := k0.cell 0
 have a2 := k0.cell 2
 have b0 := k1.cell 0
 have b2 := k1.cell 2
 refine wp_region_still_tail 10 (by kernel_rfl) (by kernel_rfl) ?_
 simp only [List.take_succ_cons, List.take_zero, List.drop_succ_cons, List.drop_zero]
 show wpStill _ _ w0.drew (fun a' => wpList _ _ _ _ a' w0.drew) _ _
 have HB := Lib.hid hB0.drew
 have e0 : w0.drew.cell? ⟨w.heap.size, 0, none⟩ = some (.int .i64 f) := a0
 have e1 : w0.drew.cell? ⟨w.heap.size, 2, none⟩ = some (.int .i64 c) := a2
 have e2 : w0.drew.cell? ⟨w.heap.size + 1, 0, none⟩ = some (.int .i64 f') := b0
 have e3 : w0.drew.cell? ⟨w.heap.size + 1, 2, none⟩ = some (.int .i64 c') := b2
 generalize w0.drew = W1 at HB e0 e1 e2 e3 ⊢
 clear a0 a2 b0 b2 k0 k1 hB0
 repeat still_step
 still_call (compare_any _ _ _)
 repeat still_step
 still_call (compare_any _ _ _)
 repeat still_step
 refine wpStill_nil ?_
 clear e0 e1 e2 e3
 obtain ⟨x, hx⟩ : ∃ x, cmpI c c' = x := ⟨_, rfl⟩
 obtain ⟨y, hy⟩ : ∃ y, cmpI f f' = y := ⟨_, rfl⟩
 rw [hx, hy] at HO ⊢
 clear hx hy
 have r : RI (W1.alloc (.cells #[.int .i64 x, .int .i64 y] 3)) (some ⟨W1.heap.size, 0, none⟩) 2 2 [x, y] :=
  Rg.of_blk (l := ics [x, y]) (Blk.new W1 _ _) (ics_wide _) (fun i a hi j v hv => by
   match i, hi with
   | 0, hi => (simp [ics] at hi; subst hi; match j, hv with | 0, hv => simpa using hv | j + 1, hv => simp at hv)
   | 1, hi => (simp [ics] at hi; subst hi; match j, hv with | 0, hv => simpa using hv | j + 1, hv => simp at hv)
   | i + 2, hi => simp [ics] at hi) (Nat.le_refl 2)
 have R := Lib.hid r
 clear r
 go_wp2_with fail
 refine (or_any _ _ _ _ _ R.out (by omega)).mono ?_
 rintro e w' ⟨rfl, rfl⟩
 rw [orL2]
 generalize orI x y = z at HO ⊢
 go_wp2_with fail
 go_ret
 exact ⟨by rw [HO.out]; rfl, HB.out.alloc (HB.out.size) _⟩
end Go.Proofs.YthefgdehfgkhhaaGreat
namespace Go.Proofs.YthefgdehfgkhhaaGreat
open Go.RowKit Go.Shelf
theorem region_still {P : Program} {id : Nat} {Q : Exit → Act → World → Prop} {a : Act} {w : World} {l : List Oper} (hm : P.follows .mixedOrders = true) (hB : Region.lexB .any l.toArray = true)
 (h : wpStill P l.toArray w.drew (fun a' => Q .normal a' w.drew) l a) : (Code.region id l.toArray true).wp P Q a w := wp_region_still_lit hm hB h
theorem region_tail {P : Program} {id : Nat} {Q : Exit → Act → World → Prop} {a : Act} {w : World} {l : List Oper} (n : Nat) (hm : P.follows .mixedOrders = true) (hB : Region.lexTailB .any l.toArray n = true)
 (h : wpStill P l.toArray w.drew (fun a' => wpList P l.toArray Q (l.drop n) a' w.drew) (l.take n) a) : (Code.region id l.toArray true).wp P Q a w := wp_region_still_tail n hm hB h
theorem still_skip {P : Program} {ops : Array Oper} {w : World} {Q : Act → Prop} {a : Act} {o : Oper} {rest : List Oper} (hw : Region.wanted o (yielded ops a.tmps) = false) (h : wpStill P ops w Q rest (a.put o.dst undef)) : wpStill P ops w Q (o :: rest) a := by
 refine wpStill_step fun K hK => ?_
 rw [if_neg (by rw [hw]; decide)]
 exact hK _ h
theorem still_take {P : Program} {ops : Array Oper} {w : World} {Q : Act → Prop} {a : Act} {o : Oper} {rest : List Oper} (hw : Region.wanted o (yielded ops a.tmps) = true) (h : ∀ K : Act → Prop, (∀ a, wpStill P ops w Q rest a → K a) → o.still P a w K) : wpStill P ops w Q (o :: rest) a := by
 refine wpStill_step fun K hK => ?_
 rw [if_pos hw]
 exact h K hK
end Go.Proofs.YthefgdehfgkhhaaGreat
