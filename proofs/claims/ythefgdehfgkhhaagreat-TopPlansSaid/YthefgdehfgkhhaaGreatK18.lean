/-
  A ledger: its channels' seats as a list; the ledger in memory; what is looked up and stored.
-/
import Derived.Test.YthefgdehfgkhhaaGreatK01
import Derived.Test.YthefgdehfgkhhaaGreatK17
import Derived.Maps.OwnSet
import Derived.Maps.RangeWalk
import Derived.Test.YthefgdehfgkhhaaGreatK08
namespace Go.Proofs.YthefgdehfgkhhaaGreat
open Go.RowKit Go.Maps
set_option linter.unusedVariables false
set_option linter.unusedSimpArgs false
attribute [local go_sem] Oper.semAt_some
/-- A channel: its number, its parties, what they have. -/
structure Cn where
 c : Int
 p0 : Int
 p1 : Int
 h0 : Int
 h1 : Int
def Cn.cs (s : Cn) : Array Value := #[.int .i64 s.c, .int .i64 s.p0, .int .i64 s.p1, .int .i64 s.h0, .int .i64 s.h1]
def Cn.v (s : Cn) : Value := .agg s.cs
def Cn.d {H : Type} (s : Cn) : DataW H := .agg [.lit (.int .i64 s.c), .lit (.int .i64 s.p0), .lit (.int .i64 s.p1), .lit (.int .i64 s.h0), .lit (.int .i64 s.h1)]
def Cn.ok (s : Cn) : Prop := (isI s.c ∧ isI s.p0 ∧ isI s.p1) ∧ isI s.h0 ∧ isI s.h1
def Cn.z : Cn := ⟨0, 0, 0, 0, 0⟩
def lookS : List Cn → Int → Option Cn
 | [], _ => none
 | s :: S, k => if s.c = k then some s else lookS S k
def putS : List Cn → Cn → List Cn
 | [], s => [s]
 | x :: S, s => if x.c = s.c then s :: S else x :: putS S s
theorem lookS_mem : ∀ {S : List Cn} {k : Int} {s : Cn}, lookS S k = some s → s ∈ S ∧ s.c = k
 | [], _, _, h => by simp [lookS] at h
 | x :: S, k, s, h => by
  unfold lookS at h
  split at h
  ·rename_i e
   injection h with h
   subst h
   exact ⟨List.mem_cons_self .., e⟩
  ·obtain ⟨h1, h2⟩ := lookS_mem h
   exact ⟨List.mem_cons_of_mem _ h1, h2⟩
theorem lookS_put : ∀ (S : List Cn) (s : Cn) (k : Int), lookS (putS S s) k = if k = s.c then some s else lookS S k
 | [], s, k => by
  unfold putS lookS lookS
  by_cases h : k = s.c
  ·rw [if_pos h.symm, if_pos h]
  ·rw [if_neg (fun e => h e.symm), if_neg h]
 | x :: S, s, k => by
  unfold putS
  by_cases hx : x.c = s.c
  ·rw [if_pos hx]
   unfold lookS
   by_cases h : k = s.c
   ·rw [if_pos h.symm, if_pos h]
   ·rw [if_neg (fun e => h e.symm), if_neg h, if_neg (fun e => h (e.symm.trans hx))]
  ·rw [if_neg hx]
   unfold lookS
   rw [lookS_put S s k]
   by_cases h : k = s.c
   ·rw [if_pos h, if_neg (fun e => hx (e.trans h)), if_pos h]
   ·rw [if_neg h, if_neg h]
theorem mem_putS : ∀ {S : List Cn} {s x : Cn}, x ∈ putS S s → x ∈ S ∨ x = s
 | [], s, x, h => by simp [putS] at h; exact .inr h
 | y :: S, s, x, h => by
  unfold putS at h
  split at h
  ·rcases List.mem_cons.1 h with h | h
   ·exact .inr h
   ·exact .inl (List.mem_cons_of_mem _ h)
  ·rcases List.mem_cons.1 h with h | h
   ·exact .inl (by rw [h]; exact List.mem_cons_self ..)
   ·rcases mem_putS h with h | h
    ·exact .inl (List.mem_cons_of_mem _ h)
    ·exact .inr h
theorem once_putS : ∀ {S : List Cn} (h : S.Pairwise fun a b => a.c ≠ b.c) (s : Cn), (putS S s).Pairwise fun a b => a.c ≠ b.c
 | [], _, s => List.pairwise_singleton _ _
 | x :: S, h, s => by
  rw [List.pairwise_cons] at h
  unfold putS
  split
  ·rename_i e
   rw [List.pairwise_cons]
   exact ⟨fun y hy => by rw [← e]; exact h.1 y hy, h.2⟩
  ·rename_i e
   rw [List.pairwise_cons]
   refine ⟨fun y hy => ?_, once_putS h.2 s⟩
   rcases mem_putS hy with hy | rfl
   ·exact h.1 y hy
   ·exact e
theorem len_putS : ∀ (S : List Cn) (s : Cn), (putS S s).length = if (lookS S s.c).isSome then S.length else S.length + 1
 | [], s => by simp [putS, lookS]
 | x :: S, s => by
  unfold putS lookS
  by_cases h : x.c = s.c
  ·simp [h]
  ·rw [if_neg h, if_neg h, List.length_cons, len_putS S s]
   split <;> simp
theorem lawInt : Keyed Tryz.prog 3 := int_keyed Tryz.underlying3
theorem keyOf_i {k : Int} (h : isI k) : keyOf Tryz.prog 3 (.int .i64 k) = some (.int .i64 k) := by
 have hw := wfI h
 simp [keyOf, Tryz.underlying3, mapKey, hw]
theorem keyI_ne {k k' : Int} (h : k ≠ k') : (Lit.int .i64 k) ≠ .int .i64 k' := fun e => h (by injection e)
/-- How a seat reads. -/
def seatE {H : Type} : Value → Option (DataW H × List MemPlace)
 | .agg cs => match cs.toList with
  | [.int .i64 a, .int .i64 b, .int .i64 c, .int .i64 d, .int .i64 e] => some (Cn.d ⟨a, b, c, d, e⟩, [])
  | _ => none
 | _ => none
theorem seatE_mk {H : Type} (s : Cn) : seatE (H := H) s.v = some (s.d, []) := rfl
theorem seatE_inv {H : Type} {v : Value} {z : DataW H × List MemPlace} (h : seatE v = some z) : ∃ s : Cn, v = s.v ∧ z = (s.d, []) := by
 unfold seatE at h
 split at h
 ·rename_i cs
  split at h
  ·rename_i a b c d e hcs
   refine ⟨⟨a, b, c, d, e⟩, ?_, (Option.some.inj h).symm⟩
   rw [Cn.v, Cn.cs, ← hcs]
  ·cases h
 ·cases h
theorem Cn.d_inj {s t : Cn} (h : Cn.d (H := Unit) s = t.d) : s = t := by
 obtain ⟨a, b, c, d, e⟩ := s
 obtain ⟨a', b', c', d', e'⟩ := t
 simp [Cn.d] at h
 obtain ⟨rfl, rfl, rfl, rfl, rfl⟩ := h
 rfl
structure SaysS (D : DataW Unit) (S : List Cn) : Prop where
 key : ∀ s ∈ S, s.ok
 once : S.Pairwise fun a b => a.c ≠ b.c
 has : ∀ k, isI k → Maps.has D (.int .i64 k) = (lookS S k).isSome
 at_ : ∀ k s z, isI k → lookS S k = some s → D.atKey (.int .i64 k) z = s.d
 size : Maps.size D = S.length
theorem SaysS.empty : SaysS (.map []) [] := ⟨by simp, List.Pairwise.nil, fun _ _ => rfl, fun _ _ _ _ h => by simp [lookS] at h, rfl⟩
theorem SaysS.put {D : DataW Unit} {S : List Cn} (h : SaysS D S) (ht : Maps.Tidy D) {s : Cn} (hs : s.ok) : SaysS (D.put (.int .i64 s.c) s.d) (putS S s) := by
 have hk : WideAt.IsKeyLit (.int .i64 s.c) := lawInt.key (keyOf_i hs.1.1)
 refine ⟨fun e he => ?_, once_putS h.once _, fun k hi => ?_, fun k x z hi hl => ?_, ?_⟩
 ·rcases mem_putS he with h1 | h1
  ·exact h.key e h1
  ·subst h1; exact hs
 ·rw [lookS_put]
  by_cases e : k = s.c
  ·subst e
   rw [if_pos rfl, Maps.has_put_same ht.isMap hk]; rfl
  ·rw [if_neg e, Maps.has_put_other (keyI_ne e), h.has k hi]
 ·rw [lookS_put] at hl
  by_cases e : k = s.c
  ·rw [if_pos e] at hl
   injection hl with hl
   subst e hl
   exact Maps.atKey_put_same ht.isMap hk _ _
  ·rw [if_neg e] at hl
   rw [Maps.atKey_put_other (keyI_ne e)]
   exact h.at_ k x z hi hl
 ·rw [Maps.size_put ht, len_putS, h.has s.c hs.1.1, h.size]
/-- The map in block b says S. -/
def SMap (w : World) (b n : Nat) (S : List Cn) : Prop := ∃ D, w.ownsMap Tryz.prog 3 (seatE (H := Unit)) b n D ∧ SaysS D S
theorem SMap.lt {w : World} {b n : Nat} {S : List Cn} (h : SMap w b n S) : b < w.heap.size := by obtain ⟨D, h1, _⟩ := h; exact h1.lt
theorem SMap.isMap {w : World} {b n : Nat} {S : List Cn} (h : SMap w b n S) : ∃ es clock, w.heap[b]? = some (.map es clock) := by
 obtain ⟨D, ⟨es, clock, hb, _⟩, _⟩ := h
 exact ⟨es, clock, hb⟩
theorem SMap.stay {w w' : World} {b n : Nat} {S : List Cn} (h : SMap w b n S) (he : w'.heap[b]? = w.heap[b]?) : SMap w' b n S := by
 obtain ⟨D, ⟨es, clock, hb, r⟩, hs⟩ := h
 exact ⟨D, ⟨es, clock, by rw [he]; exact hb, r⟩, hs⟩
theorem SMap.on {w w' : World} {b n : Nat} {S : List Cn} (h : SMap w b n S) (hb : Below w.heap.size w w') : SMap w' b n S := h.stay (hb.block b h.lt)
theorem SMap.ok {w : World} {b n : Nat} {S : List Cn} (h : SMap w b n S) : (∀ s ∈ S, s.ok) ∧ S.Pairwise fun a b => a.c ≠ b.c := by
 obtain ⟨D, _, hs⟩ := h
 exact ⟨hs.key, hs.once⟩
theorem zeroSeat (w : World) : (zeroValue 70).run Tryz.prog w = .ok Cn.z.v w := by kernel_rfl
/-- What is looked up. -/
theorem SMap.look {w : World} {b n : Nat} {S : List Cn} (h : SMap w b n S) {k : Int} (hk : isI k) :
 ∃ s : Cn, (∀ wx : World, wx.heap[b]? = w.heap[b]? → (Instr.lookup 99 (.map (some b)) (.int .i64 k) true).run Tryz.prog wx = .ok (.tuple #[s.v, .bool (lookS S k).isSome]) wx) ∧ ∀ t, lookS S k = some t → s = t := by
 obtain ⟨D, hown, hs⟩ := h
 have key : ∀ wx : World, wx.heap[b]? = w.heap[b]? → ∃ s : Cn, (Instr.lookup 99 (.map (some b)) (.int .i64 k) true).run Tryz.prog wx = .ok (.tuple #[s.v, .bool (lookS S k).isSome]) wx ∧ D.atKey (.int .i64 k) Cn.z.d = s.d := fun wx he => by
  have hown' : wx.ownsMap Tryz.prog 3 (seatE (H := Unit)) b n D := by
   obtain ⟨es, clock, hb, r⟩ := hown
   exact ⟨es, clock, by rw [he]; exact hb, r⟩
  obtain ⟨v, ps, hrun, hv⟩ := hown'.look_ok lawInt Tryz.underlying99 (zeroSeat wx) (seatE_mk Cn.z) (keyOf_i hk)
  obtain ⟨s, rfl, hz⟩ := seatE_inv hv
  rw [hs.has k hk] at hrun
  exact ⟨s, hrun, (Prod.mk.inj hz).1⟩
 obtain ⟨s, hrun, hat⟩ := key w rfl
 refine ⟨s, fun wx he => ?_, fun t ht => ?_⟩
 ·obtain ⟨s2, hrun2, hat2⟩ := key wx he
  have := Cn.d_inj (hat.symm.trans hat2)
  subst this
  exact hrun2
 ·exact Cn.d_inj (hat.symm.trans (hs.at_ k t _ hk ht))
theorem SMap.put {w : World} {b n : Nat} {S : List Cn} (h : SMap w b n S) (hn : n < 1000000) {s : Cn} (hs : s.ok) :
 ∃ w', (Instr.mapUpdate 99 (.map (some b)) (.int .i64 s.c) s.v).run Tryz.prog w = .ok () w' ∧ SMap w' b (n + 1) (putS S s) ∧ w.grownBy w' (some b) := by
 obtain ⟨D, h1, h2⟩ := h
 obtain ⟨w', hrun, hown', hturn⟩ := h1.store lawInt Tryz.underlying99 (by unfold maxLen; omega) (keyOf_i hs.1.1) (seatE_mk s)
 exact ⟨w', hrun, ⟨_, hown', h2.put (h1.tidy lawInt) hs⟩, hturn.grown⟩
/-- A row of numbers that the ledger owns. -/
def RowI (w : World) (g : Nat) (xs : List Int) : Prop := ∃ cur, w.heap[g]? = some (.cells cur 3 (0, 0)) ∧ ∀ (i : Nat) (x : Int), xs[i]? = some x → cur[i]? = some (.int .i64 x)
theorem RowI.cell {w : World} {g : Nat} {xs : List Int} (h : RowI w g xs) {i : Nat} (hi : i < xs.length) : w.cell? ⟨g, i, none⟩ = some (.int .i64 (xs.getD i 0)) := by
 obtain ⟨cur, hh, hc⟩ := h
 rw [cell_of_row w g i cur 3 (0, 0) hh]
 refine hc i _ ?_
 rw [List.getD_eq_getElem?_getD, List.getElem?_eq_getElem hi]; rfl
theorem RowI.frozen {w : World} {g : Nat} {xs : List Int} (h : RowI w g xs) (i : Nat) : w.frozen? ⟨g, i, none⟩ = false := by
 obtain ⟨cur, hh, hc⟩ := h
 exact Blk.frozen (w := w) (t := 3) (cs := cur) hh i
theorem RowI.set_ {w : World} {g : Nat} {xs : List Int} (h : RowI w g xs) (i : Nat) (x : Int) : RowI (w.setCell ⟨g, i, none⟩ (.int .i64 x)) g (xs.set i x) := by
 obtain ⟨cur, hh, hc⟩ := h
 have hB : Blk w g 3 cur := hh
 refine ⟨_, hB.set_ i _, fun j y hj => ?_⟩
 by_cases e : i = j
 ·subst e
  have hl : i < xs.length := by have := (List.getElem?_eq_some_iff.1 hj).1; simpa using this
  rw [List.getElem?_set_self hl] at hj
  injection hj with hj
  subst hj
  have h2 := hc i _ (List.getElem?_eq_getElem hl)
  rw [Array.getElem?_setIfInBounds_self_of_lt (Array.getElem?_eq_some_iff.1 h2).1]
 ·rw [List.getElem?_set_ne e] at hj
  rw [Array.getElem?_setIfInBounds_ne e]
  exact hc j y hj
theorem RowI.stay {w w' : World} {g : Nat} {xs : List Int} (h : RowI w g xs) (he : w'.heap[g]? = w.heap[g]?) : RowI w' g xs := by
 obtain ⟨cur, hh, hc⟩ := h
 exact ⟨cur, he.trans hh, hc⟩
theorem RowI.lt {w : World} {g : Nat} {xs : List Int} (h : RowI w g xs) : g < w.heap.size := by
 obtain ⟨cur, hh, hc⟩ := h
 exact blk_lt hh
def noE (v : Value) : Option (DataW Unit × List MemPlace) := none
/-- Block p holds a ledger of five parties. -/
structure LedAt (w : World) (p go co bs bh ns : Nat) (own : List Int) (S : List Cn) (lost : Int) : Prop where
 box : Blk w p 103 #[.slice (some ⟨go, 0, none⟩) 5 co, .map (some bs), .map (some bh), .int .i64 lost]
 row : RowI w go own
 len : own.length = 5
 cap : 5 ≤ co
 map : SMap w bs ns S
 hold : w.ownsMap Tryz.prog 150 noE bh 0 (.map [])
 ne : bs ≠ bh
theorem LedAt.on {w w' : World} {p go co bs bh ns : Nat} {own : List Int} {S : List Cn} {lost : Int} (h : LedAt w p go co bs bh ns own S lost) (hb : Below w.heap.size w w') : LedAt w' p go co bs bh ns own S lost :=
 ⟨h.box.below hb h.box.lt, h.row.stay (hb.block _ h.row.lt), h.len, h.cap, h.map.on hb, by
  obtain ⟨es, cl, hm, r⟩ := h.hold
  exact ⟨es, cl, (hb.block _ (blk_lt hm)).trans hm, r⟩, h.ne⟩
theorem coin_any (n : Int) (w : World) : Calls Tryz.prog 43 #[.int .i64 n] w fun e w' => e = .returned (.bool (inB n 0 1125899906842624)) ∧ w = w' := by
 have HE : Hid (inB n 0 1125899906842624 = (decide (0 ≤ n) && decide (n ≤ 1125899906842624))) := Lib.hid rfl
 by_cases h1 : 0 ≤ n
 ·by_cases h2 : n ≤ 1125899906842624
  ·go_enter Tryz.func43, Tryz.ntmps43
   go_wp2_with fail
   go_ret
   exact ⟨by rw [HE.out, decide_eq_true h1, decide_eq_true h2]; rfl, rfl⟩
  ·go_enter Tryz.func43, Tryz.ntmps43
   go_wp2_with fail
   go_ret
   exact ⟨by rw [HE.out, decide_eq_true h1, decide_eq_false (show ¬ n ≤ 1125899906842624 by omega)]; rfl, rfl⟩
 ·go_enter Tryz.func43, Tryz.ntmps43
  go_wp2_with fail
  go_ret
  exact ⟨by rw [HE.out, decide_eq_false (show ¬ 0 ≤ n by omega)]; rfl, rfl⟩
theorem lost_any (w : World) (p go co bs bh ns : Nat) (own : List Int) (S : List Cn) (lost : Int) (h : LedAt w p go co bs bh ns own S lost) : Calls Tryz.prog 23 #[.pointer (some ⟨p, 0, none⟩)] w fun e w' => e = .returned (.int .i64 lost) ∧ w = w' := by
 have c3 := h.box.cell 3
 simp at c3
 clear h
 go_enter Tryz.func23, Tryz.ntmps23
 go_wp2_with fail
 go_ret
 exact ⟨rfl, rfl⟩
theorem own_any (w : World) (p go co bs bh ns : Nat) (own : List Int) (S : List Cn) (lost : Int) (h : LedAt w p go co bs bh ns own S lost) (i : Nat) (hi : i < 5) : Calls Tryz.prog 19 #[.pointer (some ⟨p, 0, none⟩), .int .i64 (i : Int)] w fun e w' => e = .returned (.int .i64 (own.getD i 0)) ∧ w = w' := by
 have c0 := h.box.cell 0
 have r := h.row.cell (i := i) (by rw [h.len]; exact hi)
 simp at c0
 have h1 : ¬ (i : Int) < 0 := by omega
 have h2 : ¬ 5 ≤ (i : Int) := by omega
 have h3 : (i : Int) < 5 := by omega
 obtain ⟨x, hx⟩ : ∃ x, own.getD i 0 = x := ⟨_, rfl⟩
 rw [hx] at r ⊢
 clear h hx
 go_enter Tryz.func19, Tryz.ntmps19
 go_wp2_with fail
 go_ret
 exact ⟨rfl, rfl⟩
set_option maxRecDepth 100000 in
theorem seat_any (w : World) (p go co bs bh ns : Nat) (own : List Int) (S : List Cn) (lost : Int) (h : LedAt w p go co bs bh ns own S lost) (k : Int) (hk : isI k) (s : Cn) (hs : lookS S k = some s) :
 Calls Tryz.prog 29 #[.pointer (some ⟨p, 0, none⟩), .int .i64 k] w fun e w' => e = .returned (.tuple #[s.v, .bool true]) ∧ Below w.heap.size w w' := by
 obtain ⟨s', hlook, hl⟩ := h.map.look hk
 have := hl s hs
 subst this
 rw [hs] at hlook
 obtain ⟨W0, hW0⟩ : ∃ W, W = w.alloc (.cells #[.int .i64 0, .int .i64 0, .int .i64 0, .int .i64 0, .int .i64 0] 70) := ⟨_, rfl⟩
 have hB0 : Below w.heap.size w W0 := by rw [hW0]; exact (Below.refl _ _).alloc (Nat.le_refl _) _
 have k4 : Blk W0 w.heap.size 70 #[.int .i64 0, .int .i64 0, .int .i64 0, .int .i64 0, .int .i64 0] := by rw [hW0]; exact Blk.new w _ _
 have hl1 := hlook W0 (hB0.block _ h.map.lt)
 have c1 := (h.on hB0).box.cell 1
 simp at c1
 obtain ⟨c, p0, p1, h0, h1⟩ := s'
 simp only [Cn.v, Cn.cs, Option.isSome_some] at hl1 ⊢
 have HB0 := Lib.hid hB0
 clear hlook hl h hs hB0
 go_enter Tryz.func29, Tryz.ntmps29
 go_upto_region 1 with (fail)
 rw [← hW0]
 clear hW0
 obtain ⟨G4, hG4⟩ : ∃ z, w.heap.size = z := ⟨_, rfl⟩
 rw [hG4] at k4 ⊢
 have HG4 := Lib.hid hG4
 clear hG4
 go_upto_region 2 with (fail)
 obtain ⟨W1, hW1⟩ : ∃ W, W = W0.alloc (.cells #[.int .i64 c, .int .i64 p0, .int .i64 p1, .int .i64 h0, .int .i64 h1] 70) := ⟨_, rfl⟩
 have hb1 : Below W0.heap.size W0 W1 := by rw [hW1]; exact (Below.refl _ _).alloc (Nat.le_refl _) _
 have k6 : Blk W1 W0.heap.size 70 #[.int .i64 c, .int .i64 p0, .int .i64 p1, .int .i64 h0, .int .i64 h1] := by rw [hW1]; exact Blk.new W0 _ _
 rw [← hW1]
 clear hW1
 replace k4 := k4.below hb1 k4.lt
 have HB1 := Lib.hid (bltB HB0.out HB0.out.size hb1)
 have d0 := k6.cell 0
 have d1 := k6.cell 1
 have d2 := k6.cell 2
 have d3 := k6.cell 3
 have d4 := k6.cell 4
 have e0 := k4.cell 0
 have e1 := k4.cell 1
 have e2 := k4.cell 2
 have e3 := k4.cell 3
 have e4 := k4.cell 4
 have f0 := k4.frozen 0
 have f1 := k4.frozen 1
 have f2 := k4.frozen 2
 have f3 := k4.frozen 3
 have f4 := k4.frozen 4
 simp at d0 d1 d2 d3 d4 e0 e1 e2 e3 e4
 clear hb1 HB0 c1 hl1
 go_wp2_with fail
 have k9 := ((((k4.set_ 0 (.int .i64 c)).set_ 1 (.int .i64 p0)).set_ 2 (.int .i64 p1)).set_ 3 (.int .i64 h0)).set_ 4 (.int .i64 h1)
 have hle : w.heap.size ≤ G4 := by have := HG4.out; omega
 have hB3 := ((((HB1.out.setCell (p := ⟨G4, 0, none⟩) hle (.int .i64 c)).setCell (p := ⟨G4, 1, none⟩) hle (.int .i64 p0)).setCell (p := ⟨G4, 2, none⟩) hle (.int .i64 p1)).setCell (p := ⟨G4, 3, none⟩) hle (.int .i64 h0)).setCell (p := ⟨G4, 4, none⟩) hle (.int .i64 h1)
 refine bodyPost_ret (v := .tuple #[.agg #[.int .i64 c, .int .i64 p0, .int .i64 p1, .int .i64 h0, .int .i64 h1], .bool true]) ?_ rfl ⟨rfl, hB3⟩
 have r0 := k9.cell 0
 have r1 := k9.cell 1
 have r2 := k9.cell 2
 have r3 := k9.cell 3
 have r4 := k9.cell 4
 simp at r0 r1 r2 r3 r4
 simp [results, Tryz.f29, go_sem, r0, r1, r2, r3, r4]
end Go.Proofs.YthefgdehfgkhhaaGreat
namespace Go.Proofs.YthefgdehfgkhhaaGreat
open Go.RowKit Go.Maps
set_option linter.unusedVariables false
set_option linter.unusedSimpArgs false
attribute [local go_sem] Oper.semAt_some
theorem rowPlace : (150 : TypeId) < Tryz.prog.types.size := of_decide_eq_true (by kernel_rfl)
theorem widePlace : (match Tryz.prog.underlying 150 with | some (.array _ _) | some (.struct _) => true | _ => false) = true := by kernel_rfl
set_option maxRecDepth 100000 in
theorem keyLawPlace : WideMaps.KeyLaw Tryz.prog 150 := deep_law_laid laidOutM (m := 2) (by omega) rowPlace (by kernel_rfl) widePlace
theorem lawPlace : Keyed Tryz.prog 150 := Keyed.of_law keyLawPlace
set_option maxRecDepth 100000 in
theorem held_any (w : World) (p go co bs bh ns : Nat) (own : List Int) (S : List Cn) (lost : Int) (h : LedAt w p go co bs bh ns own S lost) (ch side : Int) :
 Calls Tryz.prog 44 #[.pointer (some ⟨p, 0, none⟩), .int .i64 ch, .int .i64 side] w fun e w' => e = .returned (.int .i64 0) ∧ Below w.heap.size w w' := by
 have c2 := h.box.cell 2
 simp at c2
 have hown := h.hold
 clear h
 go_enter Tryz.func44, Tryz.ntmps44
 go_wp2_with (first
  | (at_range; refine wpList_range_own _ rfl _ 101 rfl 150 153 lawPlace Tryz.underlying101 _ bh 0 _ rfl hown ?_; intro w0 hrg0 hg0 hs0)
  | fail)
 have hb0 : Below w.heap.size w w0 := ⟨hg0.os, hg0.tape, hg0.output, hg0.size, fun i hi => hg0.block i hi (by simp)⟩
 have HB0 := Lib.hid hb0
 have HR0 := Lib.hid hrg0
 clear hb0 hg0 hs0 hrg0 c2 hown
 try go_frame
 go_loopw [7] (fun nv wr => nv = .int .i64 0 ∧ wr = w0) (fun _ _ => 0)
 case atStart => exact ⟨rfl, rfl⟩
 case round =>
  obtain ⟨rfl, rfl⟩ := hrel
  have hrg := HR0.out
  go_wp2_with (first
   | (at_next; refine wpList_next_ranges _ rfl _ rfl 150 lawPlace noE (fun x : Value => x) (fun x : Value => x) (fun key kl hk => ⟨key, rfl⟩) (fun v y hv => ⟨v, rfl⟩) bh w.heap.size 0 _ _ _ rfl hrg ?_ ?_)
   | fail)
  ·intro _ hl0
   clear hrg HR0
   go_wp2_with fail
   go_ret
   exact ⟨rfl, HB0.out⟩
  ·intro x c kl d0 ps0 w' cnt' _ _ _ _ _ hlt
   exact absurd hlt (Nat.not_lt_zero _)
theorem mem_lookS : ∀ {S : List Cn} {s : Cn}, s ∈ S → (lookS S s.c).isSome = true
 | x :: S, s, h => by
  unfold lookS
  split
  ·rfl
  ·rename_i e
   rcases List.mem_cons.1 h with rfl | h
   ·exact absurd rfl e
   ·exact mem_lookS h
theorem isI_of_wf {x : Int} (h : (Lit.int .i64 x).wf = true) : isI x := by
 simp [Lit.wf, IntKind.min, IntKind.max, IntKind.signed, IntKind.bits] at h
 exact h
/-! What a party is worth. -/
def partW (s : Cn) (i : Int) : Int := (if s.p0 = i then s.h0 else 0) + (if s.p1 = i then s.h1 else 0)
def sumW (S : List Cn) (i : Int) : Int := (S.map fun s => partW s i).sum
def worthF (own : List Int) (S : List Cn) (i : Nat) : Int := own.getD i 0 + sumW S i
/-- Of those that are struck. -/
def sumD (S : List Cn) (i : Int) (left : Lit → Bool) : Int := (S.map fun s => if left (.int .i64 s.c) then 0 else partW s i).sum
theorem sumD_all {S : List Cn} {i : Int} {left : Lit → Bool} (h : ∀ s ∈ S, left (.int .i64 s.c) = true) : sumD S i left = 0 := by
 unfold sumD
 induction S with
 | nil => rfl
 | cons s S ih =>
  rw [List.map_cons, List.sum_cons, ih (fun x hx => h x (List.mem_cons_of_mem _ hx)), if_pos (h s (List.mem_cons_self ..))]
  rfl
theorem sumD_none {S : List Cn} {i : Int} {left : Lit → Bool} (h : ∀ k, left k = false) : sumD S i left = sumW S i := by
 unfold sumD sumW
 congr 1
 refine List.map_congr_left fun s _ => ?_
 rw [if_neg (by rw [h]; decide)]
theorem sumD_strike {S : List Cn} {i : Int} {left : Lit → Bool} {s : Cn} (ho : S.Pairwise fun a b => a.c ≠ b.c) (hs : s ∈ S) (hl : left (.int .i64 s.c) = true) : sumD S i (fun z => left z && !z.sameKey (.int .i64 s.c)) = sumD S i left + partW s i := by
 unfold sumD
 induction S with
 | nil => simp at hs
 | cons x S ih =>
  rw [List.pairwise_cons] at ho
  rw [List.map_cons, List.map_cons, List.sum_cons, List.sum_cons]
  rcases List.mem_cons.1 hs with rfl | hs
  ·have hk : (Lit.int .i64 s.c).sameKey (.int .i64 s.c) = true := by simp [Lit.sameKey]
   have hrest : (S.map fun y => if (left (.int .i64 y.c) && !(Lit.int .i64 y.c).sameKey (.int .i64 s.c)) = true then 0 else partW y i) = S.map fun y => if left (.int .i64 y.c) = true then 0 else partW y i := by
    refine List.map_congr_left fun y hy => ?_
    have := Maps.sameKey_ne (keyI_ne (ho.1 y hy).symm)
    rw [this]
    simp
   simp only [hk, hl] at *
   rw [hrest]
   simp
   omega
  ·have := Maps.sameKey_ne (keyI_ne (ho.1 s hs))
   rw [ih ho.2 hs]
   simp only [this, Bool.not_false, Bool.and_true]
   omega
theorem partW_bound {s : Cn} {i : Int} (h0 : 0 ≤ s.h0) (h1 : 0 ≤ s.h1) : 0 ≤ partW s i := by
 unfold partW
 split <;> split <;> omega
theorem sumD_bound {S : List Cn} {i : Int} {left : Lit → Bool} (h : ∀ s ∈ S, 0 ≤ s.h0 ∧ 0 ≤ s.h1) : 0 ≤ sumD S i left ∧ sumD S i left ≤ sumW S i := by
 unfold sumD sumW
 induction S with
 | nil => simp
 | cons s S ih =>
  have h1 := ih (fun x hx => h x (List.mem_cons_of_mem _ hx))
  have h2 := partW_bound (i := i) (h s (List.mem_cons_self ..)).1 (h s (List.mem_cons_self ..)).2
  rw [List.map_cons, List.map_cons, List.sum_cons, List.sum_cons]
  split <;> omega
theorem sumD_room {S : List Cn} {i : Int} {left : Lit → Bool} {s : Cn} (ho : S.Pairwise fun a b => a.c ≠ b.c) (h : ∀ s ∈ S, 0 ≤ s.h0 ∧ 0 ≤ s.h1) (hs : s ∈ S) (hl : left (.int .i64 s.c) = true) : sumD S i left + partW s i ≤ sumW S i := by
 rw [← sumD_strike ho hs hl]
 exact (sumD_bound h).2
set_option maxRecDepth 100000 in
set_option maxHeartbeats 2000000 in
theorem worth_any (w : World) (p go co bs bh ns : Nat) (own : List Int) (S : List Cn) (lost : Int) (h : LedAt w p go co bs bh ns own S lost) (i : Nat) (hi : i < 5) (hpos : ∀ s ∈ S, 0 ≤ s.h0 ∧ 0 ≤ s.h1) (h0 : 0 ≤ own.getD i 0) (hsum : worthF own S i ≤ 1099511627776) :
 Calls Tryz.prog 18 #[.pointer (some ⟨p, 0, none⟩), .int .i64 (i : Int)] w fun e w' => e = .returned (.int .i64 (worthF own S i)) ∧ Below w.heap.size w w' := by
 have HO := own_any w p go co bs bh ns own S lost h i hi
 obtain ⟨D, hown, hsays⟩ := h.map
 have c1 := h.box.cell 1
 simp at c1
 have HL := Lib.hid h
 have HS := Lib.hid hsays
 have HP := Lib.hid hpos
 obtain ⟨a, ha⟩ : ∃ a, own.getD i 0 = a := ⟨_, rfl⟩
 have HW : Hid (worthF own S i = a + sumW S i) := Lib.hid (by unfold worthF; rw [ha])
 rw [ha] at HO h0
 have HSM : Hid (a + sumW S i ≤ 1099511627776) := Lib.hid (by rw [← HW.out]; exact hsum)
 have HA0 := Lib.hid h0
 clear h hsays hpos ha hsum h0
 go_enter Tryz.func18, Tryz.ntmps18
 go_wp2_with fail
 refine HO.mono ?_
 rintro y _ ⟨rfl, rfl⟩
 clear HO
 go_wp2_with (first
  | (at_range; refine wpList_range_own _ rfl _ 99 rfl 3 70 lawInt Tryz.underlying99 _ bs ns _ rfl hown ?_; intro w0 hrg0 hg0 hs0)
  | fail)
 have hb0 : Below w.heap.size w w0 := ⟨hg0.os, hg0.tape, hg0.output, hg0.size, fun i hi => hg0.block i hi (by simp)⟩
 have HB0 := Lib.hid hb0
 have HR0 := Lib.hid hrg0
 have HD0 : Hid (sumD S i (Maps.has D) = 0) := Lib.hid (sumD_all fun s hs => by
  have := HS.out.key s hs
  rw [HS.out.has _ this.1.1]
  exact mem_lookS hs)
 have HBS := Lib.hid hown.lt
 clear hb0 hg0 hs0 hrg0 c1 hown
 try go_frame
 go_loopw [5] (fun nv wr => ∃ (n : Int) (left : Lit → Bool) (cnt : Nat), nv = .int .i64 n ∧ Hid (n = a + sumD S i left) ∧ Hid (wr.ranges Tryz.prog 3 (seatE (H := Unit)) bs w.heap.size ns D left cnt) ∧ Hid (Below w.heap.size w wr)) (fun _ wr => wr.rangeLeft bs w.heap.size)
 case atStart => exact ⟨a, _, _, rfl, Lib.hid (by rw [HD0.out]; omega), HR0, HB0⟩
 case round =>
  obtain ⟨n, left, cnt, rfl, HN, HR, HB⟩ := hrel
  have hrg := HR.out
  clear HR0 HB0 HD0
  go_wp2_with (first
   | (at_next; refine wpList_next_ranges _ rfl _ rfl 3 lawInt (seatE (H := Unit)) (fun x : Int => .int .i64 x) (fun s : Cn => s.v) (fun key kl hk => by obtain ⟨x, h, _⟩ := Maps.keyOf_int_inv Tryz.underlying3 hk; exact ⟨x, h⟩) (fun v y hv => by obtain ⟨s, h, _⟩ := seatE_inv hv; exact ⟨s, h⟩) bs w.heap.size ns _ _ _ rfl hrg ?_ ?_)
   | fail)
  ·intro _ hl0
   have HF : Hid (n = worthF own S i) := Lib.hid (by rw [HN.out, HW.out, sumD_none hl0])
   clear hrg HR
   go_wp2_with fail
   go_ret
   exact ⟨by rw [← HF.out]; rfl, HB.out⟩
  ·intro ch s kl d0 ps0 w1 cnt1 hkey hlk hy hat hrg1 hlt hg1 hsz hen
   try simp only at hkey
   try simp only at hy
   try simp only at hen
   obtain ⟨x, e1, rfl, hx⟩ := Maps.keyOf_int_inv Tryz.underlying3 hkey
   injection e1 with _ e1
   subst e1
   rw [seatE_mk] at hy
   obtain ⟨rfl, rfl⟩ := Prod.mk.inj (Option.some.inj hy)
   try simp only at hat
   have hci : isI ch := isI_of_wf hx
   have hms : s ∈ S ∧ s.c = ch := by
    have hh := Maps.has_true_of_atKey hat
    rw [HS.out.has ch hci] at hh
    obtain ⟨t, ht⟩ := Option.isSome_iff_exists.1 hh
    have h1 := HS.out.at_ ch t (.map []) hci ht
    rw [hat] at h1
    have := Cn.d_inj h1
    subst this
    exact lookS_mem ht
   have HMS := Lib.hid hms
   have HLK := Lib.hid hlk
   have HR1 := Lib.hid hrg1
   have HCN := Lib.hid hrg1.left_eq
   have HLT := Lib.hid (show w1.rangeLeft bs w.heap.size < wr.rangeLeft bs w.heap.size by rw [hrg1.left_eq, hrg.left_eq]; exact hlt)
   have HB1 : Hid (Below w.heap.size w w1) := Lib.hid (by
    refine ⟨hg1.os.trans HB.out.os, hg1.tape.trans HB.out.tape, hg1.output.trans HB.out.output, Nat.le_trans HB.out.size hg1.size, fun j hj => (hg1.block j (Nat.lt_of_lt_of_le hj HB.out.size) (fun e => ?_)).trans (HB.out.block j hj)⟩
    injection e with e
    omega)
   have HNX : Hid (0 ≤ n ∧ n + partW s i ≤ 1099511627776) := Lib.hid (by
    have h1 := sumD_room (i := (i : Int)) HS.out.once HP.out hms.1 (by rw [hms.2]; exact hlk)
    have h2 := (sumD_bound (i := (i : Int)) (left := left) HP.out).1
    have h3 := HN.out
    have h4 := HSM.out
    have h5 := HA0.out
    omega)
   have HN1 : Hid (n + partW s i = a + sumD S i (fun z => left z && !z.sameKey (.int .i64 ch))) := Lib.hid (by
    rw [← hms.2, sumD_strike HS.out.once hms.1 (by rw [hms.2]; exact hlk), HN.out]; omega)
   have HPS := Lib.hid (HP.out s hms.1)
   have HPW : Hid (partW s i = (if s.p0 = (i : Int) then s.h0 else 0) + (if s.p1 = (i : Int) then s.h1 else 0)) := Lib.hid rfl
   obtain ⟨pw, hpw⟩ : ∃ pw, partW s i = pw := ⟨_, rfl⟩
   rw [hpw] at HNX HPW HN1
   have HL1 := Lib.hid (HL.out.on HB1.out)
   clear hpw hms hlk hrg1 hg1 hsz hlt hat hx hkey hci hrg HN HR HB hy
   obtain ⟨c0, p0, p1, h0, h1⟩ := s
   dsimp only at HPS HPW
   simp only [Cn.v, Cn.cs] at hen ⊢
   go_upto_region 5 with (fail)
   obtain ⟨W2, hW2⟩ : ∃ W, W = w1.alloc (.cells #[.int .i64 c0, .int .i64 p0, .int .i64 p1, .int .i64 h0, .int .i64 h1] 70) := ⟨_, rfl⟩
   have hb2 : Below w1.heap.size w1 W2 := by rw [hW2]; exact (Below.refl _ _).alloc (Nat.le_refl _) _
   have k7 : Blk W2 w1.heap.size 70 #[.int .i64 c0, .int .i64 p0, .int .i64 p1, .int .i64 h0, .int .i64 h1] := by rw [hW2]; exact Blk.new w1 _ _
   rw [← hW2]
   obtain ⟨G7, hG7⟩ : ∃ z, w1.heap.size = z := ⟨_, rfl⟩
   rw [hG7] at k7 ⊢
   have HB2 := Lib.hid (bltB HB1.out HB1.out.size hb2)
   have HR2 := Lib.hid (HR1.out.kept (below_grown hb2 none) (by simp) (by simp))
   have HL2 := Lib.hid (HL1.out.on hb2)
   have HK7 := Lib.hid k7
   have d1 := k7.cell 1
   have d2 := k7.cell 2
   simp at d1 d2
   clear hW2 hG7 hb2 hen HR1 HB1 HL1 k7
   have hx0 : ∀ wx : World, (Instr.index 68 (.agg #[.int .i64 p0, .int .i64 p1]) (.int .i64 0)).run Tryz.prog wx = .ok (.int .i64 p0) wx := fun wx => by kernel_rfl
   have hx1 : ∀ wx : World, (Instr.index 68 (.agg #[.int .i64 p0, .int .i64 p1]) (.int .i64 1)).run Tryz.prog wx = .ok (.int .i64 p1) wx := fun wx => by kernel_rfl
   go_wp2_with fail
   clear d1 d2
   go_loopw [5, 25] (fun nv kv wr => ∃ (j : Nat) (m : Int), j ≤ 2 ∧ kv = .int .i64 j ∧ nv = .int .i64 m ∧ Hid (m = n + (if 0 < j ∧ p0 = (i : Int) then h0 else 0) + (if 1 < j ∧ p1 = (i : Int) then h1 else 0)) ∧ Hid (Below W2.heap.size W2 wr)) (fun _ kv _ => 2 - (intOf kv).toNat)
   case atStart => exact ⟨0, n, by omega, rfl, rfl, Lib.hid (by simp), Lib.hid (Below.refl _ _)⟩
   case round =>
    obtain ⟨j, m, hj, rfl, rfl, HM, HBx⟩ := hrel
    have HL3 := Lib.hid (HL2.out.on HBx.out)
    have hj3 : j = 0 ∨ j = 1 ∨ j = 2 := by omega
    rcases hj3 with rfl | rfl | rfl
    ·by_cases hp : p0 = (i : Int)
     ·obtain ⟨hm0, hh0, hmx⟩ : 0 ≤ m ∧ 0 ≤ h0 ∧ m + h0 ≤ 1099511627776 := by
       have h1 := HM.out
       have h2 := HNX.out
       have h3 := HPS.out
       have h4 := HPW.out
       by_cases hq : p1 = (i : Int) <;> simp [hp, hq] at h1 h4 <;> omega
      have g0 : (p0 == (i : Int)) = true := by simpa using hp
      have HP1 := Lib.hid hp
      clear hp
      go_upto_region 9 with (fail)
      have k7 := HK7.out.below HBx.out HK7.out.lt
      refine wp_region_noPanic ?_
      refine ord_begin 11 (fun wx => Below wr.heap.size wr wx) (by kernel_rfl) ?_
      have hx0 : Below wr.heap.size wr wr.drew := (Below.refl _ _).drew
      refine ord_take (i := 0) (v := ?_) (by kernel_rfl) rfl (by decide) (by kernel_rfl) (by kernel_rfl) (fun _ _ _ h => h) (Or.inl ⟨by rfl, ?_⟩) hx0 ?_
      rotate_left
      ·intro wz hz; go_simp; (try with_reducible rfl)
      try simp only [Act.put, pu]
      refine ord_take (i := 1) (v := ?_) (by kernel_rfl) rfl (by decide) (by kernel_rfl) (by kernel_rfl) (fun _ _ _ h => h) (Or.inl ⟨by rfl, ?_⟩) hx0 ?_
      rotate_left
      ·intro wz hz; go_simp; (try with_reducible rfl)
      try simp only [Act.put, pu]
      refine ord_take (i := 2) (v := ?_) (by kernel_rfl) rfl (by decide) (by kernel_rfl) (by kernel_rfl) (fun _ _ _ h => h) (Or.inl ⟨by rfl, ?_⟩) hx0 ?_
      rotate_left
      ·intro wz hz; go_simp; (try with_reducible rfl)
      try simp only [Act.put, pu]
      refine ord_take (i := 3) (v := ?_) (by kernel_rfl) rfl (by decide) (by kernel_rfl) (by kernel_rfl) (fun _ _ _ h => h) (Or.inl ⟨by rfl, ?_⟩) hx0 ?_
      rotate_left
      ·intro wz hz; go_simp; (try with_reducible rfl)
      try simp only [Act.put, pu]
      refine ord_take (i := 4) (v := ?_) (by kernel_rfl) rfl (by decide) (by kernel_rfl) (by kernel_rfl) (fun _ _ _ h => h) (Or.inl ⟨by rfl, ?_⟩) hx0 ?_
      rotate_left
      ·intro wz hz; have j4 := k7.below hz k7.lt; have y0 := j4.cell 3; have y1 := j4.cell 4; simp at y0 y1; go_simp; (try with_reducible rfl)
      try simp only [Act.put, pu]
      refine ord_take (i := 5) (v := ?_) (by kernel_rfl) rfl (by decide) (by kernel_rfl) (by kernel_rfl) (fun _ _ _ h => h) (Or.inl ⟨by rfl, ?_⟩) hx0 ?_
      rotate_left
      ·intro wz hz; go_simp; (try with_reducible rfl)
      try simp only [Act.put, pu]
      refine ord_take (i := 6) (v := ?_) (by kernel_rfl) rfl (by decide) (by kernel_rfl) (by kernel_rfl) (fun _ _ _ h => h) (Or.inl ⟨by rfl, ?_⟩) hx0 ?_
      rotate_left
      ·intro wz hz; go_simp; (try with_reducible rfl)
      try simp only [Act.put, pu]
      refine ord_take (i := 7) (v := ?_) (by kernel_rfl) rfl (by decide) (by kernel_rfl) (by kernel_rfl) (fun _ _ _ h => h) (Or.inl ⟨by rfl, ?_⟩) hx0 ?_
      rotate_left
      ·intro wz hz; go_simp; (try with_reducible rfl)
      try simp only [Act.put, pu]
      refine ord_step (i := 8) rfl (by decide) (by kernel_rfl) (by rfl) (fun K hK => ?_)
      go_simp
      refine (held_any wr.drew p go co bs bh ns own S lost (HL3.out.on hx0) _ _).mono ?_
      rintro y X90_1 ⟨rfl, hb⟩
      have hx1 := bltB hx0 hx0.size hb
      clear hb hx0
      refine hK _ _ hx1 ?_
      clear hK K
      try simp only [Act.put, pu]
      refine ord_take (i := 9) (v := ?_) (by kernel_rfl) rfl (by decide) (by kernel_rfl) (by kernel_rfl) (fun _ _ _ h => h) (Or.inl ⟨by rfl, ?_⟩) hx1 ?_
      rotate_left
      ·intro wz hz; go_simp; (try with_reducible rfl)
      try simp only [Act.put, pu]
      refine ord_take (i := 10) (v := ?_) (by kernel_rfl) rfl (by decide) (by kernel_rfl) (by kernel_rfl) (fun _ _ _ h => h) (Or.inl ⟨by rfl, ?_⟩) hx1 ?_
      rotate_left
      ·intro wz hz; go_simp; (try with_reducible rfl)
      try simp only [Act.put, pu]
      refine ord_rest (by kernel_rfl) ?_
      refine any_step (i := 11) rfl (by kernel_rfl) (by rfl) (fun K hK => ?_)
      go_simp
      refine hK _ _ ?_
      clear hK K
      try simp only [Act.put, pu]
      refine wpAny_done (by kernel_rfl) ?_ _
      refine NoPanic.normal ?_
      have HBy := Lib.hid (bltB HBx.out HBx.out.size hx1)
      have HM2 : Hid (m + h0 = n + (if 0 < 1 ∧ p0 = (i : Int) then h0 else 0) + (if 1 < 1 ∧ p1 = (i : Int) then h1 else 0)) := Lib.hid (by have h1 := HM.out; have h2 := HP1.out; simp [h2] at h1 ⊢; omega)
      go_wp2_with fail
      go_roundw
      case rel => exact ⟨1, m + h0, by omega, rfl, (by first | rfl | (refine congrArg (Value.int .i64) ?_; (try simp only [Int.add_zero]); rw [IntWalk.i64_in h0 (by omega), IntWalk.i64_in _ (by omega)])), HM2, HBy⟩
      case measure => simp [intOf]
     ·have g0 : (p0 == (i : Int)) = false := by simpa using hp
      have HM2 : Hid (m = n + (if 0 < 1 ∧ p0 = (i : Int) then h0 else 0) + (if 1 < 1 ∧ p1 = (i : Int) then h1 else 0)) := Lib.hid (by have h1 := HM.out; simp [hp] at h1 ⊢; omega)
      clear hp
      go_wp2_with fail
      go_roundw
      case rel => exact ⟨1, m, by omega, rfl, rfl, HM2, HBx⟩
      case measure => simp [intOf]
    ·by_cases hp : p1 = (i : Int)
     ·obtain ⟨hm0, hh0, hmx⟩ : 0 ≤ m ∧ 0 ≤ h1 ∧ m + h1 ≤ 1099511627776 := by
       have h1 := HM.out
       have h2 := HNX.out
       have h3 := HPS.out
       have h4 := HPW.out
       by_cases hq : p0 = (i : Int) <;> simp [hp, hq] at h1 h4 <;> omega
      have g0 : (p1 == (i : Int)) = true := by simpa using hp
      have HP1 := Lib.hid hp
      clear hp
      go_upto_region 9 with (fail)
      have k7 := HK7.out.below HBx.out HK7.out.lt
      refine wp_region_noPanic ?_
      refine ord_begin 11 (fun wx => Below wr.heap.size wr wx) (by kernel_rfl) ?_
      have hx0 : Below wr.heap.size wr wr.drew := (Below.refl _ _).drew
      refine ord_take (i := 0) (v := ?_) (by kernel_rfl) rfl (by decide) (by kernel_rfl) (by kernel_rfl) (fun _ _ _ h => h) (Or.inl ⟨by rfl, ?_⟩) hx0 ?_
      rotate_left
      ·intro wz hz; go_simp; (try with_reducible rfl)
      try simp only [Act.put, pu]
      refine ord_take (i := 1) (v := ?_) (by kernel_rfl) rfl (by decide) (by kernel_rfl) (by kernel_rfl) (fun _ _ _ h => h) (Or.inl ⟨by rfl, ?_⟩) hx0 ?_
      rotate_left
      ·intro wz hz; go_simp; (try with_reducible rfl)
      try simp only [Act.put, pu]
      refine ord_take (i := 2) (v := ?_) (by kernel_rfl) rfl (by decide) (by kernel_rfl) (by kernel_rfl) (fun _ _ _ h => h) (Or.inl ⟨by rfl, ?_⟩) hx0 ?_
      rotate_left
      ·intro wz hz; go_simp; (try with_reducible rfl)
      try simp only [Act.put, pu]
      refine ord_take (i := 3) (v := ?_) (by kernel_rfl) rfl (by decide) (by kernel_rfl) (by kernel_rfl) (fun _ _ _ h => h) (Or.inl ⟨by rfl, ?_⟩) hx0 ?_
      rotate_left
      ·intro wz hz; go_simp; (try with_reducible rfl)
      try simp only [Act.put, pu]
      refine ord_take (i := 4) (v := ?_) (by kernel_rfl) rfl (by decide) (by kernel_rfl) (by kernel_rfl) (fun _ _ _ h => h) (Or.inl ⟨by rfl, ?_⟩) hx0 ?_
      rotate_left
      ·intro wz hz; have j4 := k7.below hz k7.lt; have y0 := j4.cell 3; have y1 := j4.cell 4; simp at y0 y1; go_simp; (try with_reducible rfl)
      try simp only [Act.put, pu]
      refine ord_take (i := 5) (v := ?_) (by kernel_rfl) rfl (by decide) (by kernel_rfl) (by kernel_rfl) (fun _ _ _ h => h) (Or.inl ⟨by rfl, ?_⟩) hx0 ?_
      rotate_left
      ·intro wz hz; go_simp; (try with_reducible rfl)
      try simp only [Act.put, pu]
      refine ord_take (i := 6) (v := ?_) (by kernel_rfl) rfl (by decide) (by kernel_rfl) (by kernel_rfl) (fun _ _ _ h => h) (Or.inl ⟨by rfl, ?_⟩) hx0 ?_
      rotate_left
      ·intro wz hz; go_simp; (try with_reducible rfl)
      try simp only [Act.put, pu]
      refine ord_take (i := 7) (v := ?_) (by kernel_rfl) rfl (by decide) (by kernel_rfl) (by kernel_rfl) (fun _ _ _ h => h) (Or.inl ⟨by rfl, ?_⟩) hx0 ?_
      rotate_left
      ·intro wz hz; go_simp; (try with_reducible rfl)
      try simp only [Act.put, pu]
      refine ord_step (i := 8) rfl (by decide) (by kernel_rfl) (by rfl) (fun K hK => ?_)
      go_simp
      refine (held_any wr.drew p go co bs bh ns own S lost (HL3.out.on hx0) _ _).mono ?_
      rintro y X91_1 ⟨rfl, hb⟩
      have hx1 := bltB hx0 hx0.size hb
      clear hb hx0
      refine hK _ _ hx1 ?_
      clear hK K
      try simp only [Act.put, pu]
      refine ord_take (i := 9) (v := ?_) (by kernel_rfl) rfl (by decide) (by kernel_rfl) (by kernel_rfl) (fun _ _ _ h => h) (Or.inl ⟨by rfl, ?_⟩) hx1 ?_
      rotate_left
      ·intro wz hz; go_simp; (try with_reducible rfl)
      try simp only [Act.put, pu]
      refine ord_take (i := 10) (v := ?_) (by kernel_rfl) rfl (by decide) (by kernel_rfl) (by kernel_rfl) (fun _ _ _ h => h) (Or.inl ⟨by rfl, ?_⟩) hx1 ?_
      rotate_left
      ·intro wz hz; go_simp; (try with_reducible rfl)
      try simp only [Act.put, pu]
      refine ord_rest (by kernel_rfl) ?_
      refine any_step (i := 11) rfl (by kernel_rfl) (by rfl) (fun K hK => ?_)
      go_simp
      refine hK _ _ ?_
      clear hK K
      try simp only [Act.put, pu]
      refine wpAny_done (by kernel_rfl) ?_ _
      refine NoPanic.normal ?_
      have HBy := Lib.hid (bltB HBx.out HBx.out.size hx1)
      have HM2 : Hid (m + h1 = n + (if 0 < 2 ∧ p0 = (i : Int) then h0 else 0) + (if 1 < 2 ∧ p1 = (i : Int) then h1 else 0)) := Lib.hid (by have h1 := HM.out; have h2 := HP1.out; simp [h2] at h1 ⊢; omega)
      go_wp2_with fail
      go_roundw
      case rel => exact ⟨2, m + h1, by omega, rfl, (by first | rfl | (refine congrArg (Value.int .i64) ?_; (try simp only [Int.add_zero]); rw [IntWalk.i64_in h1 (by omega), IntWalk.i64_in _ (by omega)])), HM2, HBy⟩
      case measure => simp [intOf]
     ·have g0 : (p1 == (i : Int)) = false := by simpa using hp
      have HM2 : Hid (m = n + (if 0 < 2 ∧ p0 = (i : Int) then h0 else 0) + (if 1 < 2 ∧ p1 = (i : Int) then h1 else 0)) := Lib.hid (by have h1 := HM.out; simp [hp] at h1 ⊢; omega)
      clear hp
      go_wp2_with fail
      go_roundw
      case rel => exact ⟨2, m, by omega, rfl, rfl, HM2, HBx⟩
      case measure => simp [intOf]
    ·have HR3 := Lib.hid (HR2.out.kept (below_grown HBx.out none) (by simp) (by simp))
     have HN3 : Hid (m = a + sumD S i (fun z => left z && !z.sameKey (.int .i64 ch))) := Lib.hid (by rw [← HN1.out, HM.out, HPW.out]; simp; omega)
     have HB3 := Lib.hid (bltB HB2.out HB2.out.size HBx.out)
     go_wp2_with fail
     go_roundw
     case rel => exact ⟨m, _, _, rfl, HN3, HR3, HB3⟩
     case measure => rw [HR3.out.left_eq, ← HCN.out]; exact HLT.out
end Go.Proofs.YthefgdehfgkhhaaGreat
namespace Go.Proofs.YthefgdehfgkhhaaGreat
set_option linter.unusedVariables false
set_option linter.unusedSimpArgs false
structure FOk (L : Notes) (g : List Ed) (fr td a x : Int) (y : Fnd) : Prop where
 ne : y.way ≠ []
 mem : ∀ e ∈ y.way, e ∈ g
 head : ∀ e, y.way.head? = some e → e.f = fr
 last : ∀ e, y.way.getLast? = some e → e.t = td
 cost : ∃ r, cost y.way a x = some r ∧ y.q = oddsL L y.way r.1 1 ∧ y.s = r.1.headD 0
 q0 : y.q ≠ 0
structure LInv (g : List Ed) (td : Int) (l : List Ed) (at_ : Int) : Prop where
 mem : ∀ e ∈ l, e ∈ g
 head : ∀ e, l.head? = some e → e.f = at_
 last : ∀ e, l.getLast? = some e → e.t = td
 nil : l = [] → at_ = td
theorem keep_ok {L : Notes} {g : List Ed} {fr td a x : Int} {b : Option Fnd} {l : List Ed} {at_ : Int} (hb : ∀ y, b = some y → FOk L g fr td a x y) (hl : LInv g td l at_) (hn : l = [] → at_ ≠ fr) (hf : at_ = fr) (hc : ¬ cutB l (oddsW L l a x) b = true) :
 ∀ y, keepF b ⟨l, ((oddsW L l a x).getD (0, 0)).1, ((oddsW L l a x).getD (0, 0)).2⟩ = some y → FOk L g fr td a x y := by
 have hne : l ≠ [] := fun h => hn h hf
 have hFk : FOk L g fr td a x ⟨l, ((oddsW L l a x).getD (0, 0)).1, ((oddsW L l a x).getD (0, 0)).2⟩ := by
  cases ho : oddsW L l a x with
  | none =>
   rw [ho] at hc
   exfalso
   apply hc
   cases l with
   | nil => exact absurd rfl hne
   | cons e l => rfl
  | some r =>
   rw [ho] at hc
   have hq : r.1 ≠ 0 := by
    intro h
    apply hc
    cases l with
    | nil => exact absurd rfl hne
    | cons e l =>
     obtain ⟨r1, r2⟩ := r
     dsimp only at h
     subst h
     simp [cutB]
   unfold oddsW at ho
   cases hcst : Go.Proofs.YthefgdehfgkhhaaGreat.cost l a x with
   | none => rw [hcst] at ho; simp at ho
   | some s =>
    rw [hcst] at ho
    simp only [Option.map_some, Option.some.injEq] at ho
    subst ho
    exact ⟨hne, hl.mem, fun e he => (hl.head e he).trans hf, hl.last, ⟨s, hcst, rfl, rfl⟩, hq⟩
 intro y hy
 unfold keepF at hy
 cases b with
 | none => simp only [Option.some.injEq] at hy; subst hy; exact hFk
 | some z =>
  simp only at hy
  split at hy
  ·simp only [Option.some.injEq] at hy; subst hy; exact hFk
  ·exact hb y hy
theorem look_ok (L : Notes) (g : List Ed) (fr td a x : Int) : ∀ (n : Nat) (b : Option Fnd) (l : List Ed) (at_ : Int), (∀ y, b = some y → FOk L g fr td a x y) → LInv g td l at_ → (l = [] → at_ ≠ fr) → ∀ y, lookF L g fr td a x n b l at_ = some y → FOk L g fr td a x y
 | 0, b, l, at_, hb, hl, hn, y, hy => by
  unfold lookF at hy
  split at hy
  ·exact hb y hy
  ·rename_i hc
   split at hy
   ·rename_i hf
    exact keep_ok hb hl hn hf hc y hy
   ·exact hb y hy
 | n + 1, b, l, at_, hb, hl, hn, y, hy => by
  unfold lookF at hy
  split at hy
  ·exact hb y hy
  ·rename_i hc
   split at hy
   ·rename_i hf
    exact keep_ok hb hl hn hf hc y hy
   ·have key : ∀ (es : List Ed), (∀ e ∈ es, e ∈ intoG g at_) → ∀ b, (∀ y, b = some y → FOk L g fr td a x y) → ∀ y, es.foldl (fun b e => if decide (e.f = td) || l.any (fun y => decide (y.f = e.f)) then b else lookF L g fr td a x n b (e :: l) e.f) b = some y → FOk L g fr td a x y := by
     intro es
     induction es with
     | nil => intro _ b hb y hy; exact hb y hy
     | cons e es ih =>
      intro hes b hb y hy
      rw [List.foldl_cons] at hy
      refine ih (fun e he => hes e (List.mem_cons_of_mem _ he)) _ ?_ y hy
      intro z hz
      split at hz
      ·exact hb z hz
      ·have he := hes e (List.mem_cons_self ..)
       unfold intoG at he
       rw [List.mem_filter, decide_eq_true_eq] at he
       refine look_ok L g fr td a x n b (e :: l) e.f hb ⟨fun u hu => ?_, fun u hu => ?_, fun u hu => ?_, fun h => by simp at h⟩ (fun h => by simp at h) z hz
       ·rcases List.mem_cons.1 hu with rfl | hu
        ·exact he.1
        ·exact hl.mem u hu
       ·simp at hu; subst hu; rfl
       ·cases l with
        | nil => simp at hu; subst hu; rw [he.2]; exact hl.nil rfl
        | cons e' l' => rw [List.getLast?_cons_cons] at hu; exact hl.last u hu
    exact key _ (fun e he => he) b hb y hy
theorem best_ok {L : Notes} {g : List Ed} {fr td a x : Int} {y : Fnd} (h : bestF L g fr td a x = some y) : argsB g fr td a x = true ∧ FOk L g fr td a x y := by
 unfold bestF at h
 split at h
 ·rename_i ha
  refine ⟨ha, look_ok L g fr td a x 8 none [] td (fun y hy => by simp at hy) ⟨fun e he => by simp at he, fun e he => by simp at he, fun e he => by simp at he, fun _ => rfl⟩ (fun _ h => ?_) y h⟩
  unfold argsB at ha
  simp only [Bool.and_eq_true, decide_eq_true_eq] at ha
  exact ha.2.2.2.1 h.symm
 ·simp at h
end Go.Proofs.YthefgdehfgkhhaaGreat
