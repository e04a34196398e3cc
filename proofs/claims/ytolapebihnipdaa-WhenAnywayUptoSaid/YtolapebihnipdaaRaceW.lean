/-
  What a race of the program's own tells: the walk.
-/
import Derived.Test.YtolapebihnipdaaRace
import Derived.BigQuiet
import Derived.Deep.RegionLaw
import Derived.Test.YtolapebihnipdaaReg
namespace Go.Proofs.Ytolapebihnipdaa
open Go.RowKit
set_option linter.unusedVariables false
attribute [local go_sem ↓] Go.wp_at_zero Go.wp_at_succ wp_append_ok

structure Outer (w wr : World) (fr op : Int) (l : List St) (R : Int × Int) (k m c : Nat) (A : Option Addr) (at_ : Int) (kn : Bool) : Prop where
  rc : Rc wr w.heap.size fr op (.slice A m c) kn
  has : Has wr (w.heap.size + 1) fr at_ A m c
  le : m ≤ total (l.take k)
  bel : Below w.heap.size w wr
  eq : race fr op (l.drop k) (fr + m) at_ kn = R

structure Inner (w wr : World) (fr op : Int) (l : List Bool) (P : Int × Int) (M sB : Nat) (sc : Array Value) (j m c : Nat) (A : Option Addr) (at_ : Int) (kn : Bool) : Prop where
  rc : Rc wr w.heap.size fr op (.slice A m c) kn
  has : Has wr (w.heap.size + 1) fr at_ A m c
  le : m ≤ M + j
  bel : Below w.heap.size w wr
  sb : wr.heap[sB]? = some (.cells sc 43 (0, 0))
  eq : blocks op kn (l.drop j) (fr + m) at_ = P

theorem drop_at {α : Type} {l : List α} {k : Nat} {x : α} (h : l[k]? = some x) : l.drop k = x :: l.drop (k + 1) := by
  obtain ⟨hk, rfl⟩ := List.getElem?_eq_some_iff.1 h
  exact List.drop_eq_getElem_cons hk

theorem outer_bad {w wr : World} {fr op : Int} {l : List St} {R : Int × Int} {k m c : Nat} {A : Option Addr} {at_ : Int} {kn : Bool} {x : St}
    (h : Outer w wr fr op l R k m c A at_ kn) (hx : l[k]? = some x) (hb : x.take < 0 ∨ (m : Int) < x.take) : R = (0, 0) := by
  rw [← h.eq, drop_at hx]
  simp only [race]
  rw [if_pos (by omega)]

theorem total_le (l : List St) (k : Nat) : total (l.take k) ≤ total l := by
  have h : total l = total (l.take k) + total (l.drop k) := by
    unfold total
    rw [← List.sum_append, ← List.map_append, List.take_append_drop]
  omega

theorem keeps_le {l : List St} {k : Nat} {x : St} (h : l[k]? = some x) : x.keeps.length ≤ total l := by
  have h1 := total_take l k x h
  have h2 := total_le l (k + 1)
  omega

/-- Where the transaction is, once blocks are taken. -/
def cutAt (fr : Int) (m' : Nat) (at_ : Int) : Int := if fr + m' < at_ then 0 else at_
/-- What the blocks of a step make of it. -/
def pairOf (fr op : Int) (x : St) (m' : Nat) (at_ : Int) (kn : Bool) : Int × Int := blocks op kn x.keeps (fr + m') (cutAt fr m' at_)

theorem outer_good {w wr : World} {fr op : Int} {l : List St} {R : Int × Int} {k m c t : Nat} {A : Option Addr} {at_ : Int} {kn : Bool} {x : St}
    (h : Outer w wr fr op l R k m c A at_ kn) (hx : l[k]? = some x) (ht : x.take = t) (hb : t ≤ m) :
    race fr op (l.drop (k + 1)) (pairOf fr op x (m - t) at_ kn).1 (pairOf fr op x (m - t) at_ kn).2 (kn || (x.awake && decide (op ≤ (pairOf fr op x (m - t) at_ kn).1 + 1))) = R := by
  have h1 := h.eq
  rw [drop_at hx] at h1
  simp only [race] at h1
  rw [if_neg (by omega), ht, show fr + (m : Int) - (t : Int) = fr + ((m - t : Nat) : Int) by omega] at h1
  exact h1

theorem own_cut {w : World} {base : Nat} {e : TypeId} {A : Option Addr} {m c k : Nat} {xs : List Value} (h : w.ownsRow base e 1 (.slice A m c) m xs) (hk : k ≤ m) (hA : 0 < m) :
    w.ownsRow base e 1 (.slice A k c) k (xs.take k) := by
  refine ⟨by rw [List.length_take, h.1]; omega, ?_⟩
  rcases h.2 with ⟨_, h0⟩ | ⟨g, cap, cur, hv, hg, hh, hn, hc, hs, ht⟩
  · omega
  · refine .inr ⟨g, cap, cur, ?_, hg, hh, by omega, hc, hs, ?_⟩
    · have : A = some ⟨g, 0, none⟩ ∧ c = cap := by simpa using hv
      rw [this.1, this.2]
    · rw [← ht, List.take_take]; congr 1; omega

theorem own_cap {w : World} {base : Nat} {e : TypeId} {A : Option Addr} {m c s : Nat} {xs : List Value} (h : w.ownsRow base e s (.slice A m c) m xs) : m ≤ c ∧ c ≤ 9223372036854775807 := by
  rcases h.2 with ⟨h1, h0⟩ | ⟨g, cap, cur, hv, hg, hh, hn, hc, hs, ht⟩
  · have : c = 0 := by simp at h1; exact h1.2.2
    omega
  · have : A = some ⟨g, 0, none⟩ ∧ c = cap := by simpa using hv
    rw [this.2]; unfold maxLen at hc; omega

theorem marks_cut (fr at_ : Int) (m k : Nat) (h0 : 0 ≤ fr) (hk : k ≤ m) : (marks fr at_ m).take k = marks fr (cutAt fr k at_) k := by
  apply List.ext_getElem?
  intro i
  by_cases hi : i < k
  · rw [List.getElem?_take, if_pos hi, marks_at _ _ _ _ (by omega), marks_at _ _ _ _ hi]
    congr 1
    unfold cutAt
    split
    · rw [decide_eq_false (by omega), decide_eq_false (by omega)]
    · rfl
  · rw [List.getElem?_eq_none (by rw [List.length_take, marks_len]; omega), List.getElem?_eq_none (by rw [marks_len]; omega)]

theorem Rc.keep {w w' : World} {g : Nat} {fr op : Int} {hv : Value} {kn : Bool} (h : Rc w g fr op hv kn) (hk : w'.heap[g]? = w.heap[g]?) : Rc w' g fr op hv kn := hk.trans h
theorem Rc.alloc {w : World} {g : Nat} {fr op : Int} {hv : Value} {kn : Bool} (h : Rc w g fr op hv kn) (o : Obj) : Rc (w.alloc o) g fr op hv kn := Rc.keep h (Below.heap_alloc w o g (blk_lt h))

theorem Has.cut {w : World} {base : Nat} {fr at_ : Int} {A : Option Addr} {t d c : Nat} (h : Has w base fr at_ A (t + d) c) (h0 : 0 ≤ fr) : Has w base fr (cutAt fr d at_) A d c := by
  have hok : cutAt fr d at_ = 0 ∨ (fr < cutAt fr d at_ ∧ cutAt fr d at_ ≤ fr + d) := by
    have := h.ok
    unfold cutAt
    split <;> omega
  refine ⟨?_, hok⟩
  rcases Nat.eq_zero_or_pos (t + d) with hz | hz
  · have hd : d = 0 := by omega
    have ht : t = 0 := by omega
    subst hd; subst ht
    have h1 := h.own
    simpa [marks] using h1
  · have h1 := own_cut h.own (show d ≤ t + d by omega) hz
    rw [← List.map_take, marks_cut fr at_ (t + d) d h0 (by omega)] at h1
    exact h1

theorem inner_start {w wr : World} {fr op : Int} {l : List St} {R : Int × Int} {k t d c m2 c2 : Nat} {A A2 : Option Addr} {at_ : Int} {kn : Bool} {x : St} (xa : Bool)
    (h : Outer w wr fr op l R k (t + d) c A at_ kn) (h0 : 0 ≤ fr) :
    Inner w (((wr.setCell ⟨w.heap.size, 2, none⟩ (.slice A d c)).alloc (.cells #[.int .i64 t, .slice A2 m2 c2, .bool xa] 43)).drew.drew) fr op x.keeps (pairOf fr op x d at_ kn) d wr.heap.size #[.int .i64 t, .slice A2 m2 c2, .bool xa] 0 d c A (cutAt fr d at_) kn := by
  have hsz := h.bel.size
  have hset : (wr.setCell ⟨w.heap.size, 2, none⟩ (.slice A d c)).heap.size = wr.heap.size := by simp [World.setCell]
  refine ⟨?_, ⟨?_, (h.has.cut h0).ok⟩, by omega, ?_, ?_, rfl⟩
  · exact Rc.alloc (rc_has h.rc _) _
  · exact (ownsRow_setCell_below (h.has.cut h0).own (by simp) _).alloc _
  · exact ((((h.bel.setCell (p := ⟨w.heap.size, 2, none⟩) (by simp) _).alloc (by rw [hset]; exact hsz) _).drew).drew)
  · rw [← hset]; exact heap_alloc_new _ _

theorem marks_step (fr at_ : Int) (m : Nat) (c : Prop) [Decidable c] (h0 : 0 ≤ fr) (hc : c → at_ = 0) (hok : at_ = 0 ∨ (fr < at_ ∧ at_ ≤ fr + m)) :
    marks fr at_ m ++ [decide c] = marks fr (if c then fr + m + 1 else at_) (m + 1) := by
  apply List.ext_getElem?
  intro i
  by_cases hi : i < m
  · rw [List.getElem?_append_left (by rw [marks_len]; exact hi), marks_at _ _ _ _ hi, marks_at _ _ _ _ (by omega)]
    congr 1
    split
    · rename_i h
      have := hc h
      rw [decide_eq_false (by omega), decide_eq_false (by omega)]
    · rfl
  · by_cases he : i = m
    · subst he
      rw [List.getElem?_append_right (by rw [marks_len]; exact Nat.le_refl _), marks_len, marks_at _ _ _ _ (by omega)]
      simp
      by_cases h : c
      · simp [h]
      · simp [h]; omega
    · rw [List.getElem?_eq_none (by simp [marks_len]; omega), List.getElem?_eq_none (by rw [marks_len]; omega)]

theorem after_append {wr W w2 : World} {g : Nat} {fr op : Int} {hv : Value} {kn : Bool} {o : Obj} {v : Value} (hW : W.heap = (wr.alloc o).heap) (hg : W.grownBy w2 v.ownBlock) (h : Rc wr g fr op hv kn) (hne : v.ownBlock ≠ some g) : Rc w2 g fr op hv kn := by
  have hl := blk_lt h
  have h1 : W.heap[g]? = wr.heap[g]? := by rw [hW]; exact Below.heap_alloc wr o g hl
  have h2 : g < W.heap.size := by rw [hW]; show g < (wr.alloc o).heap.size; simp; omega
  exact ((hg.block g h2 (fun e => hne e.symm)).trans h1).trans h

theorem inner_step {w wr w2 : World} {fr op : Int} {l : List Bool} {P : Int × Int} {M sB gg cap : Nat} {sc : Array Value} {j m c : Nat} {A : Option Addr} {at_ : Int} {kn kp b : Bool}
    (h : Inner w wr fr op l P M sB sc j m c A at_ kn) (h0 : 0 ≤ fr) (hkp : l[j]? = some kp) (hb : b = decide (at_ = 0 ∧ kn = true ∧ kp = false ∧ op ≤ fr + m + 1))
    (hown : w2.ownsRow (w.heap.size + 1) 4 1 (.slice (some ⟨gg, 0, none⟩) (m + 1) cap) (m + 1) ((marks fr at_ m).map Value.bool ++ [.bool b])) (hgrow : (wr.alloc (.cells #[.bool b] 4)).drew.grownBy w2 (Value.slice A m c).ownBlock) :
    Inner w (w2.setCell ⟨w.heap.size, 2, none⟩ (.slice (some ⟨gg, 0, none⟩) (m + 1) cap)) fr op l P M sB sc (j + 1) (m + 1) cap (some ⟨gg, 0, none⟩) (if at_ = 0 ∧ kn = true ∧ kp = false ∧ op ≤ fr + m + 1 then fr + m + 1 else at_) kn := by
  have hne : (Value.slice A m c).ownBlock ≠ some w.heap.size := fun e => by have := (h.has.own.lt _ e).1; omega
  have hns : (Value.slice A m c).ownBlock ≠ some sB := fun e => by
    rcases h.has.own.2 with ⟨h1, _⟩ | ⟨g, cap', cur, h1, _, hh, _⟩
    · rw [h1] at e; simp [Value.ownBlock] at e
    · rw [h1] at e
      have : g = sB := by simpa [Value.ownBlock] using e
      subst this
      rw [h.sb] at hh
      simp at hh
  have hgs : sB ≠ w.heap.size := fun e => by
    have h1 := h.rc
    have h2 := h.sb
    rw [e] at h2
    unfold Rc at h1
    rw [h1] at h2
    simp at h2
  have hsz := h.bel.size
  have hl := blk_lt h.sb
  refine ⟨rc_has (after_append (W := (wr.alloc (.cells #[.bool b] 4)).drew) rfl hgrow h.rc hne) _, ⟨?_, ?_⟩, by have := h.le; omega, ?_, ?_, ?_⟩
  · refine ownsRow_setCell_below ?_ (by simp) _
    rw [hb] at hown
    have := marks_step fr at_ m (at_ = 0 ∧ kn = true ∧ kp = false ∧ op ≤ fr + m + 1) h0 (fun h => h.1) h.has.ok
    rw [← this]
    simpa using hown
  · have := h.has.ok
    split <;> omega
  · refine (((h.bel.alloc hsz _).drew).grown hgrow (by show _ ≤ (wr.alloc _).heap.size; simp; omega) (fun k hk => ?_)).setCell (by simp) _
    have := (h.has.own.lt k hk).1
    omega
  · rw [Below.heap_setCell _ _ _ _ hgs]
    have h1 : (wr.alloc (.cells #[.bool b] 4)).drew.heap[sB]? = wr.heap[sB]? := Below.heap_alloc wr _ sB hl
    exact ((hgrow.block sB (by show sB < (wr.alloc _).heap.size; simp; omega) (fun e => hns e.symm)).trans h1).trans h.sb
  · have h1 := h.eq
    rw [drop_at hkp] at h1
    simp only [blocks] at h1
    rw [show fr + ((m + 1 : Nat) : Int) = fr + m + 1 by omega]
    exact h1

theorem World.grownBy_self (w : World) (row : Option Nat) : w.grownBy w row := ⟨rfl, rfl, rfl, Nat.le_refl _, fun _ _ _ => rfl⟩

theorem outer_next {w wi w' : World} {fr op : Int} {l : List St} {R : Int × Int} {k d sB m2 m c : Nat} {sc : Array Value} {A : Option Addr} {at_ at3 : Int} {kn kn' xa : Bool} {x : St}
    (h : Inner w wi fr op x.keeps (pairOf fr op x d at_ kn) d sB sc m2 m c A at3 kn) (hlen : x.keeps.length = m2) (hx : l[k]? = some x) (hd : d ≤ total (l.take k))
    (hG : race fr op (l.drop (k + 1)) (pairOf fr op x d at_ kn).1 (pairOf fr op x d at_ kn).2 (kn || (xa && decide (op ≤ (pairOf fr op x d at_ kn).1 + 1))) = R)
    (hk : kn' = (kn || (xa && decide (op ≤ fr + m + 1)))) (hrc : Rc w' w.heap.size fr op (.slice A m c) kn') (hg : wi.grownBy w' (some w.heap.size)) : Outer w w' fr op l R (k + 1) m c A at3 kn' := by
  have hP : pairOf fr op x d at_ kn = (fr + m, at3) := by
    have h1 := h.eq
    rw [← hlen, List.drop_length] at h1
    exact h1.symm
  have hne : (Value.slice A m c).ownBlock ≠ some w.heap.size := fun e => by have := (h.has.own.lt _ e).1; omega
  refine ⟨hrc, ⟨h.has.own.kept hg (Or.inr hne), h.has.ok⟩, ?_, h.bel.grown hg h.bel.size (fun g hgq => by simp at hgq; omega), ?_⟩
  · have h1 := h.le
    have h2 := total_take l k x hx
    omega
  · rw [hP] at hG
    rw [hk]
    exact hG

theorem ret_two {a b : Int} {R : Int × Int} (h : (a, b) = R) : Ending.returned (.tuple #[.int .i64 a, .int .i64 b]) = Ending.returned (.tuple #[.int .i64 R.1, .int .i64 R.2]) := by rw [← h]

theorem info4 : (Try.prog.info? 4).map (fun i => (i.zero, i.size, i.bytes)) = some (some (.bool false), 1, 1) := by kernel_rfl

def RaceOut (w : World) (R : Int × Int) (e : Ending) (w' : World) : Prop := e = .returned (.tuple #[.int .i64 R.1, .int .i64 R.2]) ∧ Below w.heap.size w w'

set_option maxRecDepth 100000 in
set_option maxHeartbeats 4000000 in
theorem race_any (w : World) (fr op : Int) (A : Option Addr) (n c : Nat) (l : List St) (hs : Steps w w.heap.size A n l) (ht : total l ≤ 1000000)
    (hf0 : 0 ≤ fr) (hf1 : fr ≤ 2097152) (hop : op ≤ 2097152) (hop1 : -9223372036854775808 ≤ op) :
    Calls Try.prog 22 #[.int .i64 fr, .int .i64 op, .slice A n c] w (RaceOut w (race fr op l fr 0 (decide (op ≤ fr + 1)))) := by
  obtain ⟨hlen, hsm, hat⟩ := hs
  have HL := Lib.hid hlen
  have HAT := Lib.hid hat
  clear hlen hat
  obtain ⟨R, hR⟩ : ∃ R, R = race fr op l fr 0 (decide (op ≤ fr + 1)) := ⟨_, rfl⟩
  rw [← hR]
  have HR := Lib.hid hR
  clear hR
  obtain ⟨M, hM, hM1⟩ : ∃ M : Int, (if fr < op then op else fr) = M ∧ M ≤ 2097152 := ⟨_, rfl, by split <;> omega⟩
  go_enter Try.func22, Try.ntmps22
  go_wp2_with (go_at_call 29; refine (wake_any _ w.heap.size fr op none 0 0 false (heap_alloc_new w _) hf0 hf1 (by omega)).mono ?_; rintro e w1 ⟨rfl, hrc, hgr⟩)
  clear hM hM1
  have hbel1 : Below w.heap.size w w1 := ((Below.refl _ _).alloc (Nat.le_refl _) _).grown hgr (by simp) (fun k hk => by simp at hk; omega)
  generalize Value.bool (decide (fr < 0) || decide (2097152 < M)) = s21
  generalize Value.bool (decide (2097152 < M)) = s20
  generalize Value.bool (decide (fr < 0)) = s15
  go_loopw [30] (fun i wr => ∃ (k m c : Nat) (A : Option Addr) (at_ : Int) (kn : Bool), k ≤ n ∧ i = .int .i64 k ∧ Outer w wr fr op l R k m c A at_ kn) (fun i _ => n - (intOf i).toNat)
  case atStart =>
    refine ⟨0, 0, 0, none, 0, _, Nat.zero_le _, rfl, hrc, ⟨World.ownsRow_nil _ _ _ _, Or.inl rfl⟩, by omega, hbel1, ?_⟩
    rw [HR.out]; simp
  case round =>
    obtain ⟨k, m, c', A', at_, kn, hk, rfl, hO⟩ := hrel
    by_cases hlt : k < n
    · obtain ⟨x, hx⟩ : ∃ x, l[k]? = some x := ⟨_, List.getElem?_eq_getElem (by rw [HL.out]; exact hlt)⟩
      obtain ⟨b, off, hA, hbB, hst⟩ := HAT.out (by omega)
      have hsk := hst k x hx
      obtain ⟨A2, m2, c2, hc2, hbo⟩ := hsk.keeps
      have e0 : wr.cell? ⟨b, off + k * 3, none⟩ = some (.int .i64 x.take) := (hO.bel.cell (p := ⟨b, off + k * 3, none⟩) hbB).trans hsk.take
      have e1 : wr.cell? ⟨b, off + k * 3 + 1, none⟩ = some (.slice A2 m2 c2) := (hO.bel.cell (p := ⟨b, off + k * 3 + 1, none⟩) hbB).trans hc2
      have e2 : wr.cell? ⟨b, off + k * 3 + 2, none⟩ = some (.bool x.awake) := (hO.bel.cell (p := ⟨b, off + k * 3 + 2, none⟩) hbB).trans hsk.awake
      clear hst
      subst hA
      have hlo := hsk.lo
      have hhi := hsk.hi
      have hsz := hO.bel.size
      have r0 := blk_cell hO.rc 0
      have r1 := blk_cell hO.rc 1
      have r2 := blk_cell hO.rc 2
      have r3 := blk_cell hO.rc 3
      have f2 := blk_free hO.rc 2
      have lg := blk_lt hO.rc
      simp at r0 r1 r2 r3
      have hF : Below w.heap.size w ((wr.alloc (.cells #[.int .i64 x.take, .slice A2 m2 c2, .bool x.awake] 43)).drew) := ((hO.bel.alloc hsz _).drew)
      have hm6 : m ≤ 1000000 := Nat.le_trans hO.le (Nat.le_trans (total_le l k) ht)
      have HO := Lib.hid hO
      have HX := Lib.hid hx
      have HSK := Lib.hid hsk
      have HBO := Lib.hid hbo
      clear hO hx hsk hbo hc2
      by_cases hneg : x.take < 0
      · have H0 := Lib.hid (outer_bad HO.out HX.out (Or.inl hneg))
        generalize x.take = xt at *
        generalize x.awake = xa at *
        have hd1 : decide (xt < 0) = true := decide_eq_true hneg
        go_wp2_with fail
        go_big_region
        go_wp2
        all_goals (go_ret2; rw [H0.out]; exact ⟨rfl, hF⟩)
      · obtain ⟨t, htk⟩ := Int.eq_ofNat_of_zero_le (Int.not_lt.1 hneg)
        have HTK := Lib.hid htk
        rw [htk] at e0 hlo hhi hF
        by_cases hle : t ≤ m
        · have HG := Lib.hid (outer_good HO.out HX.out HTK.out hle)
          have ht0 : (0 : Int) ≤ (t : Int) := Int.natCast_nonneg _
          have ht1 : (t : Int) ≤ (m : Int) := by omega
          clear htk hneg
          generalize x.awake = xa at *
          obtain ⟨d, rfl⟩ : ∃ d, m = t + d := ⟨m - t, by omega⟩
          have hcap := own_cap HO.out.has.own
          have hcap1 : ((t + d : Nat) : Int) ≤ (c' : Int) := by omega
          have hcap2 : (d : Int) ≤ (c' : Int) := by omega
          have hd0 : (0 : Int) ≤ (d : Int) := Int.natCast_nonneg _
          have hmp : Option.map (fun x : Addr => x.add 0) A' = A' := by cases A' <;> simp [Addr.add]
          have hd1 : decide ((t : Int) < 0) = false := decide_eq_false (by omega)
          have hd2 : decide ((t : Int) + (d : Int) < (t : Int)) = false := decide_eq_false (by omega)
          go_wp2_with fail
          go_big_region
          go_wp2_with fail
          go_big_region
          go_wp2_with fail
          have HI0 := Lib.hid (inner_start (A2 := A2) (m2 := m2) (c2 := c2) (x := x) xa HO.out hf0)
          have hm20 : m2 ≤ 1000000 := by rw [← HBO.out.len]; exact Nat.le_trans (keeps_le HX.out) ht
          clear e0 e1 e2 r0 r1 r2 r3 f2 hF hd1 hd2 hmp
          generalize Value.slice A' (t + d - t) c' = s60
          generalize Value.int IntKind.i64 ((t : Int) + d - t) = s59
          obtain ⟨wo, rfl⟩ : ∃ wo : World, wo = wr := ⟨_, rfl⟩
          go_loopw [66] (fun i wi => ∃ (j m c3 : Nat) (A3 : Option Addr) (at3 : Int), j ≤ m2 ∧ i = .int .i64 j ∧ Inner w wi fr op x.keeps (pairOf fr op x d at_ kn) d wo.heap.size #[.int .i64 t, .slice A2 m2 c2, .bool xa] j m c3 A3 at3 kn) (fun i _ => m2 - (intOf i).toNat)
          case atStart => exact ⟨0, d, c', A', _, Nat.zero_le _, rfl, HI0.out⟩
          case round =>
            obtain ⟨j, m, c3, A3, at3, hj, rfl, hI⟩ := hrel
            by_cases hlj : j < m2
            · obtain ⟨kp, hkp⟩ : ∃ kp, x.keeps[j]? = some kp := ⟨_, List.getElem?_eq_getElem (by rw [HBO.out.len]; exact hlj)⟩
              obtain ⟨kb, ko, hA2, hkB, hkc⟩ := HBO.out.at_ (by omega)
              subst hA2
              have q0 : wr.cell? ⟨kb, ko + j, none⟩ = some (.bool kp) := (hI.bel.cell (p := ⟨kb, ko + j, none⟩) hkB).trans (hkc j kp hkp)
              have r0 := blk_cell hI.rc 0
              have r2 := blk_cell hI.rc 2
              have r3 := blk_cell hI.rc 3
              have f2 := blk_free hI.rc 2
              simp at r0 r2 r3
              have hsi := hI.bel.size
              have hms : m ≤ 2000000 := by have := hI.le; omega
              have HII := Lib.hid hI
              have HKP := Lib.hid hkp
              clear hkc hI hkp
              obtain ⟨i0, hi, hz0, hz1, hz2⟩ := info_parts info4
              have HIN := Lib.hid (And.intro hi (And.intro hz0 (And.intro hz1 hz2)))
              clear hi hz0 hz1 hz2
              have hne : (Value.slice A3 m c3).ownBlock ≠ some w.heap.size := fun e => by have := (HII.out.has.own.lt _ e).1; omega
              have lg2 := blk_lt HII.out.rc
              obtain ⟨b, hb⟩ : ∃ b, b = decide (at3 = 0 ∧ kn = true ∧ kp = false ∧ op ≤ fr + m + 1) := ⟨_, rfl⟩
              obtain ⟨gg, cap, w2, hrun, hown1, hgrow, hat2, hlt2⟩ := run_append_lies (P := Try.prog) (wr.alloc (.cells #[.bool b] 4)).drew 41 41 (w.heap.size + 1) 4 i0 _ 1 1 Try.underlying41 HIN.out.1 HIN.out.2.1 HIN.out.2.2.1 HIN.out.2.2.2 rfl (by omega) (.slice A3 m c3) m ((marks fr at3 m).map Value.bool) ((HII.out.has.own.alloc _).drew)
                ⟨wr.heap.size, 0, none⟩ 1 1 [.bool b] (by rfl) (World.news_of_block (cs := #[.bool b]) (t := 4) (fr := (0, 0)) (heap_alloc_new wr _)) (by simp [Value.oneCell'])
                (by omega) (by unfold maxLen; omega) (by omega) (by simp; omega) (wr.heap.size + 1) (by simp)
              have s2 := blk_cell (after_append (W := (wr.alloc (.cells #[.bool b] 4)).drew) rfl hgrow HII.out.rc hne) 2
              have sf2 := blk_free (after_append (W := (wr.alloc (.cells #[.bool b] 4)).drew) rfl hgrow HII.out.rc hne) 2
              simp at s2
              have HS := Lib.hid (inner_step HII.out hf0 HKP.out hb hown1 hgrow)
              obtain ⟨hap1, hap2, hap3⟩ := app_of_run hrun
              have HGR := Lib.hid hgrow
              clear hrun hown1 hgrow hat2
              by_cases hcall : kn = true ∧ kp = false ∧ op ≤ fr + m + 1
              · obtain ⟨hc1, hc2, hc3⟩ := hcall
                subst hc2
                have hd3 : decide (op ≤ fr + (m : Int) + 1) = true := decide_eq_true hc3
                have HC1 := Lib.hid hc1
                clear hc1
                have hbb : (at3 == 0) = b := by rw [hb, Bool.eq_iff_iff]; simp [hc3, HC1.out]
                have s3 := blk_cell (after_append (W := (wr.alloc (.cells #[.bool b] 4)).drew) rfl HGR.out HII.out.rc hne) 3
                simp [HC1.out] at s3
                clear hb
                go_wp2_with fail
                refine reg15_call _ (fun _ _ d _ _ h => by cases d <;> exact h) (w.heap.size + 1) w.heap.size m c3 fr op at3 A3 wr w2 b (by have h5 := HII.out.rc; rw [HC1.out] at h5; exact h5) HII.out.has hf0 hf1 hms hd3 hbb _ hap1 hap2 hap3 ⟨_, _, _, rfl⟩ s2 s3 sf2 ?_
                intros
                go_wp2
                go_roundw
                case rel => exact ⟨j + 1, m + 1, cap, _, _, by omega, by go_num, HS.out⟩
                case measure => simp [intOf]; omega
              · have hbf : b = false := by rw [hb]; exact decide_eq_false (fun h => hcall h.2)
                clear hb
                subst hbf
                have hcs : kn = false ∨ (kn = true ∧ kp = true) ∨ (kn = true ∧ kp = false ∧ fr + m + 1 < op) := by
                  cases kn <;> cases kp <;> simp_all
                clear hcall
                rcases hcs with hcs | ⟨hcs1, hcs2⟩ | ⟨hcs1, hcs2, hcs3⟩
                · subst hcs
                  go_wp2_with fail
                  go_big_region
                  go_wp2
                  go_roundw
                  case rel => exact ⟨j + 1, m + 1, cap, _, _, by omega, by go_num, HS.out⟩
                  case measure => simp [intOf]; omega
                · subst hcs1; subst hcs2
                  go_wp2_with fail
                  go_big_region
                  go_wp2
                  go_roundw
                  case rel => exact ⟨j + 1, m + 1, cap, _, _, by omega, by go_num, HS.out⟩
                  case measure => simp [intOf]; omega
                · subst hcs1; subst hcs2
                  have hd3 : decide (op ≤ fr + (m : Int) + 1) = false := decide_eq_false (by omega)
                  go_wp2_with fail
                  go_big_region
                  go_wp2
                  go_roundw
                  case rel => exact ⟨j + 1, m + 1, cap, _, _, by omega, by go_num, HS.out⟩
                  case measure => simp [intOf]; omega
            · have hjm : j = m2 := by omega
              subst hjm
              have hml2 : m ≤ 2000000 := by have := hI.le; omega
              have r0 := blk_cell hI.sb 2
              simp at r0
              have HN : Hid (∀ (w' : World) (kn' : Bool), kn' = (kn || (xa && decide (op ≤ fr + m + 1))) → Rc w' w.heap.size fr op (.slice A3 m c3) kn' → wr.grownBy w' (some w.heap.size) → Outer w w' fr op l R (k + 1) m c3 A3 at3 kn') := by
                intro w' kn' h1 h2 h3
                exact outer_next hI HBO.out.len HX.out (by have := HO.out.le; omega) (by have h4 := HG.out; rw [Nat.add_sub_cancel_left] at h4; exact h4) h1 h2 h3
              have HRC := Lib.hid hI.rc
              clear hI
              rcases xa with _ | _
              · go_wp2_with fail
                go_roundw
                case rel => exact ⟨k + 1, m, c3, A3, at3, kn, by omega, by go_num, HN.out wr kn (by simp) HRC.out (World.grownBy_self _ _)⟩
                case measure => simp [intOf]; omega
              · go_wp2_with (go_at_call 29; refine (wake_any _ w.heap.size fr op A3 m c3 kn HRC.out hf0 hf1 (by omega)).mono ?_; rintro e w5 ⟨rfl, hrc5, hgr5⟩)
                go_roundw
                case rel => exact ⟨k + 1, m, c3, A3, at3, _, by omega, by go_num, HN.out _ _ (by simp) hrc5 hgr5⟩
                case measure => simp [intOf]; omega
        · have H0 := Lib.hid (outer_bad HO.out HX.out (Or.inr (by rw [htk]; omega)))
          have ht0 : (0 : Int) ≤ (t : Int) := Int.natCast_nonneg _
          have ht1 : (m : Int) < (t : Int) := by omega
          clear htk hneg hle
          generalize x.awake = xa at *
          have hd1 : decide ((t : Int) < 0) = false := decide_eq_false (by omega)
          have hd2 : decide ((m : Int) < (t : Int)) = true := decide_eq_true ht1
          go_wp2_with fail
          go_big_region
          go_wp2
          all_goals (go_ret2; rw [H0.out]; exact ⟨rfl, hF⟩)
    · have hkn : n = k := by omega
      subst hkn
      have hml3 : m ≤ 1000000 := Nat.le_trans hO.le (Nat.le_trans (total_le l n) ht)
      have HF : Hid ((fr + (m : Int), at_) = R) := by
        have := hO.eq
        rw [List.drop_of_length_le (by rw [HL.out]; exact Nat.le_refl _)] at this
        exact this
      have r2 := blk_cell hO.rc 2
      simp at r2
      have HO := Lib.hid hO
      clear hO
      go_wp2_with fail
      go_region_held3 (fun wx => wx.cell? ⟨w.heap.size, 2, none⟩ = some (.slice A' m c')) (go_keep) ((go_at_call 30; refine (where_any _ (w.heap.size + 1) w.heap.size fr op at_ A' m c' kn (show Rc wr.drew w.heap.size fr op (.slice A' m c') kn from HO.out.rc) ⟨HO.out.has.own.drew, HO.out.has.ok⟩ hf0 hf1 (by omega)).mono ?_; rintro e w' ⟨rfl, rfl⟩))
      go_wp2
      go_ret2
      exact ⟨ret_two (by rw [show IntKind.i64.wrap (fr + (m : Int)) = fr + m from IntWalk.i64_in _ (by omega)]; exact HF.out), HO.out.bel.drew⟩

end Go.Proofs.Ytolapebihnipdaa
