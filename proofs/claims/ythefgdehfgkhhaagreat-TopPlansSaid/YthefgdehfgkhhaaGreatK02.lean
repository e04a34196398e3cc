/-
  Digits in base 2^32 as lists of numbers: plain, no program in sight.
-/
import Derived.Test.YthefgdehfgkhhaaGreatK01
import Derived.PlainAid
import Derived.WalkKit
import Derived.Deep.Draws
import Derived.Laws.OwnMore
import Derived.Laws.MakeOwn
import Derived.Laws.Rows
import Derived.Lib.Hide
import Derived.Test.YthefgdehfgkhhaaGreatProg
import Derived.Handy
import Derived.Laws.BitsAllLaws
import Derived.Laws.BitsLemmas
import Derived.OwnWalk
import Derived.Maps.AppendAt
import Derived.RegionTactic
import Derived.Lib.SliceRun
import Derived.Deep.AppendLies
import Derived.RangeFuncNested
import Derived.RangeFuncBound
import Derived.RangeFuncCalls
import Derived.RangeFuncLeaves
import Derived.RangeFuncBox
import Derived.Shelf.Abstract
import Derived.Shelf.RegionOpen
import Derived.OwnWalkIn
import Derived.TacticsInMore
import Derived.LoopNIn
import Derived.LoopIn
namespace Go.Proofs.YthefgdehfgkhhaaGreat
/-- What digits are worth, the low ones first. -/
def val : List Nat → Nat
 | [] => 0
 | d :: ds => d + 4294967296 * val ds
/-- Each is a digit. -/
def Dig (l : List Nat) : Prop := ∀ d ∈ l, d < 4294967296
/-- No nought on top. -/
def rightB (l : List Nat) : Bool := l.isEmpty || l.getD (l.length - 1) 0 != 0
/-- A number's digits. -/
def digs (n : Nat) : List Nat := if n = 0 then [] else (n % 4294967296) :: digs (n / 4294967296)
termination_by n
decreasing_by omega
theorem digs_zero : digs 0 = [] := by rw [digs]; rfl
theorem digs_pos {n : Nat} (h : n ≠ 0) : digs n = (n % 4294967296) :: digs (n / 4294967296) := by rw [digs, if_neg h]
theorem digs_nil_iff {n : Nat} : digs n = [] ↔ n = 0 := by
 constructor
 ·intro h
  rcases Nat.eq_zero_or_pos n with h0 | h0
  ·exact h0
  ·rw [digs_pos (by omega)] at h; cases h
 ·rintro rfl; exact digs_zero
theorem val_digs (n : Nat) : val (digs n) = n := by
 induction n using Nat.strongRecOn with
 | _ n ih =>
  rcases Nat.eq_zero_or_pos n with h0 | h0
  ·subst h0; rw [digs_zero]; rfl
  ·rw [digs_pos (by omega), val, ih _ (by omega)]; omega
theorem dig_digs (n : Nat) : Dig (digs n) := by
 induction n using Nat.strongRecOn with
 | _ n ih =>
  rcases Nat.eq_zero_or_pos n with h0 | h0
  ·subst h0; rw [digs_zero]; intro d hd; cases hd
  ·rw [digs_pos (by omega)]
   intro d hd
   rcases List.mem_cons.1 hd with rfl | hd
   ·omega
   ·exact ih _ (by omega) d hd
theorem Dig.tail {d : Nat} {l : List Nat} (h : Dig (d :: l)) : Dig l := fun x hx => h x (List.mem_cons_of_mem _ hx)
theorem Dig.head {d : Nat} {l : List Nat} (h : Dig (d :: l)) : d < 4294967296 := h d (List.mem_cons_self ..)
theorem Dig.take {l : List Nat} (h : Dig l) (k : Nat) : Dig (l.take k) := fun x hx => h x (List.mem_of_mem_take hx)
theorem Dig.append {l m : List Nat} (h : Dig l) (k : Dig m) : Dig (l ++ m) := fun x hx => (List.mem_append.1 hx).elim (h x) (k x)
theorem Dig.nil : Dig [] := fun _ h => by cases h
theorem Dig.cons {d : Nat} {l : List Nat} (h : d < 4294967296) (k : Dig l) : Dig (d :: l) := fun x hx => (List.mem_cons.1 hx).elim (fun e => e ▸ h) (k x)
theorem Dig.getD {l : List Nat} (h : Dig l) (i : Nat) : l.getD i 0 < 4294967296 := by
 rw [List.getD_eq_getElem?_getD]
 rcases hg : l[i]? with _ | d
 ·simp
 ·simp; exact h d (List.mem_of_getElem? hg)
theorem getD_zero_of_ge {l : List Nat} {i : Nat} (h : l.length ≤ i) : l.getD i 0 = 0 := by
 rw [List.getD_eq_getElem?_getD, List.getElem?_eq_none h]; rfl
theorem rightB_cons {d : Nat} {l : List Nat} (hl : l ≠ []) : rightB (d :: l) = rightB l := by
 cases l with
 | nil => exact absurd rfl hl
 | cons e l => simp [rightB]
theorem rightB_digs (n : Nat) : rightB (digs n) = true := by
 induction n using Nat.strongRecOn with
 | _ n ih =>
  rcases Nat.eq_zero_or_pos n with h0 | h0
  ·subst h0; rw [digs_zero]; rfl
  ·rw [digs_pos (by omega)]
   by_cases hq : n / 4294967296 = 0
   ·rw [hq, digs_zero]
    have : n % 4294967296 ≠ 0 := by omega
    simp [rightB, this]
   ·rw [rightB_cons (fun h => hq (digs_nil_iff.1 h))]
    exact ih _ (by omega)
theorem val_eq_zero {l : List Nat} (h : val l = 0) (hr : rightB l = true) : l = [] := by
 induction l with
 | nil => rfl
 | cons d l ih =>
  simp only [val] at h
  have hl : l = [] := by
   cases l with
   | nil => rfl
   | cons e l =>
    rw [rightB_cons (by simp)] at hr
    exact ih (by omega) hr
  subst hl
  simp [rightB] at hr
  simp [val] at h
  omega
/-- Digits without a nought on top are their number's. -/
theorem digs_val {l : List Nat} (hd : Dig l) (hr : rightB l = true) : digs (val l) = l := by
 induction l with
 | nil => exact digs_zero
 | cons d l ih =>
  have h1 := hd.head
  have hl : rightB l = true := by
   cases l with
   | nil => rfl
   | cons e l => rwa [rightB_cons (by simp)] at hr
  have h0 : val (d :: l) ≠ 0 := fun h => by have := val_eq_zero h hr; cases this
  rw [digs_pos h0]
  simp only [val]
  rw [show (d + 4294967296 * val l) % 4294967296 = d by omega, show (d + 4294967296 * val l) / 4294967296 = val l by omega, ih hd.tail hl]
theorem val_inj {a b : List Nat} (ha : Dig a) (hb : Dig b) (ra : rightB a = true) (rb : rightB b = true) (h : val a = val b) : a = b := by
 rw [← digs_val ha ra, ← digs_val hb rb, h]
theorem digs_inj {m n : Nat} (h : digs m = digs n) : m = n := by rw [← val_digs m, ← val_digs n, h]
theorem val_append (a b : List Nat) : val (a ++ b) = val a + 4294967296 ^ a.length * val b := by
 induction a with
 | nil => simp [val]
 | cons d a ih => simp only [List.cons_append, val, ih, List.length_cons, Nat.pow_succ]; grind
theorem val_snoc (a : List Nat) (d : Nat) : val (a ++ [d]) = val a + 4294967296 ^ a.length * d := by
 rw [val_append]; simp [val]
theorem val_zeros (n : Nat) : val (List.replicate n 0) = 0 := by
 induction n with
 | zero => rfl
 | succ n ih => rw [List.replicate_succ, val, ih]
theorem val_lt {l : List Nat} (hd : Dig l) : val l < 4294967296 ^ l.length := by
 induction l with
 | nil => simp [val]
 | cons d l ih =>
  have h1 := hd.head
  have h2 := ih hd.tail
  simp only [val, List.length_cons, Nat.pow_succ]
  omega
theorem pow_pos' (k : Nat) : 0 < 4294967296 ^ k := Nat.pow_pos (by decide)
theorem val_ge {l : List Nat} (hr : rightB l = true) (hl : l ≠ []) : 4294967296 ^ (l.length - 1) ≤ val l := by
 induction l with
 | nil => exact absurd rfl hl
 | cons d l ih =>
  cases l with
  | nil => simp [rightB] at hr; simp [val]; omega
  | cons e l =>
   rw [rightB_cons (by simp)] at hr
   have := ih hr (by simp)
   simp only [List.length_cons, Nat.add_sub_cancel] at this ⊢
   rw [Nat.pow_succ, val]
   omega
/-- Fewer digits: less. -/
theorem val_lt_of_len {a b : List Nat} (ha : Dig a) (rb : rightB b = true) (h : a.length < b.length) : val a < val b := by
 have h1 := val_lt ha
 have h2 := val_ge rb (by intro e; subst e; simp at h)
 have h3 : 4294967296 ^ a.length ≤ 4294967296 ^ (b.length - 1) := Nat.pow_le_pow_right (by decide) (by omega)
 omega
theorem take_succ_getD {l : List Nat} {k : Nat} (h : k < l.length) : l.take (k + 1) = l.take k ++ [l.getD k 0] := by
 rw [List.take_succ_eq_append_getElem h]
 congr 2
 rw [List.getD_eq_getElem?_getD, List.getElem?_eq_getElem h]; rfl
theorem val_take_succ {l : List Nat} (k : Nat) : val (l.take (k + 1)) = val (l.take k) + 4294967296 ^ k * l.getD k 0 := by
 by_cases h : k < l.length
 ·rw [take_succ_getD h, val_snoc, List.length_take_of_le (by omega)]
 ·rw [List.take_of_length_le (by omega), List.take_of_length_le (by omega), getD_zero_of_ge (by omega)]; simp
theorem val_split (l : List Nat) (k : Nat) : val l = val (l.take k) + 4294967296 ^ k * val (l.drop k) := by
 by_cases h : k ≤ l.length
 ·have := val_append (l.take k) (l.drop k)
  rw [List.take_append_drop, List.length_take_of_le h] at this
  exact this
 ·rw [List.take_of_length_le (by omega), List.drop_eq_nil_of_le (by omega)]; simp [val]
/-- The digit at a place decides where all above are alike. -/
theorem val_lt_of_top {a b : List Nat} (ha : Dig a) (k : Nat) (hd : a.drop (k + 1) = b.drop (k + 1)) (h : a.getD k 0 < b.getD k 0) : val a < val b := by
 rw [val_split a (k + 1), val_split b (k + 1), hd, val_take_succ, val_take_succ]
 have h1 : val (a.take k) < 4294967296 ^ k := by
  have := val_lt (ha.take k)
  have h2 : 4294967296 ^ (a.take k).length ≤ 4294967296 ^ k := Nat.pow_le_pow_right (by decide) (by rw [List.length_take]; omega)
  omega
 have h2 : 4294967296 ^ k * (a.getD k 0 + 1) ≤ 4294967296 ^ k * b.getD k 0 := Nat.mul_le_mul_left _ h
 rw [Nat.mul_add] at h2
 omega
/-- What is cut off on top is noughts. -/
theorem val_take_zeros {l : List Nat} {k : Nat} (h : ∀ i, k ≤ i → l.getD i 0 = 0) : val (l.take k) = val l := by
 rw [val_split l k]
 have : val (l.drop k) = 0 := by
  have h' : ∀ i, (l.drop k).getD i 0 = 0 := fun i => by
   have := h (k + i) (by omega)
   simpa [List.getD_eq_getElem?_getD, List.getElem?_drop] using this
  generalize l.drop k = m at h'
  clear h
  induction m with
  | nil => rfl
  | cons d m ih =>
   have h0 := h' 0
   simp at h0
   subst h0
   rw [val, ih (fun i => by have := h' (i + 1); simpa using this)]
 rw [this]; simp
theorem take_digs {l : List Nat} {k : Nat} (hd : Dig l) (hk : k ≤ l.length) (h : ∀ i, k ≤ i → l.getD i 0 = 0) (hr : k = 0 ∨ l.getD (k - 1) 0 ≠ 0) : l.take k = digs (val l) := by
 rw [← val_take_zeros h]
 refine (digs_val (hd.take k) ?_).symm
 rcases hr with rfl | hr
 ·simp [rightB]
 ·have hl : (l.take k).length = k := List.length_take_of_le hk
  unfold rightB
  rw [hl, List.getD_eq_getElem?_getD, List.getElem?_take]
  have h0 : 0 < k := by
   rcases Nat.eq_zero_or_pos k with h0 | h0
   ·subst h0
    exact absurd (h 0 (by omega)) (by simpa using hr)
   ·exact h0
  rw [if_pos (by omega)]
  rw [List.getD_eq_getElem?_getD] at hr
  simp [hr]
/-- What counts of digits: none, if they are not right. -/
def tk (l : List Nat) : List Nat := if rightB l then l else []
def tv (l : List Nat) : Nat := val (tk l)
theorem tk_dig {l : List Nat} (h : Dig l) : Dig (tk l) := by unfold tk; split; exact h; exact Dig.nil
theorem tk_right (l : List Nat) : rightB (tk l) = true := by unfold tk; split; assumption; rfl
theorem tk_eq {l : List Nat} (h : Dig l) : tk l = digs (tv l) := (digs_val (tk_dig h) (tk_right l)).symm
theorem tk_digs (n : Nat) : tk (digs n) = digs n := by unfold tk; rw [if_pos (rightB_digs n)]
theorem tv_digs (n : Nat) : tv (digs n) = n := by unfold tv; rw [tk_digs, val_digs]
theorem tv_right {l : List Nat} (h : rightB l = true) : tv l = val l := by unfold tv tk; rw [if_pos h]
theorem tk_len (l : List Nat) : (tk l).length ≤ l.length := by unfold tk; split <;> simp
theorem digs_len_le {n k : Nat} (h : n < 4294967296 ^ k) : (digs n).length ≤ k := by
 rcases Nat.eq_zero_or_pos (digs n).length with h0 | h0
 ·omega
 ·have h1 := val_ge (rightB_digs n) (by intro e; rw [e] at h0; simp at h0)
  rw [val_digs] at h1
  have h2 : 4294967296 ^ ((digs n).length - 1) < 4294967296 ^ k := by omega
  have := (Nat.pow_lt_pow_iff_right (by decide : 1 < 4294967296)).1 h2
  omega
theorem lt_of_digs_len (n : Nat) : n < 4294967296 ^ (digs n).length := by
 have := val_lt (dig_digs n)
 rwa [val_digs] at this
theorem digs_mul_len {Y d n : Nat} (h : (digs Y).length = n) (hn : n ≤ 65536) (hd : d < 4294967296) : (digs (Y * d)).length ≤ 1048576 := by
 have h1 := lt_of_digs_len Y
 rw [h] at h1
 have h2 : Y * d < 4294967296 ^ (n + 1) := by
  rw [Nat.pow_succ]
  rcases Nat.eq_zero_or_pos d with h0 | h0
  ·subst h0; simp; exact Nat.pow_pos (by decide)
  ·exact Nat.lt_of_lt_of_le ((Nat.mul_lt_mul_right h0).2 h1) (Nat.mul_le_mul_left _ (by omega))
 have := digs_len_le h2
 omega
/-- Numbers by their digits: fewer digits, or the same number of them and less at the highest place that differs. -/
theorem digs_len_lt {m n : Nat} (h : (digs m).length < (digs n).length) : m < n := by
 have := val_lt_of_len (dig_digs m) (rightB_digs n) h
 rwa [val_digs, val_digs] at this
theorem digs_len_mono {m n : Nat} (h : m ≤ n) : (digs m).length ≤ (digs n).length := by
 rcases Nat.lt_or_ge (digs n).length (digs m).length with h1 | h1
 ·have := digs_len_lt h1; omega
 ·exact h1
end Go.Proofs.YthefgdehfgkhhaaGreat
namespace Go.Proofs.YthefgdehfgkhhaaGreat
set_option linter.unusedVariables false
set_option linter.unusedSimpArgs false
open Go.RowKit
/-- The slice A, n long, holds the digits l, in a block below B. -/
structure Rd (w : World) (B : Nat) (A : Option Addr) (n c : Nat) (l : List Nat) : Prop where
 len : l.length = n
 cap : n ≤ c
 dig : Dig l
 at_ : 0 < n → ∃ b off, A = some ⟨b, off, none⟩ ∧ b < B ∧ ∀ k, k < n → w.cell? ⟨b, off + k, none⟩ = some (.int .u32 (l.getD k 0 : Nat))
section
variable {w w' : World} {B B' : Nat} {A : Option Addr} {n c : Nat} {l : List Nat}
theorem Rd.keep (h : Rd w B A n c l) (hk : ∀ p : Addr, p.block < B → w'.cell? p = w.cell? p) (hB : B ≤ B') : Rd w' B' A n c l :=
 ⟨h.len, h.cap, h.dig, fun hn => by
  obtain ⟨b, off, e, hb, hc⟩ := h.at_ hn
  exact ⟨b, off, e, by omega, fun k hk' => (hk ⟨b, off + k, none⟩ hb).trans (hc k hk')⟩⟩
theorem Rd.below (h : Rd w B A n c l) (hb : Below B w w') : Rd w' B A n c l := h.keep (fun _ hp => hb.cell hp) (Nat.le_refl _)
theorem Rd.on (h : Rd w w.heap.size A n c l) (hb : Below w.heap.size w w') : Rd w' w'.heap.size A n c l := h.keep (fun _ hp => hb.cell hp) hb.size
theorem Rd.more (h : Rd w B A n c l) (hB : B ≤ B') : Rd w B' A n c l := h.keep (fun _ _ => rfl) hB
theorem Rd.drew (h : Rd w B A n c l) : Rd w.drew B A n c l := h.keep (fun _ _ => rfl) (Nat.le_refl _)
theorem Rd.nil (w : World) (B : Nat) : Rd w B none 0 0 [] := ⟨rfl, Nat.le_refl _, Dig.nil, fun h => by omega⟩
theorem Rd.nil_of (h : Rd w B A 0 c l) : l = [] := List.eq_nil_of_length_eq_zero h.len
theorem Rd.empty (h : 0 = n) (w : World) (B : Nat) (A : Option Addr) (c : Nat) : Rd w B A 0 c [] := ⟨rfl, Nat.zero_le _, Dig.nil, fun h => by omega⟩
theorem Rd.take (h : Rd w B A n c l) {k : Nat} (hk : k ≤ n) : Rd w B A k c (l.take k) :=
 ⟨by rw [List.length_take_of_le (by rw [h.len]; exact hk)], Nat.le_trans hk h.cap, h.dig.take k, fun h0 => by
  obtain ⟨b, off, e, hb, hc⟩ := h.at_ (by omega)
  refine ⟨b, off, e, hb, fun j hj => ?_⟩
  rw [hc j (by omega)]
  simp [List.getD_eq_getElem?_getD, List.getElem?_take, hj]⟩
end
/-- A function hands back a number's digits; whatever lay lies. -/
def RetN (w : World) (x : Nat) (e : Ending) (w' : World) : Prop :=
 ∃ A n c, e = .returned (.slice A n c) ∧ Rd w' w'.heap.size A n c (digs x) ∧ Below w.heap.size w w'
/-- Block g is just the cells cs. -/
def Blk (w : World) (g : Nat) (t : TypeId) (cs : Array Value) : Prop := w.heap[g]? = some (.cells cs t (0, 0))
section
variable {w w' : World} {g : Nat} {t : TypeId} {cs : Array Value}
theorem Blk.lt (h : Blk w g t cs) : g < w.heap.size := by
 rcases Nat.lt_or_ge g w.heap.size with hlt | hge
 ·exact hlt
 ·unfold Blk at h; rw [Array.getElem?_eq_none hge] at h; cases h
theorem Blk.cell (h : Blk w g t cs) (i : Nat) : w.cell? ⟨g, i, none⟩ = cs[i]? := cell_of_row w g i cs t (0, 0) h
theorem Blk.frozen (h : Blk w g t cs) (i : Nat) : w.frozen? ⟨g, i, none⟩ = false := by
 unfold Blk at h
 simp [World.frozen?, h]
theorem Blk.new (w : World) (t : TypeId) (cs : Array Value) : Blk (w.alloc (.cells cs t)) w.heap.size t cs := heap_alloc_new w _
theorem Blk.drew (h : Blk w g t cs) : Blk w.drew g t cs := h
theorem Blk.drewN (h : Blk w g t cs) (n : Nat) : Blk (w.drewN n) g t cs := h
theorem Blk.alloc (h : Blk w g t cs) (o : Obj) : Blk (w.alloc o) g t cs := (Below.heap_alloc w o g h.lt).trans h
theorem Blk.set_ (h : Blk w g t cs) (i : Nat) (u : Value) : Blk (w.setCell ⟨g, i, none⟩ u) g t (cs.setIfInBounds i u) := by
 unfold Blk at h ⊢
 simp [World.setCell, Array.getElem?_modify, h]
theorem Blk.far (h : Blk w g t cs) {p : Addr} (hp : g ≠ p.block) (u : Value) : Blk (w.setCell p u) g t cs := (Below.heap_setCell w p u g hp).trans h
theorem Blk.below {B : Nat} (h : Blk w g t cs) (hb : Below B w w') (hg : g < B) : Blk w' g t cs := (hb.block g hg).trans h
end
/-- Digits as cells. -/
def cells (l : List Nat) : Array Value := (l.map fun d : Nat => Value.int .u32 (d : Int)).toArray
theorem cells_size (l : List Nat) : (cells l).size = l.length := by simp [cells]
theorem cells_at (l : List Nat) {k : Nat} (h : k < l.length) : (cells l)[k]? = some (.int .u32 (l.getD k 0 : Nat)) := by
 simp [cells, List.getD_eq_getElem?_getD, List.getElem?_eq_getElem h]
theorem cells_set (l : List Nat) (k d : Nat) : (cells l).setIfInBounds k (.int .u32 (d : Int)) = cells (l.set k d) := by
 simp only [cells, List.setIfInBounds_toArray, List.map_set]
theorem cells_zeros (n : Nat) : madeCells (Value.int .u32 0).cells n = cells (List.replicate n 0) := by
 apply Array.ext
 ·simp [cells, size_madeCells]
 ·intro i h1 h2
  simp only [madeCells, cells, Value.cells, Array.getElem_ofFn, List.getElem_toArray, List.getElem_map, List.getElem_replicate]
  simp [Nat.mod_one]
/-- A block of digits reads as digits. -/
theorem Rd.of_blk {w : World} {g : Nat} {t : TypeId} {l : List Nat} (h : Blk w g t (cells l)) (hd : Dig l) : Rd w w.heap.size (some ⟨g, 0, none⟩) l.length l.length l :=
 ⟨rfl, Nat.le_refl _, hd, fun _ => ⟨g, 0, rfl, h.lt, fun k hk => by rw [Nat.zero_add, h.cell, cells_at l hk]⟩⟩
theorem blt {B : Nat} {a b c : World} (h : Below a.heap.size a b) (k : Below b.heap.size b c) : Below a.heap.size a c := h.trans (k.mono h.size)
theorem bltB {B : Nat} {a b c : World} (h : Below B a b) (hB : B ≤ b.heap.size) (k : Below b.heap.size b c) : Below B a c := h.trans (k.mono hB)
end Go.Proofs.YthefgdehfgkhhaaGreat
namespace Go.Proofs.YthefgdehfgkhhaaGreat
open Go.RowKit
set_option linter.unusedVariables false
set_option linter.unusedSimpArgs false
/-- A number's digits are handed back, at most n of them, in a block below B. -/
def HasD (w : World) (B n x : Nat) (e : Ending) : Prop := ∃ A' n' c', e = .returned (.slice A' n' c') ∧ n' ≤ n ∧ Rd w B A' n' c' (digs x)
theorem right_any (w : World) (B : Nat) (A : Option Addr) (n c : Nat) (l : List Nat) (h : Rd w B A n c l) (hn : n ≤ 1048576) :
 Calls Tryz.prog 105 #[.slice A n c] w fun e w' => e = .returned (.bool (rightB l)) ∧ w = w' := by
 rcases Nat.eq_zero_or_pos n with h0 | h0
 ·subst h0
  have hl := h.nil_of
  subst hl
  clear h
  go_enter Tryz.func105, Tryz.ntmps105
  go_wp2
  go_ret
  exact ⟨rfl, rfl⟩
 ·obtain ⟨b, off, rfl, hb, hc⟩ := h.at_ h0
  obtain ⟨m, rfl⟩ : ∃ m, n = m + 1 := ⟨n - 1, by omega⟩
  have hcell := hc m (by omega)
  have e : rightB l = (l.getD m 0 != 0) := by
   unfold rightB
   rw [h.len]
   have : l.isEmpty = false := by
    cases l with
    | nil => have := h.len; simp at this
    | cons => rfl
   simp [this]
  obtain ⟨d, hd⟩ : ∃ d, l.getD m 0 = d := ⟨_, rfl⟩
  rw [hd] at hcell e
  clear hd hc h
  have hz : (((m + 1 : Nat) : Int) == 0) = false := by simp; omega
  rcases Nat.eq_zero_or_pos d with hd | hd
  ·subst hd
   have HE := Lib.hid e
   clear e
   go_enter Tryz.func105, Tryz.ntmps105
   go_wp2
   go_ret
   exact ⟨by rw [HE.out]; rfl, rfl⟩
  ·have hd1 : ((d : Int) != 0) = true := by simp; omega
   have HE := Lib.hid e
   clear e
   go_enter Tryz.func105, Tryz.ntmps105
   go_wp2
   go_ret
   exact ⟨by rw [HE.out]; simp; omega, rfl⟩
/-- What counts of digits lies where they lie. -/
theorem taken_any (w : World) (B : Nat) (A : Option Addr) (n c : Nat) (l : List Nat) (h : Rd w B A n c l) (hn : n ≤ 1048576) :
 Calls Tryz.prog 75 #[.slice A n c] w fun e w' => HasD w B n (tv l) e ∧ w = w' := by
 rcases hr : rightB l with _ | _
 ·have hf : HasD w B n (tv l) (.returned (.slice none 0 0)) := by
   refine ⟨none, 0, 0, rfl, Nat.zero_le _, ?_⟩
   rw [← tk_eq h.dig]
   unfold tk
   rw [hr]
   exact Rd.nil w B
  have HF := Lib.hid hf
  have HR := Lib.hid hr
  have HH := Lib.hid h
  clear hf hr h
  go_enter Tryz.func75, Tryz.ntmps75
  go_wp2_with fail
  refine (right_any _ B A n c l HH.out hn).mono ?_
  rintro e w' ⟨rfl, rfl⟩
  rw [HR.out]
  go_wp2_with fail
  go_ret
  exact ⟨HF.out, rfl⟩
 ·have hf : HasD w B n (tv l) (.returned (.slice A n c)) := by
   refine ⟨A, n, c, rfl, Nat.le_refl _, ?_⟩
   rw [← tk_eq h.dig]
   unfold tk
   rw [hr]
   exact h
  have HF := Lib.hid hf
  have HR := Lib.hid hr
  have HH := Lib.hid h
  clear hf hr h
  go_enter Tryz.func75, Tryz.ntmps75
  go_wp2_with fail
  refine (right_any _ B A n c l HH.out hn).mono ?_
  rintro e w' ⟨rfl, rfl⟩
  rw [HR.out]
  go_wp2_with fail
  go_ret
  exact ⟨HF.out, rfl⟩
/-- The same slice, cut on top. -/
def HasA (w : World) (B : Nat) (A : Option Addr) (n c x : Nat) (e : Ending) : Prop := ∃ n', e = .returned (.slice A n' c) ∧ n' ≤ n ∧ Rd w B A n' c (digs x)
/-- Noughts on top are cut off. -/
theorem low_at (w : World) (B : Nat) (A : Option Addr) (n c : Nat) (l : List Nat) (h : Rd w B A n c l) (hn : n ≤ 1048576) :
 Calls Tryz.prog 62 #[.slice A n c] w fun e w' => HasA w B A n c (val l) e ∧ w = w' := by
 have hfin : ∀ k : Nat, k ≤ n → (∀ i, k ≤ i → l.getD i 0 = 0) → (k = 0 ∨ l.getD (k - 1) 0 ≠ 0) → Rd w B A k c (digs (val l)) := fun k hk hz hr => by
  rw [← take_digs h.dig (by rw [h.len]; exact hk) hz hr]
  exact h.take hk
 have hcn := h.cap
 have hz0 : ∀ i, n ≤ i → l.getD i 0 = 0 := fun i hi => getD_zero_of_ge (by rw [h.len]; exact hi)
 rcases Nat.eq_zero_or_pos n with h0 | h0
 ·subst h0
  have HF := Lib.hid (hfin 0 (Nat.le_refl _) hz0 (.inl rfl))
  clear hfin hz0 h
  go_enter Tryz.func62, Tryz.ntmps62
  go_wp2
  go_loop [3] (fun t => t = .int .i64 0) (fun _ => 0)
  case atStart => rfl
  case round =>
   subst hrel
   go_wp2
   go_ret
   exact ⟨⟨_, rfl, Nat.le_refl _, HF.out⟩, rfl⟩
 ·obtain ⟨b, off, rfl, hb, hc⟩ := h.at_ h0
  have HF := Lib.hid hfin
  have HC := Lib.hid hc
  have HZ := Lib.hid hz0
  clear hfin hc hz0 h
  go_enter Tryz.func62, Tryz.ntmps62
  go_wp2
  go_loop [3] (fun t => ∃ k : Nat, k ≤ n ∧ t = .int .i64 k ∧ Hid (∀ i, k ≤ i → l.getD i 0 = 0)) (fun t => (intOf t).toNat)
  case atStart => exact ⟨n, Nat.le_refl _, rfl, HZ⟩
  case round =>
   obtain ⟨k, hk, rfl, HK⟩ := hrel
   rcases Nat.eq_zero_or_pos k with hk0 | hk0
   ·subst hk0
    have HG := Lib.hid (HF.out 0 (Nat.zero_le _) HK.out (.inl rfl))
    go_wp2
    go_ret
    exact ⟨⟨_, rfl, Nat.zero_le _, HG.out⟩, rfl⟩
   ·obtain ⟨m, rfl⟩ : ∃ m, k = m + 1 := ⟨k - 1, by omega⟩
    have hcell := HC.out m (by omega)
    obtain ⟨d, hd⟩ : ∃ d, l.getD m 0 = d := ⟨_, rfl⟩
    rw [hd] at hcell
    have hpos : (0 : Int) < ((m + 1 : Nat) : Int) := by omega
    rcases Nat.eq_zero_or_pos d with hd0 | hd0
    ·subst hd0
     have HN : Hid (∀ i, m ≤ i → l.getD i 0 = 0) := Lib.hid (fun i hi => by
      rcases Nat.eq_or_lt_of_le hi with e | e
      ·rw [← e]; exact hd
      ·exact HK.out i e)
     clear hd
     go_wp2
     go_round
     case rel => exact ⟨m, by omega, by go_num, HN⟩
     case measure => first | (simp [intOf]; done) | (simp [intOf]; omega)
    ·have hd1 : ((d : Int) == 0) = false := by simp; omega
     have HG := Lib.hid (HF.out (m + 1) hk HK.out (.inr (by simp only [Nat.add_sub_cancel]; rw [hd]; omega)))
     clear hd
     go_wp2
     go_ret
     exact ⟨⟨_, rfl, hk, HG.out⟩, rfl⟩
theorem low_any (w : World) (B : Nat) (A : Option Addr) (n c : Nat) (l : List Nat) (h : Rd w B A n c l) (hn : n ≤ 1048576) :
 Calls Tryz.prog 62 #[.slice A n c] w fun e w' => HasD w B n (val l) e ∧ w = w' :=
 (low_at w B A n c l h hn).mono fun _ _ ⟨⟨n', he, hn', hr⟩, hw⟩ => ⟨⟨A, n', c, he, hn', hr⟩, hw⟩
end Go.Proofs.YthefgdehfgkhhaaGreat
namespace Go.Proofs.YthefgdehfgkhhaaGreat
open Go.RowKit
set_option linter.unusedVariables false
set_option linter.unusedSimpArgs false
def cmpI (a b : Int) : Int := if a < b then -1 else if b < a then 1 else 0
theorem nan_int (a : Int) (w : World) : Calls Tryz.prog 106 #[.int .i64 a] w fun e w' => e = .returned (.bool false) ∧ w = w' := by
 go_enter Tryz.func106, Tryz.ntmps106
 go_wp2
 go_ret
 exact ⟨rfl, rfl⟩
theorem nan_u32 (a : Int) (w : World) : Calls Tryz.prog 108 #[.int .u32 a] w fun e w' => e = .returned (.bool false) ∧ w = w' := by
 go_enter Tryz.func108, Tryz.ntmps108
 go_wp2
 go_ret
 exact ⟨rfl, rfl⟩
theorem compare_int (a b : Int) (w : World) : Calls Tryz.prog 76 #[.int .i64 a, .int .i64 b] w fun e w' => e = .returned (.int .i64 (cmpI a b)) ∧ w = w' := by
 have HF : Hid (cmpI a b = if a < b then -1 else if b < a then 1 else 0) := Lib.hid rfl
 generalize cmpI a b = r at *
 by_cases h1 : a < b
 ·have HR : Hid (r = -1) := Lib.hid (by rw [HF.out, if_pos h1])
  go_enter Tryz.func76, Tryz.ntmps76
  go_wp2_with (go_at_call 106; refine (nan_int _ _).mono ?_; rintro e w' ⟨rfl, rfl⟩)
  go_ret
  exact ⟨by rw [HR.out]; rfl, rfl⟩
 ·by_cases h2 : b < a
  ·have HR : Hid (r = 1) := Lib.hid (by rw [HF.out, if_neg h1, if_pos h2])
   go_enter Tryz.func76, Tryz.ntmps76
   go_wp2_with (go_at_call 106; refine (nan_int _ _).mono ?_; rintro e w' ⟨rfl, rfl⟩)
   go_ret
   exact ⟨by rw [HR.out]; rfl, rfl⟩
  ·have HR : Hid (r = 0) := Lib.hid (by rw [HF.out, if_neg h1, if_neg h2])
   go_enter Tryz.func76, Tryz.ntmps76
   go_wp2_with (go_at_call 106; refine (nan_int _ _).mono ?_; rintro e w' ⟨rfl, rfl⟩)
   go_ret
   exact ⟨by rw [HR.out]; rfl, rfl⟩
theorem compare_u32 (a b : Int) (w : World) : Calls Tryz.prog 78 #[.int .u32 a, .int .u32 b] w fun e w' => e = .returned (.int .i64 (cmpI a b)) ∧ w = w' := by
 have HF : Hid (cmpI a b = if a < b then -1 else if b < a then 1 else 0) := Lib.hid rfl
 generalize cmpI a b = r at *
 by_cases h1 : a < b
 ·have HR : Hid (r = -1) := Lib.hid (by rw [HF.out, if_pos h1])
  go_enter Tryz.func78, Tryz.ntmps78
  go_wp2_with (go_at_call 108; refine (nan_u32 _ _).mono ?_; rintro e w' ⟨rfl, rfl⟩)
  go_ret
  exact ⟨by rw [HR.out]; rfl, rfl⟩
 ·by_cases h2 : b < a
  ·have HR : Hid (r = 1) := Lib.hid (by rw [HF.out, if_neg h1, if_pos h2])
   go_enter Tryz.func78, Tryz.ntmps78
   go_wp2_with (go_at_call 108; refine (nan_u32 _ _).mono ?_; rintro e w' ⟨rfl, rfl⟩)
   go_ret
   exact ⟨by rw [HR.out]; rfl, rfl⟩
  ·have HR : Hid (r = 0) := Lib.hid (by rw [HF.out, if_neg h1, if_neg h2])
   go_enter Tryz.func78, Tryz.ntmps78
   go_wp2_with (go_at_call 108; refine (nan_u32 _ _).mono ?_; rintro e w' ⟨rfl, rfl⟩)
   go_ret
   exact ⟨by rw [HR.out]; rfl, rfl⟩
theorem ret_ii {k k' : IntKind} {a b a' b' : Int} (h : a = a') (h' : b = b') : Ending.returned (.tuple #[.int k a, .int k' b]) = .returned (.tuple #[.int k a', .int k' b']) := by rw [h, h']
/-- What is left of x less y and k, in one digit; and what is borrowed. -/
def subD (x y k : Nat) : Nat := (x + 4294967296 - y - k) % 4294967296
def subB (x y k : Nat) : Nat := if x < y + k then 1 else 0
theorem subB_le (x y k : Nat) : subB x y k ≤ 1 := by unfold subB; split <;> omega
theorem subD_lt (x y k : Nat) : subD x y k < 4294967296 := Nat.mod_lt _ (by decide)
theorem sub_eq (x y k : Nat) (hx : x < 4294967296) (hy : y < 4294967296) (hk : k ≤ 1) : subD x y k + y + k = x + 4294967296 * subB x y k := by
 unfold subD subB; split <;> omega
/-- The borrow, by the top bits. -/
theorem borrow_bits (x y d : Nat) (hx : x < 4294967296) (hy : y < 4294967296) (hd : d < 4294967296) :
 (((4294967295 ^^^ x) &&& y) ||| ((4294967295 ^^^ (x ^^^ y)) &&& d)) / 2147483648 =
   ((1 ^^^ (x / 2147483648)) &&& (y / 2147483648)) ||| ((1 ^^^ ((x / 2147483648) ^^^ (y / 2147483648))) &&& (d / 2147483648)) := by
 have e : ∀ n : Nat, n / 2147483648 = n >>> 31 := fun n => by rw [Nat.shiftRight_eq_div_pow]
 simp only [e, Nat.shiftRight_or_distrib, Nat.shiftRight_and_distrib, Nat.shiftRight_xor_distrib]
 rfl
theorem borrow_eq (x y k : Nat) (hx : x < 4294967296) (hy : y < 4294967296) (hk : k ≤ 1) :
 bits .or .u32 (bits .and .u32 (bits .xor .u32 IntKind.u32.max (x : Int)) (y : Int)) (bits .and .u32 (bits .xor .u32 IntKind.u32.max (bits .xor .u32 (x : Int) (y : Int))) (((x : Int) - (y : Int) - (k : Int)) % 4294967296)) / 2147483648 = ((subB x y k : Nat) : Int) := by
 have hm : IntKind.u32.max = ((4294967295 : Nat) : Int) := by decide
 have hd : ((x : Int) - (y : Int) - (k : Int)) % 4294967296 = ((subD x y k : Nat) : Int) := by unfold subD; omega
 have hdl := subD_lt x y k
 have h1 : (4294967295 ^^^ x) < 4294967296 := Nat.xor_lt_two_pow (n := 32) (by decide) hx
 have h2 : (x ^^^ y) < 4294967296 := Nat.xor_lt_two_pow (n := 32) hx hy
 have h3 : (4294967295 ^^^ (x ^^^ y)) < 4294967296 := Nat.xor_lt_two_pow (n := 32) (by decide) h2
 have h4 : ((4294967295 ^^^ x) &&& y) < 4294967296 := Nat.and_lt_two_pow (n := 32) _ hy
 have h5 : ((4294967295 ^^^ (x ^^^ y)) &&& subD x y k) < 4294967296 := Nat.and_lt_two_pow (n := 32) _ hdl
 rw [hm, hd, u32_xor_nat _ _ (by decide) hx, u32_xor_nat _ _ hx hy, u32_xor_nat _ _ (by decide) h2, u32_and_nat _ _ h1 hy, u32_and_nat _ _ h3 hdl, u32_or_nat _ _ h4 h5]
 have hb := borrow_bits x y (subD x y k) hx hy hdl
 have hs := sub_eq x y k hx hy hk
 have hB := subB_le x y k
 have goal : (((4294967295 ^^^ x) &&& y) ||| ((4294967295 ^^^ (x ^^^ y)) &&& subD x y k)) / 2147483648 = subB x y k := by
  rw [hb]
  generalize subD x y k = d at *
  generalize subB x y k = q at *
  clear hb hd hm h1 h2 h3 h4 h5
  have ax : x / 2147483648 = 0 ∨ x / 2147483648 = 1 := by omega
  have ay : y / 2147483648 = 0 ∨ y / 2147483648 = 1 := by omega
  have ad : d / 2147483648 = 0 ∨ d / 2147483648 = 1 := by omega
  rcases ax with ax | ax <;> rcases ay with ay | ay <;> rcases ad with ad | ad <;> rw [ax, ay, ad] <;> simp <;> omega
 omega
theorem sub32_any (x y k : Nat) (w : World) (hx : x < 4294967296) (hy : y < 4294967296) (hk : k ≤ 1) :
 Calls Tryz.prog 116 #[.int .u32 x, .int .u32 y, .int .u32 k] w fun e w' => e = .returned (.tuple #[.int .u32 (subD x y k : Nat), .int .u32 (subB x y k : Nat)]) ∧ w = w' := by
 have HB := Lib.hid (borrow_eq x y k hx hy hk)
 have HD : Hid (((x : Int) - (y : Int) - (k : Int)) % 4294967296 = ((subD x y k : Nat) : Int)) := Lib.hid (by unfold subD; omega)
 have hs : IntKind.u32.signed = false := rfl
 go_enter Tryz.func116, Tryz.ntmps116
 go_wp2
 go_ret2
 exact ⟨ret_ii (by have := HD.out; omega) (by have := HB.out; simpa using this), rfl⟩
end Go.Proofs.YthefgdehfgkhhaaGreat
namespace Go.Proofs.YthefgdehfgkhhaaGreat
open Go.RowKit
set_option linter.unusedVariables false
set_option linter.unusedSimpArgs false
theorem infoD : (Tryz.prog.info? 132).map (fun i => (i.zero, i.size, i.bytes)) = some (some (.int .u32 0), 1, 4) := by kernel_rfl
/-- make([]uint32, n). -/
theorem make_u32 (z : Int) (n : Nat) (hz : z = n) (hn : n ≤ 4194304) : ∀ u : World, (Instr.makeSlice 32 (.int .i64 z) (.int .i64 z)).run Tryz.prog u =
 .ok (.slice (some ⟨u.heap.size, 0, none⟩) n n) (u.alloc (.cells (cells (List.replicate n 0)) 132)) := fun u => by
 obtain ⟨i0, hi, hz0, hz1, hz2⟩ := info_parts infoD
 subst hz
 have h := run_make (P := Tryz.prog) u 32 132 i0 (.int .u32 0) Tryz.underlying32 hi hz0 .i64 .i64 (n : Int) (n : Int) (by omega) (Int.le_refl _) (by rw [hz2]; omega) (by omega)
 rw [Int.toNat_natCast, hz1, Nat.mul_one, cells_zeros] at h
 exact h
/-- A row's digits so far, and noughts behind them. -/
theorem cells_step (os : List Nat) (m d : Nat) : (cells (os ++ List.replicate (m + 1) 0)).setIfInBounds os.length (.int .u32 (d : Int)) = cells ((os ++ [d]) ++ List.replicate m 0) := by
 rw [cells_set]
 congr 1
 rw [List.replicate_succ, List.set_append_right _ _ (Nat.le_refl _), Nat.sub_self]
 simp
theorem cells_in (os : List Nat) (m k : Nat) (h : k < os.length + m) : (cells (os ++ List.replicate m 0))[k]? = some (.int .u32 ((os ++ List.replicate m 0).getD k 0 : Nat)) :=
 cells_at _ (by simpa using h)
theorem HasD.ret {w w1 : World} {n x : Nat} {e : Ending} (h : HasD w1 w1.heap.size n x e) (hb : Below w.heap.size w w1) : RetN w x e w1 := by
 obtain ⟨A, n', c, rfl, _, r⟩ := h
 exact ⟨A, n', c, rfl, r, hb⟩
end Go.Proofs.YthefgdehfgkhhaaGreat
namespace Go.Proofs.YthefgdehfgkhhaaGreat
open Go.RowKit
set_option linter.unusedVariables false
set_option linter.unusedSimpArgs false
theorem block_of_add (a : Addr) (n : Nat) : (a.add n).block = a.block := by unfold Addr.add; split <;> rfl
theorem add_of_add (a : Addr) (i j : Nat) : (a.add i).add j = a.add (i + j) := by
 unfold Addr.add
 by_cases hi : i = 0 <;> by_cases hj : j = 0 <;> simp [hi, hj, Nat.add_assoc]
def Reads (w : World) (B size : Nat) (A : Option Addr) (n : Nat) (xs : List Value) : Prop :=
 xs.length = n * size ∧ (0 < n → ∃ ad, A = some ad ∧ ad.block < B ∧ ∀ j u, xs[j]? = some u → w.cell? (ad.add j) = some u)
section
variable {w w' : World} {B B' size n : Nat} {A : Option Addr} {xs : List Value}
theorem Reads.none_ : Reads w B size A 0 [] := ⟨by simp, fun h => absurd h (by omega)⟩
theorem Reads.at_ {k : Nat} (h : Reads w B 1 A n xs) (hk : k < n) : ∃ ad u, A = some ad ∧ ad.block < B ∧ xs[k]? = some u ∧ w.cell? (ad.add k) = some u := by
 obtain ⟨ad, e, hb, hc⟩ := h.2 (by omega)
 have hl : k < xs.length := by have := h.1; omega
 exact ⟨ad, xs[k], e, hb, List.getElem?_eq_getElem hl, hc k _ (List.getElem?_eq_getElem hl)⟩
theorem Reads.keep (h : Reads w B size A n xs) (hk : ∀ p : Addr, p.block < B → w'.cell? p = w.cell? p) : Reads w' B size A n xs :=
 ⟨h.1, fun hn => by
  obtain ⟨ad, e, hb, hc⟩ := h.2 hn
  exact ⟨ad, e, hb, fun j u hu => (hk _ (by rw [block_of_add]; exact hb)).trans (hc j u hu)⟩⟩
theorem Reads.more (h : Reads w B size A n xs) (hB : B ≤ B') : Reads w B' size A n xs :=
 ⟨h.1, fun hn => by
  obtain ⟨ad, e, hb, hc⟩ := h.2 hn
  exact ⟨ad, e, by omega, hc⟩⟩
theorem Reads.below (h : Reads w B size A n xs) (hb : Below B w w') : Reads w' B size A n xs := h.keep fun _ hp => hb.cell hp
theorem Reads.drew (h : Reads w B size A n xs) : Reads w.drew B size A n xs := h
theorem Reads.drewN (h : Reads w B size A n xs) (k : Nat) : Reads (w.drewN k) B size A n xs := h
theorem Reads.alloc (h : Reads w B size A n xs) (hB : B ≤ w.heap.size) (o : Obj) : Reads (w.alloc o) B size A n xs := h.keep fun p hp => World.cell?_alloc_lt w o p (by omega)
theorem Reads.setCell (h : Reads w B size A n xs) {p : Addr} (hB : B ≤ p.block) (u : Value) : Reads (w.setCell p u) B size A n xs :=
 h.keep fun q hq => World.cell?_setCell_other w p q u (fun e => by subst e; omega)
theorem Reads.grown (h : Reads w B size A n xs) {row : Option Nat} (hg : w.grownBy w' row) (hB : B ≤ w.heap.size) (hr : ∀ g, row = some g → B ≤ g) : Reads w' B size A n xs :=
 h.keep fun p hp => World.cell?_of_block (hg.block p.block (by omega) (fun e => by have := hr _ e.symm; omega))
theorem Reads.cut (h : Reads w B size A n xs) {k cap : Nat} (hk : k ≤ n) (hc : n ≤ cap) :
 Reads w B size (if cap = k then A else A.map (·.add (k * size))) (n - k) (xs.drop (k * size)) := by
 refine ⟨by rw [List.length_drop, h.1, Nat.sub_mul], fun hn => ?_⟩
 obtain ⟨ad, rfl, hb, hcell⟩ := h.2 (by omega)
 rw [if_neg (by omega)]
 refine ⟨ad.add (k * size), rfl, by rw [block_of_add]; exact hb, fun j u hu => ?_⟩
 rw [add_of_add]
 exact hcell _ u (by rw [← hu, List.getElem?_drop])
theorem Reads.of_own {base : Nat} {e : TypeId} {c : Nat} (h : w.ownsRow base e size (.slice A n c) n xs) : Reads w w.heap.size size A n xs := by
 refine ⟨h.1, fun hn => ?_⟩
 obtain ⟨g, cap, hv, _, hlt⟩ := h.form hn
 have hA : A = some ⟨g, 0, none⟩ := by injection hv
 subst hA
 exact ⟨_, rfl, hlt, h.cells (g := g) rfl⟩
end
section
variable {P : Program} (w : World)
theorem run_append_of_nil (base : Nat) (t ty e : TypeId) (i : TypeInfo) (size : Nat) (ht : P.underlying t = some (.slice e)) (hi : P.info? e = some i)
 (v : Value) (n : Nat) (xs : List Value) (hown : w.ownsRow base e size v n xs) (c : Nat) : (Builtin.append_ #[t, t] ty #[v, .slice none 0 c]).run P w = .ok v w := by
 rcases hown.2 with ⟨rfl, rfl⟩ | ⟨g, cap, cur, rfl, _, _, hnc, _⟩
 ·simp [Builtin.append_, run_underlying ht, sizeOf, typeInfo, hi, Builtin.lenOf, Builtin.firstCells]
 ·simp [Builtin.append_, run_underlying ht, sizeOf, typeInfo, hi, Builtin.lenOf, Builtin.firstCells, hnc, storeCells]
theorem run_append_any (base : Nat) (t ty e : TypeId) (i : TypeInfo) (z : Value) (size bytes : Nat) (ht : P.underlying t = some (.slice e)) (hi : P.info? e = some i) (hz : i.zero = some z)
 (hsize : i.size = size) (hby : i.bytes = bytes) (hzs : z.cells.size = size) (hsz : 0 < size)
 (v : Value) (n : Nat) (xs : List Value) (hown : w.ownsRow base e size v n xs)
 (B : Nat) (A : Option Addr) (m c : Nat) (news : List Value) (hr : Reads w B size A m news) (h1 : ∀ u ∈ news, u.oneCell' = true)
 (h63 : n + m ≤ maxLen) (hbytes : (n + m) * bytes ≤ 140737488355328) (hbase : base ≤ w.heap.size) :
 ∃ v' w', (Builtin.append_ #[t, t] ty #[v, .slice A m c]).run P w = .ok v' w' ∧ w'.ownsRow base e size v' (n + m) (xs ++ news) ∧ w.grownBy w' v.ownBlock ∧
  (v'.ownBlock = v.ownBlock ∨ v'.ownBlock = some w.heap.size) := by
 rcases A with _ | ad
 ·have hm : m = 0 := by
   rcases Nat.eq_zero_or_pos m with h0 | h0
   ·exact h0
   ·obtain ⟨ad, h, _⟩ := hr.2 h0
    cases h
  subst hm
  have hn : news = [] := List.eq_nil_of_length_eq_zero (by simpa using hr.1)
  subst hn
  exact ⟨v, w, run_append_of_nil w base t ty e i size ht hi v n xs hown c, by simpa using hown, World.grownBy.refl w _, .inl rfl⟩
 ·have hcells : ∀ j u, news[j]? = some u → w.cell? (ad.add j) = some u := by
   intro j u hu
   rcases Nat.eq_zero_or_pos m with h0 | h0
   ·subst h0
    have hn : news = [] := List.eq_nil_of_length_eq_zero (by simpa using hr.1)
    subst hn
    simp at hu
   ·obtain ⟨ad', h, _, hc⟩ := hr.2 h0
    injection h with h
    subst h
    exact hc j u hu
  obtain ⟨v', w', hrun, h2, h3, _, h5⟩ := run_append_own_at (P := P) w base t ty e i z size bytes ht hi hz hsize hby hzs hsz v n xs hown ad m c news hr.1 hcells h1 h63 hbytes hbase
  exact ⟨v', w', hrun, h2, h3, h5⟩
theorem wp_append_any {o : Oper} {a : Act} {K : Act → World → Prop} {Q : Exit → Act → World → Prop} (s x : Operand) (t : TypeId)
 (ho : o.op = .call { callee := .builtin .append, args := #[s, x], argTypes := #[t, t] })
 (base : Nat) (e : TypeId) (i : TypeInfo) (z : Value) (size bytes : Nat) (ht : P.underlying t = some (.slice e)) (hi : P.info? e = some i) (hz : i.zero = some z)
 (hsize : i.size = size) (hby : i.bytes = bytes) (hzs : z.cells.size = size) (hsz : 0 < size)
 (v : Value) (n : Nat) (xs : List Value) (hs : a.eval s = v) (hown : w.ownsRow base e size v n xs)
 (B : Nat) (A : Option Addr) (m c : Nat) (news : List Value) (hx : a.eval x = .slice A m c) (hr : Reads w B size A m news) (h1 : ∀ u ∈ news, u.oneCell' = true)
 (h63 : n + m ≤ maxLen) (hbytes : (n + m) * bytes ≤ 140737488355328) (hbase : base ≤ w.heap.size)
 (h : ∀ v' w', w'.ownsRow base e size v' (n + m) (xs ++ news) → w.grownBy w' v.ownBlock → (v'.ownBlock = v.ownBlock ∨ v'.ownBlock = some w.heap.size) → K (a.put o.dst v') w') : o.wp P a w K Q := by
 obtain ⟨v', w', hrun, h2, h3, h4⟩ := run_append_any (P := P) w base t o.type e i z size bytes ht hi hz hsize hby hzs hsz v n xs hown B A m c news hr h1 h63 hbytes hbase
 unfold Oper.wp execOp
 simp only [ho, resolve, invoke, builtin, Sem.run_bind, Sem.run_pure, Result.andThen_ok, List.map_toArray, List.map_cons, List.map_nil, hs, hx, hrun]
 exact h v' w' h2 h3 h4
theorem wpList_append_any {ops : Array Oper} {rest : List Oper} {o : Oper} {a : Act} {Q : Exit → Act → World → Prop} (hgd : o.guard = none) (s x : Operand) (t : TypeId)
 (ho : o.op = .call { callee := .builtin .append, args := #[s, x], argTypes := #[t, t] })
 (base : Nat) (e : TypeId) (i : TypeInfo) (z : Value) (size bytes : Nat) (ht : P.underlying t = some (.slice e)) (hi : P.info? e = some i) (hz : i.zero = some z)
 (hsize : i.size = size) (hby : i.bytes = bytes) (hzs : z.cells.size = size) (hsz : 0 < size)
 (v : Value) (n : Nat) (xs : List Value) (hs : a.eval s = v) (hown : w.ownsRow base e size v n xs)
 (B : Nat) (A : Option Addr) (m c : Nat) (news : List Value) (hx : a.eval x = .slice A m c) (hr : Reads w B size A m news) (h1 : ∀ u ∈ news, u.oneCell' = true)
 (h63 : n + m ≤ maxLen) (hbytes : (n + m) * bytes ≤ 140737488355328) (hbase : base ≤ w.heap.size)
 (h : ∀ v' w', w'.ownsRow base e size v' (n + m) (xs ++ news) → w.grownBy w' v.ownBlock → (v'.ownBlock = v.ownBlock ∨ v'.ownBlock = some w.heap.size) → wpList P ops Q rest (a.put o.dst v') w') : wpList P ops Q (o :: rest) a w :=
 wpList_plain hgd fun _ hK => wp_append_any w s x t ho base e i z size bytes ht hi hz hsize hby hzs hsz v n xs hs hown B A m c news hx hr h1 h63 hbytes hbase fun v' w' h2 h3 h4 => hK _ _ (h v' w' h2 h3 h4)
theorem step_append_any {ops : Array Oper} {o : Oper} {a : Act} {K : Act → World → Prop} {Q : Exit → Act → World → Prop} {E : Prop} (hgd : o.guard = none) (s x : Operand) (t : TypeId)
 (ho : o.op = .call { callee := .builtin .append, args := #[s, x], argTypes := #[t, t] })
 (base : Nat) (e : TypeId) (i : TypeInfo) (z : Value) (size bytes : Nat) (ht : P.underlying t = some (.slice e)) (hi : P.info? e = some i) (hz : i.zero = some z)
 (hsize : i.size = size) (hby : i.bytes = bytes) (hzs : z.cells.size = size) (hsz : 0 < size)
 (v : Value) (n : Nat) (xs : List Value) (hs : a.eval s = v) (hown : w.ownsRow base e size v n xs)
 (B : Nat) (A : Option Addr) (m c : Nat) (news : List Value) (hx : a.eval x = .slice A m c) (hr : Reads w B size A m news) (h1 : ∀ u ∈ news, u.oneCell' = true)
 (h63 : n + m ≤ maxLen) (hbytes : (n + m) * bytes ≤ 140737488355328) (hbase : base ≤ w.heap.size)
 (h : ∀ v' w', w'.ownsRow base e size v' (n + m) (xs ++ news) → w.grownBy w' v.ownBlock → (v'.ownBlock = v.ownBlock ∨ v'.ownBlock = some w.heap.size) → K (a.put o.dst v') w') :
 if Region.wanted o (yielded ops a.tmps) = true then Oper.wp P o a w K Q else E := by
 have hw : Region.wanted o (yielded ops a.tmps) = true := by simp [Region.wanted, hgd]
 rw [if_pos hw]
 exact wp_append_any w s x t ho base e i z size bytes ht hi hz hsize hby hzs hsz v n xs hs hown B A m c news hx hr h1 h63 hbytes hbase h
end
theorem addr_add (b off j : Nat) : (⟨b, off, none⟩ : Addr).add j = ⟨b, off + j, none⟩ := by
 unfold Addr.add; split <;> simp_all
/-- Digits as values. -/
def dvs (l : List Nat) : List Value := l.map fun d : Nat => Value.int .u32 (d : Int)
theorem dvs_one (l : List Nat) : ∀ u ∈ dvs l, u.oneCell' = true := by
 intro v hv
 obtain ⟨d, _, rfl⟩ := List.mem_map.1 hv
 rfl
theorem Rd.reads {w : World} {B : Nat} {A : Option Addr} {n c : Nat} {l : List Nat} (h : Rd w B A n c l) : Reads w B 1 A n (dvs l) := by
 refine ⟨by rw [dvs, List.length_map, h.len, Nat.mul_one], fun h0 => ?_⟩
 obtain ⟨b, off, rfl, hb, hc⟩ := h.at_ h0
 refine ⟨_, rfl, hb, fun j v hv => ?_⟩
 have hj : j < n := by
  have := (List.getElem?_eq_some_iff.1 hv).1
  rw [dvs, List.length_map, h.len] at this
  exact this
 rw [addr_add, hc j hj]
 rw [dvs, List.getElem?_map] at hv
 have : l[j]? = some (l.getD j 0) := by rw [List.getD_eq_getElem?_getD, List.getElem?_eq_getElem (by rw [h.len]; exact hj)]; rfl
 rw [this] at hv
 exact hv
/-- What owns just the digits reads as them. -/
theorem rd_of_own {w : World} {base n : Nat} {v : Value} {l : List Nat} (hd : Dig l) (hl : l.length = n) (h : w.ownsRow base 132 1 v n (dvs l)) : ∃ A c, v = .slice A n c ∧ Rd w w.heap.size A n c l := by
 rcases h.2 with ⟨rfl, rfl⟩ | ⟨g, cap, cur, rfl, hg, hh, hnc, _⟩
 ·have : l = [] := List.eq_nil_of_length_eq_zero hl
  subst this
  exact ⟨none, 0, rfl, Rd.nil w _⟩
 ·refine ⟨some ⟨g, 0, none⟩, cap, rfl, hl, hnc, hd, fun h0 => ⟨g, 0, rfl, ?_, fun k hk => ?_⟩⟩
  ·exact (Array.getElem?_eq_some_iff.1 hh).1
  ·have := h.cells (g := g) rfl k (.int .u32 (l.getD k 0 : Nat)) (by
    rw [dvs, List.getElem?_map]
    have : l[k]? = some (l.getD k 0) := by rw [List.getD_eq_getElem?_getD, List.getElem?_eq_getElem (by omega)]; rfl
    rw [this]; rfl)
   rw [addr_add] at this
   exact this
/-- The same digits, in memory that reads so behind the call. -/
def RetL (w : World) (l : List Nat) (e : Ending) (w' : World) : Prop :=
 ∃ A n c, e = .returned (.slice A n c) ∧ Rd w' w'.heap.size A n c l ∧ Below w.heap.size w w'
theorem bla {B : Nat} {a w : World} (h : Below B a w) (hB : B ≤ w.heap.size) (o : Obj) : Below B a (w.alloc o) := h.alloc hB o
theorem clone_any (w : World) (A : Option Addr) (n c : Nat) (l : List Nat) (h : Rd w w.heap.size A n c l) (hn : n ≤ 1048576) :
 Calls Tryz.prog 90 #[.slice A n c] w (RetL w l) := by
 rcases A with _ | ad
 ·have h0 : n = 0 := by
   rcases Nat.eq_zero_or_pos n with h0 | h0
   ·exact h0
   ·obtain ⟨b, off, e, _⟩ := h.at_ h0; cases e
  subst h0
  have hl := h.nil_of
  subst hl
  have hf : RetL w [] (.returned (.slice none 0 0)) w := ⟨none, 0, 0, rfl, Rd.nil w _, Below.refl _ _⟩
  have HF := Lib.hid hf
  clear h hf
  have heq := fun (w : World) => Go.Lib.run_eql_slice_nil (P := Tryz.prog) w 32 132 none 0 c 0 0 Tryz.underlying32
  go_enter Tryz.func90, Tryz.ntmps90
  go_wp2_with fail
  go_ret
  exact HF.out
 ·obtain ⟨i0, hi, hz0, hz1, hz2⟩ := info_parts infoD
  have heq := fun (w : World) => Go.Lib.run_eql_slice_nil (P := Tryz.prog) w 32 132 (some ad) n c 0 0 Tryz.underlying32
  have hrd := h.reads
  have HR := Lib.hid hrd
  have HH := Lib.hid (And.intro h.dig h.len)
  have HI := Lib.hid (And.intro hi (And.intro hz0 (And.intro hz1 hz2)))
  clear h hrd hi hz0 hz1 hz2
  go_enter Tryz.func90, Tryz.ntmps90
  go_wp2_with (at_builtin
               refine wpList_append_any _ rfl (.tmp 5) (.tmp 6) 32 rfl w.heap.size 132 i0 (.int .u32 0) 1 4 Tryz.underlying32 HI.out.1 HI.out.2.1 HI.out.2.2.1 HI.out.2.2.2 rfl (by decide) (.slice (some ⟨w.heap.size, 0, none⟩) 0 0) 0 [] rfl
                (World.ownsRow_made w #[] 0 (Nat.le_refl _) (by decide) rfl) w.heap.size (some ad) n c (dvs l) rfl (HR.out.alloc (Nat.le_refl _) _) (dvs_one l) (by simp only [maxLen]; omega) (by omega) (by simp) ?_
               intro v1 w1 own1 gr1 at1)
  have hb : Below w.heap.size w w1 := ((Below.refl _ _).alloc (Nat.le_refl _) _).grown gr1 (by simp) (fun k hk => by simp [Value.ownBlock] at hk; omega)
  rw [Nat.zero_add, List.nil_append] at own1
  obtain ⟨A1, c1, rfl, r1⟩ := rd_of_own HH.out.1 HH.out.2 own1
  have hf : RetL w l (.returned (.slice A1 n c1)) w1 := ⟨A1, n, c1, rfl, r1, hb⟩
  have HF := Lib.hid hf
  clear hf r1 own1 gr1 at1 hb
  go_wp2_with fail
  go_ret
  exact HF.out
end Go.Proofs.YthefgdehfgkhhaaGreat
namespace Go.Proofs.YthefgdehfgkhhaaGreat
open Go.RowKit Go.Shelf
set_option linter.unusedVariables false
set_option linter.unusedSimpArgs false
attribute [local go_sem] Oper.semAt_some
/-- A place among the digits, and the digit there. -/
abbrev Ix (l : List Nat) : Type := { p : Nat × Nat // p.1 < l.length ∧ p.2 = l.getD p.1 0 }
/-- What has come after j rounds, from the top on. -/
def bkf (l : List Nat) : Nat → List (Ix l)
 | 0 => []
 | j + 1 => if h : j < l.length then bkf l j ++ [⟨(l.length - 1 - j, l.getD (l.length - 1 - j) 0), by simp only; omega, rfl⟩] else bkf l j
theorem bkf_succ {l : List Nat} {j : Nat} (h : j < l.length) : bkf l (j + 1) = bkf l j ++ [⟨(l.length - 1 - j, l.getD (l.length - 1 - j) 0), by simp only; omega, rfl⟩] := by
 rw [bkf, dif_pos h]
theorem bkf_length {l : List Nat} : ∀ {j : Nat}, j ≤ l.length → (bkf l j).length = j
 | 0, _ => rfl
 | j + 1, h => by rw [bkf_succ (by omega), List.length_append, bkf_length (by omega)]; rfl
/-- How a round's two values are handed over. -/
def encB {l : List Nat} (x : Ix l) : Array Value := #[.int .i64 (x.1.1 : Int), .int .u32 (x.1.2 : Int)]
theorem back_any (w : World) (A : Option Addr) (n c : Nat) :
 Calls Tryz.prog 77 #[.slice A n c] w fun e w' => e = .returned (.func (.func 107) #[] #[.pointer (some ⟨w.heap.size, 0, none⟩)]) ∧ w.alloc (.cells #[.slice A n c] 32) = w' := by
 go_enter Tryz.func77, Tryz.ntmps77
 go_wp2
 go_ret
 exact ⟨rfl, rfl⟩
/-- What a round that goes on keeps: whatever lay below n₀, and the iterator's own box. -/
def KpB (n₀ Bs : Nat) (W W' : World) : Prop := Below n₀ W W' ∧ W'.cell? ⟨Bs, 0, none⟩ = W.cell? ⟨Bs, 0, none⟩
theorem KpB.refl (n₀ Bs : Nat) (W : World) : KpB n₀ Bs W W := ⟨Below.refl _ _, rfl⟩
theorem KpB.trans {n₀ Bs : Nat} {A B C : World} (h : KpB n₀ Bs A B) (k : KpB n₀ Bs B C) : KpB n₀ Bs A C := ⟨h.1.trans k.1, k.2.trans h.2⟩
theorem KpB.putObj {n₀ Bs : Nat} {w : World} (h0 : n₀ ≤ w.heap.size) (h1 : Bs < w.heap.size) : ∀ (W : World) (l : Nat) (o o' : Obj), w.heap.size ≤ l → W.heap[l]? = some o → o.isCells = false → o.isWalk = false → KpB n₀ Bs W (W.putObj l o') :=
 fun W l o o' hl ho hc hw => ⟨belowK_b (w := w) h0 W l o o' hl ho hc hw, World.cell?_of_block (w := W) (World.putObj_heap_other (by simp only; omega))⟩
set_option maxRecDepth 100000 in
set_option maxHeartbeats 2000000 in
theorem back1_in (n : Nat) (hn : 1 ≤ n) (l Bs n₀ : Nat) (A : Option Addr) (len cap : Nat) (zs : List Nat) (hlen : len ≤ 1048576) (J Jx : List (Ix zs) → World → Prop)
 (hY : ∀ pre x W, J pre W → pre.length < len → YieldAt Fence.wide (n - 1) Tryz.prog l (encB x) W fun e W' =>
  (e = .returned (.bool true) ∧ J (pre ++ [x]) W' ∧ KpB n₀ Bs W W') ∨ (e = .returned (.bool false) ∧ Jx (pre ++ [x]) W'))
 (W : World) (hBs : W.cell? ⟨Bs, 0, none⟩ = some (.slice A len cap)) (hc : Rd W n₀ A len cap zs) (h0 : J [] W) :
 CallsIn Fence.wide n Tryz.prog 107 #[.func (.yield l) #[] #[], .pointer (some ⟨Bs, 0, none⟩)] W fun e W' => (∃ v, e = .returned v) ∧
  ((∃ ys, ys = bkf zs len ∧ J ys W') ∨ (∃ pre, (∃ k, k ≤ len ∧ pre = bkf zs k) ∧ Jx pre W')) := by
 have hzl := hc.len
 have HC := Lib.hid hc
 have HBS := Lib.hid hBs
 have HZ := Lib.hid hzl
 clear hc hzl
 refine callsIn_of_wp Tryz.func107 rfl trivial ?_ rfl
 simp only [Tryz.ntmps107, List.size_toArray, List.length_cons, List.length_nil, Nat.reduceAdd, Nat.reduceSub, Array.replicate_succ, Array.replicate_zero, List.push_toArray, List.append_toArray, List.nil_append, List.cons_append]
 gi_wp2
 clear hBs
 gi_loopw [3] (fun i wr => ∃ k : Nat, k ≤ len ∧ i = .int .i64 ((k : Int) - 1) ∧ J (bkf zs (len - k)) wr ∧ KpB n₀ Bs W wr)
  (fun i _ => (intOf i + 1).toNat)
 case atStart => exact ⟨len, Nat.le_refl _, rfl, by rw [Nat.sub_self]; exact h0, KpB.refl _ _ _⟩
 case round =>
  obtain ⟨k, hk, rfl, hJs, hnx⟩ := hrel
  have hbs := hnx.2.trans HBS.out
  rcases Nat.eq_zero_or_pos k with h0 | h0
  ·subst h0
   have HF := Lib.hid hJs
   clear hJs
   gi_wp2
   go_end0
   exact ⟨⟨_, rfl⟩, .inl ⟨_, rfl, HF.out⟩⟩
  ·obtain ⟨m, rfl⟩ : ∃ m, k = m + 1 := ⟨k - 1, by omega⟩
   rw [show (((m + 1 : Nat) : Int) - 1) = (m : Int) by omega]
   have hrd := HC.out.below hnx.1
   obtain ⟨b, off, rfl, hb, hcell⟩ := hrd.at_ (by omega)
   have hcx := hcell m (by omega)
   have hj : len - (m + 1) < zs.length := by rw [HZ.out]; omega
   have hex : zs.length - 1 - (len - (m + 1)) = m := by rw [HZ.out]; omega
   obtain ⟨x, hx1, hx2, hxs⟩ : ∃ x : Ix zs, x.1.1 = m ∧ x.1.2 = zs.getD m 0 ∧ bkf zs (len - m) = bkf zs (len - (m + 1)) ++ [x] := by
    refine ⟨⟨(zs.length - 1 - (len - (m + 1)), zs.getD (zs.length - 1 - (len - (m + 1))) 0), by simp only; omega, rfl⟩, hex, by simp only [hex], ?_⟩
    rw [show len - m = (len - (m + 1)) + 1 by omega, bkf_succ hj]
   obtain ⟨fn, tmps, assign, body, hy, hR⟩ := hY _ x wr hJs (by rw [bkf_length (by rw [HZ.out]; omega)]; omega)
   simp only [encB, hx1, hx2] at hy
   generalize zs.getD m 0 = d at hy hcx
   have HR := Lib.hid hR
   have HX := Lib.hid hxs
   have hwt : W.heap.size ≤ wr.heap.size := hnx.1.size
   have HN := Lib.hid hnx
   clear hrd hcell hx1 hx2 hxs hJs hR hnx hj hex
   gi_wp2
   refine HR.out.mono ?_
   rintro e W3 (⟨rfl, hJ3, hk3⟩ | ⟨rfl, hJx3⟩)
   ·have HJ := Lib.hid hJ3
    have HK := Lib.hid (HN.out.trans hk3)
    clear hJ3 hk3
    gi_wp2
    go_roundw
    case rel => exact ⟨m, by omega, rfl, by rw [HX.out]; exact HJ.out, HK.out⟩
    case measure => simp [intOf]
   ·have HJ := Lib.hid hJx3
    clear hJx3
    gi_wp2
    refine bodyPost_ret (results_none rfl _ _ _) rfl ?_
    exact ⟨⟨_, rfl⟩, .inr ⟨_, ⟨len - m, by omega, by rw [HX.out]⟩, HJ.out⟩⟩
/-- slices.Backward hands over each place and its digit, from the top on. -/
theorem back_stops (n : Nat) (hn : 1 ≤ n) (Bs n₀ : Nat) (A : Option Addr) (len cap : Nat) (zs : List Nat) (hlen : len ≤ 1048576) (w : World) (hBs : Bs < w.heap.size) (hn₀ : n₀ ≤ w.heap.size)
 (hc : w.cell? ⟨Bs, 0, none⟩ = some (.slice A len cap)) (hI : Rd w n₀ A len cap zs) :
 SeqStopsK Fence.wide n Tryz.prog 107 #[.pointer (some ⟨Bs, 0, none⟩)] (fun x : Ix zs => encB x) (KpB n₀ Bs) (fun ys => ys = bkf zs len)
  (fun pre => ∃ k, k ≤ len ∧ pre = bkf zs k) len w := fun l J Jx W hW _ _ hY h0 =>
 back1_in n hn l Bs n₀ A len cap zs hlen J Jx hY W ((hW.cell (p := ⟨Bs, 0, none⟩) hBs).trans hc) (hI.below (hW.mono hn₀)) h0
end Go.Proofs.YthefgdehfgkhhaaGreat
