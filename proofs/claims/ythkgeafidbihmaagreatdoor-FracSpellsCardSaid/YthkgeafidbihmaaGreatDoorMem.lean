/-
  Digits in memory: a slice that reads as digits; a block of digits that is known whole.
  (Blk: after the guide's page of lemmas to copy.)
-/
import Derived.Test.YthkgeafidbihmaaGreatDoorPlain
import Derived.WalkKit
import Derived.Deep.Draws
import Derived.Laws.OwnMore
import Derived.Laws.MakeOwn
import Derived.Laws.Rows
import Derived.Lib.Hide
namespace Go.Proofs.YthkgeafidbihmaaGreatDoor
set_option linter.unusedVariables false
set_option linter.unusedSimpArgs false
open Go.RowKit

/-- The slice A, n long, holds the digits l, in a block below B. -/
structure Rd (w : World) (B : Nat) (A : Option Addr) (n c : Nat) (l : List Nat) : Prop where
  len : l.length = n
  cap : n ≤ c
  dig : Dig l
  at_ : 0 < n → ∃ b off, A = some ⟨b, off, none⟩ ∧ b < B ∧ ∀ k, k < n → w.cell? ⟨b, off + k, none⟩ = some (.int .u32 (l.getD k 0 : Nat))

section
variable {w w' : World} {B B' : Nat} {A : Option Addr} {n c : Nat} {l : List Nat}
theorem Rd.keep (h : Rd w B A n c l) (hk : ∀ p : Addr, p.block < B → w'.cell? p = w.cell? p) (hB : B ≤ B') : Rd w' B' A n c l :=
  ⟨h.len, h.cap, h.dig, fun hn => by
    obtain ⟨b, off, e, hb, hc⟩ := h.at_ hn
    exact ⟨b, off, e, by omega, fun k hk' => (hk ⟨b, off + k, none⟩ hb).trans (hc k hk')⟩⟩
theorem Rd.below (h : Rd w B A n c l) (hb : Below B w w') : Rd w' B A n c l := h.keep (fun _ hp => hb.cell hp) (Nat.le_refl _)
theorem Rd.on (h : Rd w w.heap.size A n c l) (hb : Below w.heap.size w w') : Rd w' w'.heap.size A n c l := h.keep (fun _ hp => hb.cell hp) hb.size
theorem Rd.more (h : Rd w B A n c l) (hB : B ≤ B') : Rd w B' A n c l := h.keep (fun _ _ => rfl) hB
theorem Rd.drew (h : Rd w B A n c l) : Rd w.drew B A n c l := h.keep (fun _ _ => rfl) (Nat.le_refl _)
theorem Rd.nil (w : World) (B : Nat) : Rd w B none 0 0 [] := ⟨rfl, Nat.le_refl _, Dig.nil, fun h => by omega⟩
theorem Rd.nil_of (h : Rd w B A 0 c l) : l = [] := List.eq_nil_of_length_eq_zero h.len
theorem Rd.empty (h : 0 = n) (w : World) (B : Nat) (A : Option Addr) (c : Nat) : Rd w B A 0 c [] := ⟨rfl, Nat.zero_le _, Dig.nil, fun h => by omega⟩
theorem Rd.take (h : Rd w B A n c l) {k : Nat} (hk : k ≤ n) : Rd w B A k c (l.take k) :=
  ⟨by rw [List.length_take_of_le (by rw [h.len]; exact hk)], Nat.le_trans hk h.cap, h.dig.take k, fun h0 => by
    obtain ⟨b, off, e, hb, hc⟩ := h.at_ (by omega)
    refine ⟨b, off, e, hb, fun j hj => ?_⟩
    rw [hc j (by omega)]
    simp [List.getD_eq_getElem?_getD, List.getElem?_take, hj]⟩
end

/-- A function hands back a number's digits; whatever lay lies. -/
def RetN (w : World) (x : Nat) (e : Ending) (w' : World) : Prop :=
  ∃ A n c, e = .returned (.slice A n c) ∧ Rd w' w'.heap.size A n c (digs x) ∧ Below w.heap.size w w'

/-- Block g is just the cells cs. -/
def Blk (w : World) (g : Nat) (t : TypeId) (cs : Array Value) : Prop := w.heap[g]? = some (.cells cs t (0, 0))

section
variable {w w' : World} {g : Nat} {t : TypeId} {cs : Array Value}
theorem Blk.lt (h : Blk w g t cs) : g < w.heap.size := by
  rcases Nat.lt_or_ge g w.heap.size with hlt | hge
  · exact hlt
  · unfold Blk at h; rw [Array.getElem?_eq_none hge] at h; cases h
theorem Blk.cell (h : Blk w g t cs) (i : Nat) : w.cell? ⟨g, i, none⟩ = cs[i]? := cell_of_row w g i cs t (0, 0) h
theorem Blk.frozen (h : Blk w g t cs) (i : Nat) : w.frozen? ⟨g, i, none⟩ = false := by
  unfold Blk at h
  simp [World.frozen?, h]
theorem Blk.new (w : World) (t : TypeId) (cs : Array Value) : Blk (w.alloc (.cells cs t)) w.heap.size t cs := heap_alloc_new w _
theorem Blk.drew (h : Blk w g t cs) : Blk w.drew g t cs := h
theorem Blk.drewN (h : Blk w g t cs) (n : Nat) : Blk (w.drewN n) g t cs := h
theorem Blk.alloc (h : Blk w g t cs) (o : Obj) : Blk (w.alloc o) g t cs := (Below.heap_alloc w o g h.lt).trans h
theorem Blk.set_ (h : Blk w g t cs) (i : Nat) (u : Value) : Blk (w.setCell ⟨g, i, none⟩ u) g t (cs.setIfInBounds i u) := by
  unfold Blk at h ⊢
  simp [World.setCell, Array.getElem?_modify, h]
theorem Blk.far (h : Blk w g t cs) {p : Addr} (hp : g ≠ p.block) (u : Value) : Blk (w.setCell p u) g t cs := (Below.heap_setCell w p u g hp).trans h
theorem Blk.below {B : Nat} (h : Blk w g t cs) (hb : Below B w w') (hg : g < B) : Blk w' g t cs := (hb.block g hg).trans h
end

/-- Digits as cells. -/
def cells (l : List Nat) : Array Value := (l.map fun d : Nat => Value.int .u32 (d : Int)).toArray

theorem cells_size (l : List Nat) : (cells l).size = l.length := by simp [cells]
theorem cells_at (l : List Nat) {k : Nat} (h : k < l.length) : (cells l)[k]? = some (.int .u32 (l.getD k 0 : Nat)) := by
  simp [cells, List.getD_eq_getElem?_getD, List.getElem?_eq_getElem h]
theorem cells_set (l : List Nat) (k d : Nat) : (cells l).setIfInBounds k (.int .u32 (d : Int)) = cells (l.set k d) := by
  simp only [cells, List.setIfInBounds_toArray, List.map_set]
theorem cells_zeros (n : Nat) : madeCells (Value.int .u32 0).cells n = cells (List.replicate n 0) := by
  apply Array.ext
  · simp [cells, size_madeCells]
  · intro i h1 h2
    simp only [madeCells, cells, Value.cells, Array.getElem_ofFn, List.getElem_toArray, List.getElem_map, List.getElem_replicate]
    simp [Nat.mod_one]

/-- A block of digits reads as digits. -/
theorem Rd.of_blk {w : World} {g : Nat} {t : TypeId} {l : List Nat} (h : Blk w g t (cells l)) (hd : Dig l) : Rd w w.heap.size (some ⟨g, 0, none⟩) l.length l.length l :=
  ⟨rfl, Nat.le_refl _, hd, fun _ => ⟨g, 0, rfl, h.lt, fun k hk => by rw [Nat.zero_add, h.cell, cells_at l hk]⟩⟩

theorem blt {B : Nat} {a b c : World} (h : Below a.heap.size a b) (k : Below b.heap.size b c) : Below a.heap.size a c := h.trans (k.mono h.size)
theorem bltB {B : Nat} {a b c : World} (h : Below B a b) (hB : B ≤ b.heap.size) (k : Below b.heap.size b c) : Below B a c := h.trans (k.mono hB)

end Go.Proofs.YthkgeafidbihmaaGreatDoor
