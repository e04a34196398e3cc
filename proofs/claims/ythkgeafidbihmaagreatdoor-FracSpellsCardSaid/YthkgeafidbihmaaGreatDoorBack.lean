/-
  slices.Backward over digits: its iterator's contract (after the guide's page on a range over a function).
-/
import Derived.Test.YthkgeafidbihmaaGreatDoorApp
import Derived.RangeFuncNested
import Derived.RangeFuncBound
import Derived.RangeFuncCalls
import Derived.RangeFuncLeaves
import Derived.RangeFuncBox
import Derived.Shelf.Abstract
import Derived.Shelf.RegionOpen
import Derived.OwnWalkIn
import Derived.TacticsInMore
import Derived.LoopNIn
import Derived.LoopIn
namespace Go.Proofs.YthkgeafidbihmaaGreatDoor
open Go.RowKit Go.Shelf
set_option linter.unusedVariables false
set_option linter.unusedSimpArgs false
attribute [local go_sem] Oper.semAt_some

/-- A place among the digits, and the digit there. -/
abbrev Ix (l : List Nat) : Type := { p : Nat × Nat // p.1 < l.length ∧ p.2 = l.getD p.1 0 }

/-- What has come after j rounds, from the top on. -/
def bkf (l : List Nat) : Nat → List (Ix l)
  | 0 => []
  | j + 1 => if h : j < l.length then bkf l j ++ [⟨(l.length - 1 - j, l.getD (l.length - 1 - j) 0), by simp only; omega, rfl⟩] else bkf l j

theorem bkf_succ {l : List Nat} {j : Nat} (h : j < l.length) : bkf l (j + 1) = bkf l j ++ [⟨(l.length - 1 - j, l.getD (l.length - 1 - j) 0), by simp only; omega, rfl⟩] := by
  rw [bkf, dif_pos h]
theorem bkf_length {l : List Nat} : ∀ {j : Nat}, j ≤ l.length → (bkf l j).length = j
  | 0, _ => rfl
  | j + 1, h => by rw [bkf_succ (by omega), List.length_append, bkf_length (by omega)]; rfl

/-- How a round's two values are handed over. -/
def encB {l : List Nat} (x : Ix l) : Array Value := #[.int .i64 (x.1.1 : Int), .int .u32 (x.1.2 : Int)]

theorem back_any (w : World) (A : Option Addr) (n c : Nat) :
    Calls Tryz.prog 51 #[.slice A n c] w fun e w' => e = .returned (.func (.func 70) #[] #[.pointer (some ⟨w.heap.size, 0, none⟩)]) ∧ w.alloc (.cells #[.slice A n c] 22) = w' := by
  go_enter Tryz.func51, Tryz.ntmps51
  go_wp2
  go_ret
  exact ⟨rfl, rfl⟩

/-- What a round that goes on keeps: whatever lay below n₀, and the iterator's own box. -/
def KpB (n₀ Bs : Nat) (W W' : World) : Prop := Below n₀ W W' ∧ W'.cell? ⟨Bs, 0, none⟩ = W.cell? ⟨Bs, 0, none⟩

theorem KpB.refl (n₀ Bs : Nat) (W : World) : KpB n₀ Bs W W := ⟨Below.refl _ _, rfl⟩
theorem KpB.trans {n₀ Bs : Nat} {A B C : World} (h : KpB n₀ Bs A B) (k : KpB n₀ Bs B C) : KpB n₀ Bs A C := ⟨h.1.trans k.1, k.2.trans h.2⟩
theorem KpB.putObj {n₀ Bs : Nat} {w : World} (h0 : n₀ ≤ w.heap.size) (h1 : Bs < w.heap.size) : ∀ (W : World) (l : Nat) (o o' : Obj), w.heap.size ≤ l → W.heap[l]? = some o → o.isCells = false → o.isWalk = false → KpB n₀ Bs W (W.putObj l o') :=
  fun W l o o' hl ho hc hw => ⟨belowK_b (w := w) h0 W l o o' hl ho hc hw, World.cell?_of_block (w := W) (World.putObj_heap_other (by simp only; omega))⟩

set_option maxRecDepth 100000 in
set_option maxHeartbeats 2000000 in
theorem back1_in (n : Nat) (hn : 1 ≤ n) (l Bs n₀ : Nat) (A : Option Addr) (len cap : Nat) (zs : List Nat) (hlen : len ≤ 1048576) (J Jx : List (Ix zs) → World → Prop)
    (hY : ∀ pre x W, J pre W → pre.length < len → YieldAt Fence.wide (n - 1) Tryz.prog l (encB x) W fun e W' =>
      (e = .returned (.bool true) ∧ J (pre ++ [x]) W' ∧ KpB n₀ Bs W W') ∨ (e = .returned (.bool false) ∧ Jx (pre ++ [x]) W'))
    (W : World) (hBs : W.cell? ⟨Bs, 0, none⟩ = some (.slice A len cap)) (hc : Rd W n₀ A len cap zs) (h0 : J [] W) :
    CallsIn Fence.wide n Tryz.prog 70 #[.func (.yield l) #[] #[], .pointer (some ⟨Bs, 0, none⟩)] W fun e W' => (∃ v, e = .returned v) ∧
      ((∃ ys, ys = bkf zs len ∧ J ys W') ∨ (∃ pre, (∃ k, k ≤ len ∧ pre = bkf zs k) ∧ Jx pre W')) := by
  have hzl := hc.len
  have HC := Lib.hid hc
  have HBS := Lib.hid hBs
  have HZ := Lib.hid hzl
  clear hc hzl
  refine callsIn_of_wp Tryz.func70 rfl trivial ?_ rfl
  simp only [Tryz.ntmps70, List.size_toArray, List.length_cons, List.length_nil, Nat.reduceAdd, Nat.reduceSub, Array.replicate_succ, Array.replicate_zero, List.push_toArray, List.append_toArray, List.nil_append, List.cons_append]
  gi_wp2
  clear hBs
  gi_loopw [3] (fun i wr => ∃ k : Nat, k ≤ len ∧ i = .int .i64 ((k : Int) - 1) ∧ J (bkf zs (len - k)) wr ∧ KpB n₀ Bs W wr)
    (fun i _ => (intOf i + 1).toNat)
  case atStart => exact ⟨len, Nat.le_refl _, rfl, by rw [Nat.sub_self]; exact h0, KpB.refl _ _ _⟩
  case round =>
    obtain ⟨k, hk, rfl, hJs, hnx⟩ := hrel
    have hbs := hnx.2.trans HBS.out
    rcases Nat.eq_zero_or_pos k with h0 | h0
    · subst h0
      have HF := Lib.hid hJs
      clear hJs
      gi_wp2
      go_end0
      exact ⟨⟨_, rfl⟩, .inl ⟨_, rfl, HF.out⟩⟩
    · obtain ⟨m, rfl⟩ : ∃ m, k = m + 1 := ⟨k - 1, by omega⟩
      rw [show (((m + 1 : Nat) : Int) - 1) = (m : Int) by omega]
      have hrd := HC.out.below hnx.1
      obtain ⟨b, off, rfl, hb, hcell⟩ := hrd.at_ (by omega)
      have hcx := hcell m (by omega)
      have hj : len - (m + 1) < zs.length := by rw [HZ.out]; omega
      have hex : zs.length - 1 - (len - (m + 1)) = m := by rw [HZ.out]; omega
      obtain ⟨x, hx1, hx2, hxs⟩ : ∃ x : Ix zs, x.1.1 = m ∧ x.1.2 = zs.getD m 0 ∧ bkf zs (len - m) = bkf zs (len - (m + 1)) ++ [x] := by
        refine ⟨⟨(zs.length - 1 - (len - (m + 1)), zs.getD (zs.length - 1 - (len - (m + 1))) 0), by simp only; omega, rfl⟩, hex, by simp only [hex], ?_⟩
        rw [show len - m = (len - (m + 1)) + 1 by omega, bkf_succ hj]
      obtain ⟨fn, tmps, assign, body, hy, hR⟩ := hY _ x wr hJs (by rw [bkf_length (by rw [HZ.out]; omega)]; omega)
      simp only [encB, hx1, hx2] at hy
      generalize zs.getD m 0 = d at hy hcx
      have HR := Lib.hid hR
      have HX := Lib.hid hxs
      have hwt : W.heap.size ≤ wr.heap.size := hnx.1.size
      have HN := Lib.hid hnx
      clear hrd hcell hx1 hx2 hxs hJs hR hnx hj hex
      gi_wp2
      refine HR.out.mono ?_
      rintro e W3 (⟨rfl, hJ3, hk3⟩ | ⟨rfl, hJx3⟩)
      · have HJ := Lib.hid hJ3
        have HK := Lib.hid (HN.out.trans hk3)
        clear hJ3 hk3
        gi_wp2
        go_roundw
        case rel => exact ⟨m, by omega, rfl, by rw [HX.out]; exact HJ.out, HK.out⟩
        case measure => simp [intOf]
      · have HJ := Lib.hid hJx3
        clear hJx3
        gi_wp2
        refine bodyPost_ret (results_none rfl _ _ _) rfl ?_
        exact ⟨⟨_, rfl⟩, .inr ⟨_, ⟨len - m, by omega, by rw [HX.out]⟩, HJ.out⟩⟩

/-- slices.Backward hands over each place and its digit, from the top on. -/
theorem back_stops (n : Nat) (hn : 1 ≤ n) (Bs n₀ : Nat) (A : Option Addr) (len cap : Nat) (zs : List Nat) (hlen : len ≤ 1048576) (w : World) (hBs : Bs < w.heap.size) (hn₀ : n₀ ≤ w.heap.size)
    (hc : w.cell? ⟨Bs, 0, none⟩ = some (.slice A len cap)) (hI : Rd w n₀ A len cap zs) :
    SeqStopsK Fence.wide n Tryz.prog 70 #[.pointer (some ⟨Bs, 0, none⟩)] (fun x : Ix zs => encB x) (KpB n₀ Bs) (fun ys => ys = bkf zs len)
      (fun pre => ∃ k, k ≤ len ∧ pre = bkf zs k) len w := fun l J Jx W hW _ _ hY h0 =>
  back1_in n hn l Bs n₀ A len cap zs hlen J Jx hY W ((hW.cell (p := ⟨Bs, 0, none⟩) hBs).trans hc) (hI.below (hW.mono hn₀)) h0

end Go.Proofs.YthkgeafidbihmaaGreatDoor
