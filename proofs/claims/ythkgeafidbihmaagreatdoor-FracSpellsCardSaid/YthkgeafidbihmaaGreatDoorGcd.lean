/-
  Gcd: the greatest common divisor, by what is left of parts.
-/
import Derived.Test.YthkgeafidbihmaaGreatDoorDivMod
namespace Go.Proofs.YthkgeafidbihmaaGreatDoor
open Go.RowKit Go.Shelf
set_option linter.unusedVariables false
set_option linter.unusedSimpArgs false

theorem gcd_step {X Y g : Nat} (h : Nat.gcd X Y = g) : Nat.gcd Y (X % Y) = g := by
  rw [← h, Nat.gcd_comm X Y, Nat.gcd_rec Y X, Nat.gcd_comm]

/-- What number a slice reads as. -/
def readV (v : Value) (w : World) : Nat := match v with
  | .slice (some ad) n _ => val ((List.range n).map fun k => match w.cell? ⟨ad.block, ad.off + k, none⟩ with | some (.int _ z) => z.toNat | _ => 0)
  | _ => 0

theorem readV_rd {w : World} {A : Option Addr} {B n c x : Nat} (h : Rd w B A n c (digs x)) : readV (.slice A n c) w = x := by
  rcases Nat.eq_zero_or_pos n with h0 | h0
  · subst h0
    have := digs_nil_iff.1 h.nil_of
    subst this
    cases A <;> simp [readV, val]
  · obtain ⟨b, off, rfl, hb, hc⟩ := h.at_ h0
    simp only [readV]
    have e : ((List.range n).map fun k => match w.cell? ⟨b, off + k, none⟩ with | some (.int _ z) => z.toNat | _ => 0) = digs x := by
      apply List.ext_getElem?
      intro i
      rw [List.getElem?_map]
      by_cases hi : i < n
      · rw [List.getElem?_range hi, Option.map_some, hc i hi]
        have : (digs x)[i]? = some ((digs x).getD i 0) := by rw [List.getD_eq_getElem?_getD, List.getElem?_eq_getElem (by rw [h.len]; exact hi)]; rfl
        rw [this]
        simp
      · rw [List.getElem?_eq_none (by simp; omega), List.getElem?_eq_none (by rw [h.len]; omega)]
        rfl
    rw [e, val_digs]

set_option maxRecDepth 100000 in
set_option maxHeartbeats 1000000 in
theorem gcd_any (w : World) (A1 A2 : Option Addr) (n1 c1 n2 c2 : Nat) (l1 l2 : List Nat) (h1 : Rd w w.heap.size A1 n1 c1 l1) (h2 : Rd w w.heap.size A2 n2 c2 l2) (hn1 : n1 ≤ 60000) (hn2 : n2 ≤ 60000) :
    Calls Tryz.prog 42 #[.slice A1 n1 c1, .slice A2 n2 c2] w (RetN w (Nat.gcd (tv l1) (tv l2))) := by
  go_enter Tryz.func42, Tryz.ntmps42
  go_wp2_with fail
  refine (taken_any _ _ A1 n1 c1 l1 h1 (by omega)).mono ?_
  rintro e w' ⟨⟨P1, m1, d1, rfl, hm1, r1⟩, rfl⟩
  go_wp2_with fail
  refine (taken_any _ _ A2 n2 c2 l2 h2 (by omega)).mono ?_
  rintro e w' ⟨⟨P2, m2, d2, rfl, hm2, r2⟩, rfl⟩
  have hm1 : m1 ≤ 60000 := by omega
  have hm2 : m2 ≤ 60000 := by omega
  clear h1 h2 hn1 hn2
  generalize tv l1 = X1 at *
  generalize tv l2 = X2 at *
  have R1 := Lib.hid r1
  have R2 := Lib.hid r2
  clear r1 r2
  go_wp2_with fail
  go_loopw [0, 1] (fun av bv wr => ∃ (X Y : Nat) (A B : Option Addr) (n c m d : Nat), av = .slice A n c ∧ bv = .slice B m d ∧ n ≤ 60000 ∧ m ≤ 60000 ∧ Hid (Rd wr wr.heap.size A n c (digs X)) ∧ Hid (Rd wr wr.heap.size B m d (digs Y)) ∧
      Hid (Nat.gcd X Y = Nat.gcd X1 X2) ∧ Hid (Below w.heap.size w wr)) (fun _ bv wr => readV bv wr)
  case atStart => exact ⟨X1, X2, P1, P2, m1, d1, m2, d2, rfl, rfl, hm1, hm2, R1, R2, Lib.hid rfl, Lib.hid (Below.refl _ _)⟩
  case round =>
    obtain ⟨X, Y, A, B, n, c, m, d, rfl, rfl, hn, hm, RA, RB, HG, HB⟩ := hrel
    rcases Nat.eq_zero_or_pos m with h0 | h0
    · subst h0
      have hY : Y = 0 := digs_nil_iff.1 RB.out.nil_of
      have hX : X = Nat.gcd X1 X2 := by have := HG.out; rw [hY, Nat.gcd_zero_right] at this; exact this
      have HX := Lib.hid hX
      clear hY hX
      go_wp2_with fail
      refine (clone_any _ _ _ _ _ RA.out (by omega)).mono ?_
      rintro e w1 ⟨A1, n1, c1, rfl, r1, hb1⟩
      have hf : RetN w (Nat.gcd X1 X2) (.returned (.slice A1 n1 c1)) w1 := ⟨A1, n1, c1, rfl, by rw [← HX.out]; exact r1, bltB HB.out HB.out.size hb1⟩
      have HF := Lib.hid hf
      clear hf r1 hb1
      go_wp2_with fail
      go_ret
      exact HF.out
    · have hpos : (0 : Int) < (m : Int) := by omega
      have hYp : 0 < Y := by
        rcases Nat.eq_zero_or_pos Y with e | e
        · subst e; have := RB.out.len; rw [digs_zero] at this; simp at this; omega
        · exact e
      have HY := Lib.hid hYp
      have HM := Lib.hid (readV_rd RB.out)
      clear hYp
      go_wp2_with fail
      refine (divmod_any _ _ _ _ _ _ _ _ _ RA.out RB.out (by omega) (by omega)).mono ?_
      rintro e w1 ⟨A1, n1, c1, A2, n2, c2, rfl, r1, r2, hb1⟩
      rw [tv_digs, tv_digs, if_neg (by have := HY.out; omega)] at r2
      have hn2 : n2 ≤ 60000 := by
        have h1 := digs_len_mono (Nat.le_of_lt (Nat.mod_lt X HY.out))
        have h2 := r2.len
        have h3 := RB.out.len
        omega
      have R2 := Lib.hid r2
      have RB1 := Lib.hid (RB.out.on hb1)
      have HB1 := Lib.hid (bltB HB.out HB.out.size hb1)
      have HM1 := Lib.hid (readV_rd r2)
      have HG1 := Lib.hid (gcd_step HG.out)
      clear r1 r2 hb1
      go_wp2_with fail
      go_roundw
      case rel => exact ⟨Y, X % Y, B, A2, m, d, n2, c2, rfl, rfl, hm, hn2, RB1, R2, HG1, HB1⟩
      case measure => rw [HM1.out, HM.out]; exact Nat.mod_lt _ HY.out

end Go.Proofs.YthkgeafidbihmaaGreatDoor
