/-
  The document's Gcd.
-/
import Derived.Test.YthkgeafidbihmaaGreatDoorRefD
import Derived.Test.YthkgeafidbihmaaGreatDoorGcd
namespace Go.Proofs.YthkgeafidbihmaaGreatDoor
open Go.RowKit Go.Shelf
set_option linter.unusedVariables false
set_option linter.unusedSimpArgs false

set_option maxRecDepth 100000 in
set_option maxHeartbeats 1000000 in
theorem rgcd_any (w : World) (A1 A2 : Option Addr) (n1 c1 n2 c2 : Nat) (l1 l2 : List Nat) (h1 : Rd w w.heap.size A1 n1 c1 l1) (h2 : Rd w w.heap.size A2 n2 c2 l2) (hn1 : n1 ≤ 60000) (hn2 : n2 ≤ 60000) :
    Calls Tryz.prog 48 #[.slice A1 n1 c1, .slice A2 n2 c2] w (RetN w (Nat.gcd (tv l1) (tv l2))) := by
  go_enter Tryz.func48, Tryz.ntmps48
  go_wp2_with fail
  refine (rtaken_any _ _ A1 n1 c1 l1 h1 (by omega)).mono ?_
  rintro e w' ⟨⟨P1, m1, d1, rfl, hm1, r1⟩, rfl⟩
  go_wp2_with fail
  refine (rtaken_any _ _ A2 n2 c2 l2 h2 (by omega)).mono ?_
  rintro e w' ⟨⟨P2, m2, d2, rfl, hm2, r2⟩, rfl⟩
  have hm1 : m1 ≤ 60000 := by omega
  have hm2 : m2 ≤ 60000 := by omega
  clear h1 h2 hn1 hn2
  obtain ⟨X1, hX⟩ : ∃ X, tv l1 = X := ⟨_, rfl⟩
  obtain ⟨X2, hY⟩ : ∃ Y, tv l2 = Y := ⟨_, rfl⟩
  rw [hX] at r1
  rw [hY] at r2
  have HXY := Lib.hid (And.intro hX hY)
  have R1 := Lib.hid r1
  have R2 := Lib.hid r2
  clear r1 r2 hX hY
  go_wp2_with fail
  go_loopw [5, 6] (fun av bv wr => ∃ (X Y : Nat) (A B : Option Addr) (n c m d : Nat), av = .slice A n c ∧ bv = .slice B m d ∧ n ≤ 60000 ∧ m ≤ 60000 ∧ Hid (Rd wr wr.heap.size A n c (digs X)) ∧ Hid (Rd wr wr.heap.size B m d (digs Y)) ∧
      Hid (Nat.gcd X Y = Nat.gcd X1 X2) ∧ Hid (Below w.heap.size w wr)) (fun _ bv wr => readV bv wr)
  case atStart => exact ⟨X1, X2, P1, P2, m1, d1, m2, d2, rfl, rfl, hm1, hm2, R1, R2, Lib.hid rfl, Lib.hid (Below.refl _ _)⟩
  case round =>
    obtain ⟨X, Y, A, B, n, c, m, d, rfl, rfl, hn, hm, RA, RB, HG, HB⟩ := hrel
    rcases Nat.eq_zero_or_pos m with h0 | h0
    · subst h0
      have hY : Y = 0 := digs_nil_iff.1 RB.out.nil_of
      have hX : X = Nat.gcd (tv l1) (tv l2) := by have := HG.out; rw [hY, Nat.gcd_zero_right] at this; rw [HXY.out.1, HXY.out.2]; exact this
      have HX := Lib.hid hX
      clear hY hX
      go_wp2_with fail
      refine (rlow_any _ _ _ _ _ RA.out (by omega)).mono ?_
      rintro e w1 ⟨A1, n1, c1, rfl, r1, hb1⟩
      rw [val_digs] at r1
      have hf : RetN w (Nat.gcd (tv l1) (tv l2)) (.returned (.slice A1 n1 c1)) w1 := ⟨A1, n1, c1, rfl, by rw [← HX.out]; exact r1, bltB HB.out HB.out.size hb1⟩
      have HF := Lib.hid hf
      clear hf r1 hb1
      go_wp2_with fail
      go_ret
      exact HF.out
    · have hpos : (0 : Int) < (m : Int) := by omega
      have hYp : 0 < Y := by
        rcases Nat.eq_zero_or_pos Y with e | e
        · subst e; have := RB.out.len; rw [digs_zero] at this; simp at this; omega
        · exact e
      have HY := Lib.hid hYp
      have HM := Lib.hid (readV_rd RB.out)
      clear hYp
      go_wp2_with fail
      refine (rdivmod_any _ _ _ _ _ _ _ _ _ RA.out RB.out (by omega) (by omega)).mono ?_
      rintro e w1 ⟨A1, n1, c1, A2, n2, c2, rfl, r1, r2, hb1⟩
      rw [tv_digs, tv_digs, if_neg (by have := HY.out; omega)] at r2
      have hn2 : n2 ≤ 60000 := by
        have h1 := digs_len_mono (Nat.le_of_lt (Nat.mod_lt X HY.out))
        have h2 := r2.len
        have h3 := RB.out.len
        omega
      have R2 := Lib.hid r2
      have RB1 := Lib.hid (RB.out.on hb1)
      have HB1 := Lib.hid (bltB HB.out HB.out.size hb1)
      have HM1 := Lib.hid (readV_rd r2)
      have HG1 := Lib.hid (gcd_step HG.out)
      clear r1 r2 hb1
      go_wp2_with fail
      go_roundw
      case rel => exact ⟨Y, X % Y, B, A2, m, d, n2, c2, rfl, rfl, hm, hn2, RB1, R2, HG1, HB1⟩
      case measure => rw [HM1.out, HM.out]; exact Nat.mod_lt _ HY.out

end Go.Proofs.YthkgeafidbihmaaGreatDoor
