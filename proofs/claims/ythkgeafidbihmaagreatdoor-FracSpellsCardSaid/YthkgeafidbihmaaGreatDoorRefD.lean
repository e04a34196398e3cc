/-
  The document's DivMod: bit by bit.
-/
import Derived.Test.YthkgeafidbihmaaGreatDoorRefB
import Derived.Test.YthkgeafidbihmaaGreatDoorDivMod
import Derived.Test.YthkgeafidbihmaaGreatDoorBits
namespace Go.Proofs.YthkgeafidbihmaaGreatDoor
open Go.RowKit Go.Shelf
set_option linter.unusedVariables false
set_option linter.unusedSimpArgs false

set_option maxRecDepth 100000 in
set_option maxHeartbeats 2000000 in
theorem rdivmod_any (w : World) (A1 A2 : Option Addr) (n1 c1 n2 c2 : Nat) (l1 l2 : List Nat) (h1 : Rd w w.heap.size A1 n1 c1 l1) (h2 : Rd w w.heap.size A2 n2 c2 l2) (hn1 : n1 ≤ 60000) (hn2 : n2 ≤ 60000) :
    Calls Tryz.prog 57 #[.slice A1 n1 c1, .slice A2 n2 c2] w (RetD w (tv l1) (tv l2)) := by
  go_enter Tryz.func57, Tryz.ntmps57
  go_wp2_with fail
  refine (rtaken_any _ _ A1 n1 c1 l1 h1 (by omega)).mono ?_
  rintro e w' ⟨⟨P1, m1, d1, rfl, hm1, r1⟩, rfl⟩
  go_wp2_with fail
  refine (rtaken_any _ _ A2 n2 c2 l2 h2 (by omega)).mono ?_
  rintro e w' ⟨⟨P2, m2, d2, rfl, hm2, r2⟩, rfl⟩
  have hm1 : m1 ≤ 60000 := by omega
  have hm2 : m2 ≤ 60000 := by omega
  obtain ⟨X, hX⟩ : ∃ X, tv l1 = X := ⟨_, rfl⟩
  obtain ⟨Y, hY⟩ : ∃ Y, tv l2 = Y := ⟨_, rfl⟩
  rw [hX] at r1
  rw [hY] at r2
  have HXY := Lib.hid (And.intro hX hY)
  have R1 := Lib.hid r1
  have R2 := Lib.hid r2
  clear h1 h2 hn1 hn2 hX hY r1 r2
  rcases Nat.eq_zero_or_pos Y with hYp | hYp
  · have hz : m2 = 0 := by have := R2.out.len; rw [hYp, digs_zero] at this; exact this.symm
    subst hz
    have HF : Hid (RetD w (tv l1) (tv l2) (.returned (.tuple #[.slice none 0 0, .slice none 0 0, .bool false])) w) := Lib.hid (by
      rw [HXY.out.1, HXY.out.2, hYp]
      exact ⟨none, 0, 0, none, 0, 0, rfl, by rw [Nat.div_zero, digs_zero]; exact Rd.nil _ _, by rw [if_pos rfl, digs_zero]; exact Rd.nil _ _, Below.refl _ _⟩)
    clear hYp
    go_wp2_with fail
    go_ret3
    exact HF.out
  · have hz : ((m2 : Int) == 0) = false := by
      have : m2 ≠ 0 := fun e => by
        have h := R2.out.len
        rw [e] at h
        have := digs_nil_iff.1 (List.eq_nil_of_length_eq_zero h)
        omega
      simp; omega
    have HY := Lib.hid hYp
    have HXl := Lib.hid (rd_lt R1.out (Nat.le_refl _))
    have HYl := Lib.hid (rd_lt R2.out (Nat.le_refl _))
    have hmk := make_u32 (m1 : Int) m1 rfl (by omega)
    clear hYp
    go_wp2_with fail
    clear hmk hz
    go_loopw [10, 11] (fun rv iv wr => ∃ (j : Nat) (A : Option Addr) (n c : Nat) (qs : List Nat), j ≤ 32 * m1 ∧ iv = .int .i64 ((j : Int) - 1) ∧ rv = .slice A n c ∧ n ≤ m2 ∧ Hid (Rd wr wr.heap.size A n c (digs (X / 2 ^ j % Y))) ∧
        Hid (qs.length = m1) ∧ Hid (Dig qs) ∧ Hid (val qs = 2 ^ j * (X / 2 ^ j / Y)) ∧ Hid (Blk wr w.heap.size 38 (cells qs)) ∧ Hid (Below w.heap.size w wr)) (fun _ iv _ => (intOf iv + 1).toNat)
    case atStart =>
      have e0 : X / 2 ^ (32 * m1) = 0 := Nat.div_eq_of_lt (by rw [← pow32]; exact HXl.out)
      exact ⟨32 * m1, none, 0, 0, List.replicate m1 0, Nat.le_refl _, by rw [Int.natCast_mul]; rfl, rfl, Nat.zero_le _, Lib.hid (by rw [e0, Nat.zero_mod, digs_zero]; exact Rd.nil _ _), by simp [Hid], Dig.zeros _, Lib.hid (by rw [e0, Nat.zero_div, Nat.mul_zero, val_zeros]), Blk.new _ _ _, Lib.hid ((Below.refl _ _).alloc (Nat.le_refl _) _)⟩
    case round =>
      obtain ⟨j, A, n, c, qs, hj, rfl, rfl, hn, HR, HL, HD, HV, HB, hbel⟩ := hrel
      rcases Nat.eq_zero_or_pos j with h0 | h0
      · subst h0
        have hq := Rd.of_blk HB.out HD.out
        rw [HL.out] at hq
        have hv : val qs = X / Y := by have := HV.out; rwa [Nat.pow_zero, Nat.one_mul, Nat.div_one] at this
        have hr := HR.out
        rw [Nat.pow_zero, Nat.div_one] at hr
        have HQ := Lib.hid (And.intro hq (And.intro hv hr))
        clear hq hv hr
        go_wp2_with fail
        refine (rlow_any _ _ _ _ _ HQ.out.1 (by omega)).mono ?_
        rintro e w1 ⟨A1', n1', c1', rfl, r1, hb1⟩
        rw [HQ.out.2.1] at r1
        have Rd1 := Lib.hid r1
        have HR1 := Lib.hid (HQ.out.2.2.on hb1)
        have HL1 := Lib.hid (bltB hbel.out hbel.out.size hb1)
        clear r1 hb1
        go_wp2_with fail
        refine (rlow_any _ _ _ _ _ HR1.out (by omega)).mono ?_
        rintro e w2 ⟨A2', n2', c2', rfl, r2, hb2⟩
        rw [val_digs] at r2
        have HF : Hid (RetD w (tv l1) (tv l2) (.returned (.tuple #[.slice A1' n1' c1', .slice A2' n2' c2', .bool true])) w2) := Lib.hid (by
          rw [HXY.out.1, HXY.out.2]
          exact ⟨A1', n1', c1', A2', n2', c2', by rw [decide_eq_true HY.out], Rd1.out.on hb2, by rw [if_neg (by have := HY.out; omega)]; exact r2, bltB HL1.out HL1.out.size hb2⟩)
        clear r2 hb2
        go_wp2_with fail
        go_ret3
        exact HF.out
      · obtain ⟨i, rfl⟩ : ∃ i, j = i + 1 := ⟨j - 1, by omega⟩
        rw [show (((i + 1 : Nat) : Int) - 1) = (i : Int) by omega]
        obtain ⟨ab, ao, rfl, hab, hac⟩ := (R1.out.below hbel.out).at_ (by omega)
        obtain ⟨t, ht⟩ : ∃ t, i / 32 = t := ⟨_, rfl⟩
        obtain ⟨s, hs⟩ : ∃ s, i % 32 = s := ⟨_, rfl⟩
        have htm : t < m1 := by omega
        have hsl : s < 32 := by omega
        have hit : i = 32 * t + s := by omega
        have hqi : (i : Int) / 32 = (t : Int) := by omega
        have hri : (i : Int) % 32 = (s : Int) := by omega
        have hcell := hac t htm
        have hal := (dig_digs X).getD t
        have hbit := bit_at (dig_digs X) t s hsl
        rw [val_digs, ← hit] at hbit
        generalize (digs X).getD t 0 = a at *
        obtain ⟨b, hb⟩ : ∃ b, a / 2 ^ s % 2 = b := ⟨_, rfl⟩
        have hbl : b < 2 := by omega
        have hband : bits BinOp.and IntKind.u32 ((a : Int) / 2 ^ s) 1 = (b : Int) := by
          have e1 : ((a : Int) / 2 ^ s) = ((a / 2 ^ s : Nat) : Int) := by rw [Int.natCast_ediv, Int.natCast_pow]; rfl
          rw [e1, show (1 : Int) = ((1 : Nat) : Int) from rfl, u32_and_nat _ _ (Nat.lt_of_le_of_lt (Nat.div_le_self _ _) hal) (by decide), Nat.and_one_is_mod, hb]
        rw [hb] at hbit
        have HV0 := Lib.hid (bit_step X i)
        obtain ⟨D, hD⟩ := (⟨_, rfl⟩ : ∃ D, X / 2 ^ (i + 1) = D)
        obtain ⟨V, hVe⟩ := (⟨_, rfl⟩ : ∃ V, X / 2 ^ i = V)
        have hDV : V = 2 * D + b := by have := HV0.out; rw [hD, hVe] at this; rw [hVe] at hbit; omega
        obtain ⟨dv1, dv2⟩ := div_bit (V := D) HY.out hbl
        rw [← hDV] at dv1 dv2
        have HDV := Lib.hid (And.intro dv1 (And.intro dv2 (And.intro hD hVe)))
        rw [hD] at HR HV
        obtain ⟨R, hR⟩ : ∃ R, D % Y = R := ⟨_, rfl⟩
        have hRl : R < Y := by rw [← hR]; exact Nat.mod_lt _ HY.out
        rw [hR] at HR HDV
        have HRR := Lib.hid hR
        have HIT := Lib.hid hit
        clear hac hbit ht hs hit hb dv1 dv2 hDV hD hVe hR HV0
        have bR : R < 4294967296 ^ m2 := Nat.lt_trans hRl HYl.out
        have bRR : R + R < 4294967296 ^ (m2 + 1) := bd_add bR bR (Nat.le_refl _) (Nat.le_refl _)
        have HBD := Lib.hid (And.intro bR bRR)
        clear bR bRR
        go_wp2_with fail
        refine (radd_any _ _ _ _ _ _ _ _ _ HR.out HR.out (by omega) (by omega)).mono ?_
        rintro e w1 ⟨A1', n1', c1', rfl, r1, hb1⟩
        rw [tv_digs] at r1
        have hn1' : n1' ≤ m2 + 1 := rd_le r1 HBD.out.2
        have HB1 := Lib.hid (HB.out.below hb1 HB.out.lt)
        have Rd1 := Lib.hid r1
        have HL1 := Lib.hid (bltB hbel.out hbel.out.size hb1)
        clear r1 hb1
        go_wp2_with fail
        refine (rof_any w1 b (by omega)).mono ?_
        rintro e w2 ⟨A2', n2', c2', rfl, r2, hb2⟩
        have hn2' : n2' ≤ 1 := rd_le r2 (by omega)
        have HB2 := Lib.hid (HB1.out.below hb2 HB1.out.lt)
        have Rd1' := Lib.hid (Rd1.out.on hb2)
        have Rd2 := Lib.hid r2
        have HL2 := Lib.hid (bltB HL1.out HL1.out.size hb2)
        clear r2 hb2 HB1 Rd1 HL1
        go_wp2_with fail
        refine (radd_any _ _ _ _ _ _ _ _ _ Rd1'.out Rd2.out (by omega) (by omega)).mono ?_
        rintro e w3 ⟨A3, n3, c3, rfl, r3, hb3⟩
        rw [tv_digs, tv_digs] at r3
        have HB3 := Lib.hid (HB2.out.below hb3 HB2.out.lt)
        have HL3 := Lib.hid (bltB HL2.out HL2.out.size hb3)
        have hn3 : n3 ≤ m2 + 1 := by
          have h1 : R + R + b < 4294967296 ^ (m2 + 1) := by
            have h2 := HYl.out
            rw [Nat.pow_succ]
            omega
          exact rd_le r3 h1
        have Rd3 := Lib.hid r3
        clear r3 hb3 Rd1' Rd2 HB2 HL2
        have hcmp := rcmp_any w3 A3 P2 n3 c3 m2 d2 _ _ Rd3.out (R2.out.below HL3.out |>.more HL3.out.size) (by omega) (by omega)
        rw [tv_digs, tv_digs] at hcmp
        have HC := Lib.hid hcmp
        clear hcmp
        have hsi : 2 ^ s ≤ 2147483648 := Nat.pow_le_pow_right (n := 2) (by decide) (show s ≤ 31 by omega)
        obtain ⟨P, hP⟩ : ∃ P, 2 ^ s = P := ⟨_, rfl⟩
        have hpw : (2 : Int) ^ s % 4294967296 = (P : Int) := by
          have e1 : (2 : Int) ^ s = ((2 ^ s : Nat) : Int) := by rw [Int.natCast_pow]; rfl
          rw [e1, hP]
          omega
        obtain ⟨sb1, sb2, sb3⟩ := set_bit (Q := D / Y) (t := t) HD.out hsl (by rw [HL.out]; exact htm) (by rw [← HIT.out]; exact HV.out)
        rw [hP] at sb1 sb2 sb3 hsi
        rw [← HIT.out] at sb2
        obtain ⟨Z, hZ⟩ : ∃ Z, R + R + b = Z := ⟨_, rfl⟩
        rw [hZ] at Rd3 HC HDV
        have hZY : Z < Y + Y := by omega
        by_cases hge : Y ≤ Z
        · have hcz : ¬ cmpI (Z : Int) (Y : Int) < 0 := by rw [cmpI_nat, if_neg (by omega)]; split <;> decide
          obtain ⟨qd, hqd⟩ : ∃ qd, qs.getD t 0 = qd := ⟨_, rfl⟩
          rw [hqd] at sb1 sb2 sb3
          have hor : bits BinOp.or IntKind.u32 (qd : Int) (P : Int) = ((qd + P : Nat) : Int) := by rw [u32_or_nat _ _ (by omega) (by omega), sb1]
          obtain ⟨nd, hnd⟩ : ∃ nd, qd + P = nd := ⟨_, rfl⟩
          rw [hnd] at hor sb2 sb3
          have HSB := Lib.hid (And.intro sb2 (And.intro hqd hZ))
          have HP := Lib.hid hP
          clear sb1 sb2 hqd hnd hZ hP
          go_wp2_with fail
          refine HC.out.mono ?_
          rintro e w' ⟨rfl, rfl⟩
          generalize cmpI (Z : Int) (Y : Int) = cz at *
          clear HC
          go_wp2_with fail
          clear hcz
          refine (rsub_f _ _ _ _ _ _ _ _ _ Rd3.out (R2.out.below HL3.out |>.more HL3.out.size) (by omega) (by omega)).mono ?_
          rintro e w4 ⟨A4, n4, c4, rfl, r4, hb4, hf4⟩
          rw [tv_digs, tv_digs] at r4
          have HB4 := Lib.hid (HB3.out.below hb4 HB3.out.lt)
          have HL4 := Lib.hid (bltB HL3.out HL3.out.size hb4)
          have hn4 : n4 ≤ m2 := rd_le r4 (Nat.lt_of_lt_of_le (show Z - Y < Y by omega) (Nat.le_of_lt HYl.out))
          have hcq : w4.cell? ⟨w.heap.size, t, none⟩ = some (.int .u32 (qd : Int)) := by
            rw [HB4.out.cell, cells_at _ (by rw [HL.out]; exact htm), HSB.out.2.1]
          have hfq := HB4.out.frozen t
          have hG3 := HB3.out.lt
          have HB5 : Hid (Blk (w4.setCell ⟨w.heap.size, t, none⟩ (.int .u32 (nd : Int))) w.heap.size 38 (cells (qs.set t nd))) := Lib.hid (by
            have := HB4.out.set_ t (.int .u32 (nd : Int))
            rwa [cells_set] at this)
          have HL5 := Lib.hid (HL4.out.setCell (p := ⟨w.heap.size, t, none⟩) (Nat.le_refl _) (.int .u32 (nd : Int)))
          have HR5 : Hid (Rd (w4.setCell ⟨w.heap.size, t, none⟩ (.int .u32 (nd : Int))) (w4.setCell ⟨w.heap.size, t, none⟩ (.int .u32 (nd : Int))).heap.size A4 n4 c4 (digs (V % Y))) := Lib.hid (by
            have e : (w4.setCell ⟨w.heap.size, t, none⟩ (.int .u32 (nd : Int))).heap.size = w4.heap.size := by simp [World.setCell]
            rw [e, HDV.out.1, if_pos hge]
            refine ⟨r4.len, r4.cap, r4.dig, fun h0 => ?_⟩
            obtain ⟨b', off, eA, hb', hc'⟩ := r4.at_ h0
            have hfr := hf4 _ eA
            refine ⟨b', off, eA, hb', fun k hk => ?_⟩
            rw [World.cell?_setCell_other _ _ _ _ (fun e2 => by injection e2 with h1; simp only at hfr; omega)]
            exact hc' k hk)
          have HV5 : Hid (val (qs.set t nd) = 2 ^ i * (X / 2 ^ i / Y)) := Lib.hid (by
            rw [HSB.out.1, HV.out, HDV.out.2.2.2, HDV.out.2.1, if_pos hge, Nat.mul_add, Nat.mul_one, Nat.pow_succ, Nat.mul_assoc])
          have HD5 : Hid (Dig (qs.set t nd)) := Lib.hid (HD.out.set _ sb3)
          have HL' : Hid ((qs.set t nd).length = m1) := Lib.hid (by rw [List.length_set]; exact HL.out)
          have HDE := Lib.hid HDV.out.2.2.2
          clear r4 hb4 hf4 HB4 HL4 HB3 HL3 Rd3 HDV
          go_wp2_with fail
          go_roundw
          case rel => exact ⟨i, A4, n4, c4, qs.set t nd, by omega, rfl, rfl, hn4, Lib.hid (by rw [HDE.out]; exact HR5.out), HL', HD5, HV5, HB5, HL5⟩
          case measure => first | (simp [intOf]; done) | (simp [intOf]; omega)
        · have HC2 := Lib.hid (cmp_lt (x := Z) (y := Y) (by omega))
          have hn3' : n3 ≤ m2 := rd_le Rd3.out (Nat.lt_of_lt_of_le (show Z < Y by omega) (Nat.le_of_lt HYl.out))
          have HR5 : Hid (Rd w3 w3.heap.size A3 n3 c3 (digs (X / 2 ^ i % Y))) := Lib.hid (by
            rw [HDV.out.2.2.2, HDV.out.1, if_neg hge]; exact Rd3.out)
          have HV5 : Hid (val qs = 2 ^ i * (X / 2 ^ i / Y)) := Lib.hid (by
            rw [HV.out, HDV.out.2.2.2, HDV.out.2.1, if_neg hge, Nat.pow_succ, Nat.mul_assoc]; rfl)
          clear sb1 sb2 sb3 hpw hP hZ Rd3 HDV
          go_wp2_with fail
          refine HC.out.mono ?_
          rintro e w' ⟨rfl, rfl⟩
          rw [HC2.out]
          go_wp2_with fail
          go_roundw
          case rel => exact ⟨i, A3, n3, c3, qs, by omega, rfl, rfl, hn3', HR5, HL, HD, HV5, HB3, HL3⟩
          case measure => first | (simp [intOf]; done) | (simp [intOf]; omega)

end Go.Proofs.YthkgeafidbihmaaGreatDoor
