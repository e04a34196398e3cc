/-
  The document's Mul.
-/
import Derived.Test.YthkgeafidbihmaaGreatDoorRefB
import Derived.Test.YthkgeafidbihmaaGreatDoorMul
namespace Go.Proofs.YthkgeafidbihmaaGreatDoor
open Go.RowKit Go.Shelf
set_option linter.unusedVariables false
set_option linter.unusedSimpArgs false
attribute [local go_sem] Oper.semAt_some

theorem rmul_out {L a b : List Nat} {i k nb x : Nat} (hb : b.length = nb) (hk : nb ≤ k) (hx : x = a.getD i 0)
    (h : val L + 4294967296 ^ (i + k) * 0 = val (a.take i) * val b + x * (4294967296 ^ i * val (b.take k))) : val L = val (a.take (i + 1)) * val b := by
  have hb' : b.take k = b := List.take_of_length_le (by omega)
  rw [hb', Nat.mul_zero] at h
  rw [val_take_succ, ← hx, Nat.add_mul]
  have e : 4294967296 ^ i * x * val b = x * (4294967296 ^ i * val b) := by rw [Nat.mul_comm (4294967296 ^ i) x, Nat.mul_assoc]
  rw [e]
  omega

set_option maxRecDepth 100000 in
set_option maxHeartbeats 2000000 in
theorem rmul_any (w : World) (A1 A2 : Option Addr) (n1 c1 n2 c2 : Nat) (l1 l2 : List Nat) (h1 : Rd w w.heap.size A1 n1 c1 l1) (h2 : Rd w w.heap.size A2 n2 c2 l2) (hn1 : n1 ≤ 65536) (hn2 : n2 ≤ 65536) :
    Calls Tryz.prog 45 #[.slice A1 n1 c1, .slice A2 n2 c2] w (RetN w (tv l1 * tv l2)) := by
  go_enter Tryz.func45, Tryz.ntmps45
  go_wp2_with fail
  refine (rtaken_any _ _ A1 n1 c1 l1 h1 (by omega)).mono ?_
  rintro e w' ⟨⟨P1, m1, d1, rfl, hm1, r1⟩, rfl⟩
  go_wp2_with fail
  refine (rtaken_any _ _ A2 n2 c2 l2 h2 (by omega)).mono ?_
  rintro e w' ⟨⟨P2, m2, d2, rfl, hm2, r2⟩, rfl⟩
  have hm1 : m1 ≤ 65536 := by omega
  have hm2 : m2 ≤ 65536 := by omega
  obtain ⟨X, hX⟩ : ∃ X, tv l1 = X := ⟨_, rfl⟩
  obtain ⟨Y, hY⟩ : ∃ Y, tv l2 = Y := ⟨_, rfl⟩
  rw [hX] at r1
  rw [hY] at r2
  have HXY := Lib.hid (And.intro hX hY)
  have R1 := Lib.hid r1
  have R2 := Lib.hid r2
  clear h1 h2 hn1 hn2 hX hY r1 r2
  have hmk := make_u32 ((m1 : Int) + (m2 : Int) + 1) (m1 + m2 + 1) (by omega) (by omega)
  go_wp2_with fail
  clear hmk
  go_loopw [8] (fun iv wr => ∃ (i : Nat) (L : List Nat), i ≤ m1 ∧ iv = .int .i64 i ∧ Hid (L.length = m1 + m2 + 1) ∧ Hid (Dig L) ∧ Hid (val L = val ((digs X).take i) * val (digs Y)) ∧ Hid (∀ j, i + m2 ≤ j → L.getD j 0 = 0) ∧
      Hid (Blk wr w.heap.size 38 (cells L)) ∧ Hid (Below w.heap.size w wr)) (fun iv _ => m1 - (intOf iv).toNat)
  case atStart => exact ⟨0, List.replicate (m1 + m2 + 1) 0, Nat.zero_le _, rfl, by simp [Hid], Dig.zeros _, by simp [Hid, val, val_zeros], Lib.hid (fun j _ => by simp [List.getD_eq_getElem?_getD, List.getElem?_replicate]; split <;> rfl), Blk.new _ _ _, Lib.hid ((Below.refl _ _).alloc (Nat.le_refl _) _)⟩
  case round =>
    obtain ⟨i, L, hi, rfl, HL, HD, HV, HZ, HB, hbel⟩ := hrel
    by_cases hlt : i < m1
    · have hg1 : (i : Int) < (m1 : Int) := by omega
      obtain ⟨x, hx⟩ : ∃ x, (digs X).getD i 0 = x := ⟨_, rfl⟩
      have hxl : x < 4294967296 := by rw [← hx]; exact (dig_digs X).getD i
      have HX := Lib.hid hx
      clear hx
      obtain ⟨wo, rfl⟩ : ∃ wo : World, wo = wr := ⟨_, rfl⟩
      go_wp2_with fail
      clear hg1
      go_loopw [9, 10] (fun cv kv wr => ∃ (k cr : Nat) (M : List Nat), k ≤ m2 + 1 ∧ kv = .int .i64 k ∧ cv = .int .u64 (cr : Int) ∧ cr < 4294967296 ∧ (k = m2 + 1 → cr = 0) ∧ Hid (M.length = m1 + m2 + 1) ∧ Hid (Dig M) ∧
          Hid (val M + 4294967296 ^ (i + k) * cr = val ((digs X).take i) * val (digs Y) + x * (4294967296 ^ i * val ((digs Y).take k))) ∧ Hid (∀ j, i + m2 + (k - m2) ≤ j → M.getD j 0 = 0) ∧ Hid (Blk wr w.heap.size 38 (cells M)) ∧ Hid (Below w.heap.size w wr)) (fun _ kv _ => m2 + 1 - (intOf kv).toNat)
      case atStart => exact ⟨0, 0, L, Nat.zero_le _, rfl, rfl, by decide, fun _ => rfl, HL, HD, by simpa [Hid, val] using HV.out, Lib.hid (fun j hj => HZ.out j (by omega)), HB, hbel⟩
      case round =>
        obtain ⟨k, cr, M, hk, rfl, rfl, hcr, hkc, HL, HD, HV2, HZ, HB, hbel⟩ := hrel
        by_cases hend : m2 ≤ k ∧ cr = 0
        · obtain ⟨hk2, hcr0⟩ := hend
          subst hcr0
          have hg1 : ¬ (k : Int) < (m2 : Int) := by omega
          have HV3 := Lib.hid (rmul_out R2.out.len hk2 HX.out.symm HV2.out)
          clear hk2
          go_wp2_with fail
          go_roundw
          case rel => exact ⟨i + 1, M, by omega, by go_num, HL, HD, HV3, Lib.hid (fun j hj => HZ.out j (by omega)), HB, hbel⟩
          case measure => simp [intOf]; omega
        · have hkm : k ≤ m2 := by
            rcases Nat.lt_or_ge m2 k with h | h
            · have := hkc (by omega); omega
            · exact h
          have hzero : k = m2 → (digs Y).getD k 0 = 0 ∧ M.getD (i + k) 0 = 0 := fun h => ⟨getD_zero_of_ge (by rw [R2.out.len]; omega), HZ.out _ (by omega)⟩
          have e1 := rdigit_any wr.drew _ _ _ _ _ (R1.out.below hbel.out).drew (by omega) (i : Int) i rfl
          have e2 := rdigit_any wr.drew _ _ _ _ _ (R2.out.below hbel.out).drew (by omega) (k : Int) k rfl
          rw [HX.out] at e1
          have hyl := (dig_digs Y).getD k
          have hst := fun s hs => mul_in (b := digs Y) (x := x) (by rw [HL.out]; omega) HV2.out s hs
          have hol := HD.out.getD (i + k)
          have hb0 : wr.cell? ⟨w.heap.size, i + k, none⟩ = some (.int .u32 (M.getD (i + k) 0 : Nat)) := by
            rw [HB.out.cell, cells_at _ (by rw [HL.out]; omega)]
          have hf0 := HB.out.frozen (i + k)
          generalize (digs Y).getD k 0 = y at *
          generalize M.getD (i + k) 0 = ov at *
          obtain ⟨p, hp⟩ : ∃ p, x * y = p := ⟨_, rfl⟩
          have hpl : p ≤ 18446744065119617025 := by rw [← hp]; exact prod_lt hxl hyl
          have hxy : (x : Int) * (y : Int) = (p : Int) := by rw [← hp, Int.natCast_mul]
          obtain ⟨s, hs⟩ : ∃ s, p + ov + cr = s := ⟨_, rfl⟩
          have hsl : s ≤ 18446744073709551615 := by omega
          have hsi : (p : Int) + (ov : Int) + (cr : Int) = (s : Int) := by omega
          have hpo : (p : Int) + (ov : Int) ≤ 18446744073709551615 := by omega
          have HV3 := Lib.hid (hst s (by rw [hp, hs]))
          have hq : s / 4294967296 < 4294967296 := by omega
          have hq0 : k = m2 → s / 4294967296 = 0 := fun h => by
            obtain ⟨h1, h2⟩ := hzero h
            rw [h1, Nat.mul_zero] at hp
            omega
          obtain ⟨g, hg⟩ : ∃ g, i + k = g := ⟨_, rfl⟩
          have hig : (i : Int) + (k : Int) = (g : Int) := by omega
          have hgm : (g : Int) < (m1 : Int) + (m2 : Int) + 1 := by omega
          have hwg : IntKind.i64.wrap (g : Int) = (g : Int) := by simp [IntKind.wrap, IntKind.signed, IntKind.bits]; omega
          have hw1 : IntKind.u64.wrap (p : Int) = (p : Int) := by simp [IntKind.wrap, IntKind.signed, IntKind.bits]; omega
          have hw2 : IntKind.u64.wrap ((p : Int) + (ov : Int)) = (p : Int) + (ov : Int) := by simp [IntKind.wrap, IntKind.signed, IntKind.bits]; omega
          have hw3 : IntKind.u64.wrap (s : Int) = (s : Int) := by simp [IntKind.wrap, IntKind.signed, IntKind.bits]; omega
          rw [hg] at hb0 hf0 HV3
          have HB2 : ∀ W : World, Blk W w.heap.size 38 (cells M) → Blk (W.setCell ⟨w.heap.size, g, none⟩ (.int .u32 ((s : Int) % 4294967296))) w.heap.size 38 (cells (M.set g (s % 4294967296))) := fun W hW => by
            have := hW.set_ g (.int .u32 ((s % 4294967296 : Nat) : Int))
            rw [cells_set] at this
            rw [show ((s : Int) % 4294967296) = ((s % 4294967296 : Nat) : Int) by omega]
            exact this
          have HB3 := Lib.hid (HB2 wr.drew HB.out.drew)
          have hbel3 := Lib.hid (hbel.out.drew.setCell (p := ⟨w.heap.size, g, none⟩) (Nat.le_refl _) (.int .u32 ((s : Int) % 4294967296)))
          have E1 := Lib.hid e1
          have E2 := Lib.hid e2
          have HQ := Lib.hid (And.intro hq hq0)
          have HG := Lib.hid hg
          clear e1 e2 hst hzero hp hs hq0 HB2 hkc hg hq
          have hS : wr.drew.cell? ⟨w.heap.size, g, none⟩ = some (.int .u32 (ov : Int)) := hb0
          by_cases hkl : k < m2
          · have hg1 : (k : Int) < (m2 : Int) := by omega
            go_wp2_with fail
            refine wp_region_noPanic ?_
            refine ord_begin 16 (fun wx => wx.cell? ⟨w.heap.size, g, none⟩ = some (.int .u32 (ov : Int))) (by kernel_rfl) ?_
            refine ord_take (i := 0) (v := ?_) (by kernel_rfl) rfl (by decide) (by kernel_rfl) (by kernel_rfl) (fun _ _ _ h => h) (Or.inl ⟨by rfl, ?_⟩) hS ?_
            rotate_left
            · intro wz hz; (try dsimp only at hz); (try go_split_ands); go_simp; (try with_reducible rfl)
            try simp only [Act.put, List.getElem_toArray, List.getElem_cons_zero, List.getElem_cons_succ, List.setIfInBounds_toArray, List.set_cons_zero, List.set_cons_succ]
            refine ord_take (i := 1) (v := ?_) (by kernel_rfl) rfl (by decide) (by kernel_rfl) (by kernel_rfl) (fun _ _ _ h => h) (Or.inl ⟨by rfl, ?_⟩) hS ?_
            rotate_left
            · intro wz hz; (try dsimp only at hz); (try go_split_ands); go_simp; (try with_reducible rfl)
            try simp only [Act.put, List.getElem_toArray, List.getElem_cons_zero, List.getElem_cons_succ, List.setIfInBounds_toArray, List.set_cons_zero, List.set_cons_succ]
            refine ord_take (i := 3) (v := ?_) (by kernel_rfl) rfl (by decide) (by kernel_rfl) (by kernel_rfl) (fun _ _ _ h => h) (Or.inl ⟨by rfl, ?_⟩) hS ?_
            rotate_left
            · intro wz hz; (try dsimp only at hz); (try go_split_ands); go_simp; (try with_reducible rfl)
            try simp only [Act.put, List.getElem_toArray, List.getElem_cons_zero, List.getElem_cons_succ, List.setIfInBounds_toArray, List.set_cons_zero, List.set_cons_succ]
            refine ord_take (i := 4) (v := ?_) (by kernel_rfl) rfl (by decide) (by kernel_rfl) (by kernel_rfl) (fun _ _ _ h => h) (Or.inl ⟨by rfl, ?_⟩) hS ?_
            rotate_left
            · intro wz hz; (try dsimp only at hz); (try go_split_ands); go_simp; (try with_reducible rfl)
            try simp only [Act.put, List.getElem_toArray, List.getElem_cons_zero, List.getElem_cons_succ, List.setIfInBounds_toArray, List.set_cons_zero, List.set_cons_succ]
            refine ord_take (i := 7) (v := ?_) (by kernel_rfl) rfl (by decide) (by kernel_rfl) (by kernel_rfl) (fun _ _ _ h => h) (Or.inl ⟨by rfl, ?_⟩) hS ?_
            rotate_left
            · intro wz hz; (try dsimp only at hz); (try go_split_ands); go_simp; (try with_reducible rfl)
            try simp only [Act.put, List.getElem_toArray, List.getElem_cons_zero, List.getElem_cons_succ, List.setIfInBounds_toArray, List.set_cons_zero, List.set_cons_succ]
            refine ord_take (i := 8) (v := ?_) (by kernel_rfl) rfl (by decide) (by kernel_rfl) (by kernel_rfl) (fun _ _ _ h => h) (Or.inl ⟨by rfl, ?_⟩) hS ?_
            rotate_left
            · intro wz hz; (try dsimp only at hz); (try go_split_ands); go_simp; (try with_reducible rfl)
            try simp only [Act.put, List.getElem_toArray, List.getElem_cons_zero, List.getElem_cons_succ, List.setIfInBounds_toArray, List.set_cons_zero, List.set_cons_succ]
            refine ord_take (i := 9) (v := ?_) (by kernel_rfl) rfl (by decide) (by kernel_rfl) (by kernel_rfl) (fun _ _ _ h => h) (Or.inl ⟨by rfl, ?_⟩) hS ?_
            rotate_left
            · intro wz hz; (try dsimp only at hz); (try go_split_ands); go_simp; (try with_reducible rfl)
            try simp only [Act.put, List.getElem_toArray, List.getElem_cons_zero, List.getElem_cons_succ, List.setIfInBounds_toArray, List.set_cons_zero, List.set_cons_succ]
            refine ord_take (i := 10) (v := ?_) (by kernel_rfl) rfl (by decide) (by kernel_rfl) (by kernel_rfl) (fun _ _ _ h => h) (Or.inl ⟨by rfl, ?_⟩) hS ?_
            rotate_left
            · intro wz hz; (try dsimp only at hz); (try go_split_ands); go_simp; (try with_reducible rfl)
            try simp only [Act.put, List.getElem_toArray, List.getElem_cons_zero, List.getElem_cons_succ, List.setIfInBounds_toArray, List.set_cons_zero, List.set_cons_succ]
            refine ord_take (i := 11) (v := ?_) (by kernel_rfl) rfl (by decide) (by kernel_rfl) (by kernel_rfl) (fun _ _ _ h => h) (Or.inl ⟨by rfl, ?_⟩) hS ?_
            rotate_left
            · intro wz hz; (try dsimp only at hz); (try go_split_ands); go_simp; (try with_reducible rfl)
            try simp only [Act.put, List.getElem_toArray, List.getElem_cons_zero, List.getElem_cons_succ, List.setIfInBounds_toArray, List.set_cons_zero, List.set_cons_succ]
            refine ord_take (i := 12) (v := ?_) (by kernel_rfl) rfl (by decide) (by kernel_rfl) (by kernel_rfl) (fun _ _ _ h => h) (Or.inl ⟨by rfl, ?_⟩) hS ?_
            rotate_left
            · intro wz hz; (try dsimp only at hz); (try go_split_ands); go_simp; (try with_reducible rfl)
            try simp only [Act.put, List.getElem_toArray, List.getElem_cons_zero, List.getElem_cons_succ, List.setIfInBounds_toArray, List.set_cons_zero, List.set_cons_succ]
            refine ord_take (i := 13) (v := ?_) (by kernel_rfl) rfl (by decide) (by kernel_rfl) (by kernel_rfl) (fun _ _ _ h => h) (Or.inl ⟨by rfl, ?_⟩) hS ?_
            rotate_left
            · intro wz hz; (try dsimp only at hz); (try go_split_ands); go_simp; (try with_reducible rfl)
            try simp only [Act.put, List.getElem_toArray, List.getElem_cons_zero, List.getElem_cons_succ, List.setIfInBounds_toArray, List.set_cons_zero, List.set_cons_succ]
            refine ord_take (i := 15) (v := ?_) (by kernel_rfl) rfl (by decide) (by kernel_rfl) (by kernel_rfl) (fun _ _ _ h => h) (Or.inl ⟨by rfl, ?_⟩) hS ?_
            rotate_left
            · intro wz hz; (try dsimp only at hz); (try go_split_ands); go_simp; (try with_reducible rfl)
            try simp only [Act.put, List.getElem_toArray, List.getElem_cons_zero, List.getElem_cons_succ, List.setIfInBounds_toArray, List.set_cons_zero, List.set_cons_succ]
            refine ord_step (i := 2) rfl (by decide) (by kernel_rfl) (by rfl) (fun K hK => ?_)
            go_simp
            refine E1.out.mono ?_
            rintro e w' ⟨rfl, rfl⟩
            refine hK _ _ hS ?_
            clear hK K
            try simp only [Act.put, List.getElem_toArray, List.getElem_cons_zero, List.getElem_cons_succ, List.setIfInBounds_toArray, List.set_cons_zero, List.set_cons_succ]
            refine ord_step (i := 5) rfl (by decide) (by kernel_rfl) (by rfl) (fun K hK => ?_)
            go_simp
            refine E2.out.mono ?_
            rintro e w' ⟨rfl, rfl⟩
            refine hK _ _ hS ?_
            clear hK K
            try simp only [Act.put, List.getElem_toArray, List.getElem_cons_zero, List.getElem_cons_succ, List.setIfInBounds_toArray, List.set_cons_zero, List.set_cons_succ]
            refine ord_take (i := 6) (v := ?_) (by kernel_rfl) rfl (by decide) (by kernel_rfl) (by kernel_rfl) (fun _ _ _ h => h) (Or.inl ⟨by rfl, ?_⟩) hS ?_
            rotate_left
            · intro wz hz; (try dsimp only at hz); (try go_split_ands); go_simp; (try with_reducible rfl)
            try simp only [Act.put, List.getElem_toArray, List.getElem_cons_zero, List.getElem_cons_succ, List.setIfInBounds_toArray, List.set_cons_zero, List.set_cons_succ]
            refine ord_take (i := 14) (v := ?_) (by kernel_rfl) rfl (by decide) (by kernel_rfl) (by kernel_rfl) (fun _ _ _ h => h) (Or.inl ⟨by rfl, ?_⟩) hS ?_
            rotate_left
            · intro wz hz; (try dsimp only at hz); (try go_split_ands); go_simp; (try with_reducible rfl)
            try simp only [Act.put, List.getElem_toArray, List.getElem_cons_zero, List.getElem_cons_succ, List.setIfInBounds_toArray, List.set_cons_zero, List.set_cons_succ]
            refine ord_rest (by kernel_rfl) ?_
            refine wpAny_take (i := 16) (v := ?_) rfl (by kernel_rfl) (by kernel_rfl) (by kernel_rfl) (fun _ _ _ h => h) (Or.inl ⟨by rfl, ?_⟩) ?_
            rotate_left
            · intro wz; go_simp; (try with_reducible rfl)
            try simp only [Act.put, List.getElem_toArray, List.getElem_cons_zero, List.getElem_cons_succ, List.setIfInBounds_toArray, List.set_cons_zero, List.set_cons_succ]
            refine wpAny_take (i := 17) (v := ?_) rfl (by kernel_rfl) (by kernel_rfl) (by kernel_rfl) (fun _ _ _ h => h) (Or.inl ⟨by rfl, ?_⟩) ?_
            rotate_left
            · intro wz; go_simp; (try with_reducible rfl)
            try simp only [Act.put, List.getElem_toArray, List.getElem_cons_zero, List.getElem_cons_succ, List.setIfInBounds_toArray, List.set_cons_zero, List.set_cons_succ]
            refine wpAny_done (by kernel_rfl) ?_ _
            refine NoPanic.normal ?_
            go_wp2_with fail
            go_roundw
            case rel => exact ⟨k + 1, s / 4294967296, _, by omega, by go_num, by go_num, HQ.out.1, fun h => HQ.out.2 (by omega), Lib.hid (by rw [List.length_set]; exact HL.out), Lib.hid (HD.out.set _ (Nat.mod_lt _ (by decide))), HV3, Lib.hid (fun j hj => by rw [getD_set (by have := HG.out; omega)]; exact HZ.out j (by omega)), HB3, hbel3⟩
            case measure => simp [intOf]; omega
          · have hg1 : ¬ (k : Int) < (m2 : Int) := by omega
            have hg2 : (0 : Int) < (cr : Int) := by omega
            go_wp2_with fail
            refine wp_region_noPanic ?_
            refine ord_begin 16 (fun wx => wx.cell? ⟨w.heap.size, g, none⟩ = some (.int .u32 (ov : Int))) (by kernel_rfl) ?_
            refine ord_take (i := 0) (v := ?_) (by kernel_rfl) rfl (by decide) (by kernel_rfl) (by kernel_rfl) (fun _ _ _ h => h) (Or.inl ⟨by rfl, ?_⟩) hS ?_
            rotate_left
            · intro wz hz; (try dsimp only at hz); (try go_split_ands); go_simp; (try with_reducible rfl)
            try simp only [Act.put, List.getElem_toArray, List.getElem_cons_zero, List.getElem_cons_succ, List.setIfInBounds_toArray, List.set_cons_zero, List.set_cons_succ]
            refine ord_take (i := 1) (v := ?_) (by kernel_rfl) rfl (by decide) (by kernel_rfl) (by kernel_rfl) (fun _ _ _ h => h) (Or.inl ⟨by rfl, ?_⟩) hS ?_
            rotate_left
            · intro wz hz; (try dsimp only at hz); (try go_split_ands); go_simp; (try with_reducible rfl)
            try simp only [Act.put, List.getElem_toArray, List.getElem_cons_zero, List.getElem_cons_succ, List.setIfInBounds_toArray, List.set_cons_zero, List.set_cons_succ]
            refine ord_take (i := 3) (v := ?_) (by kernel_rfl) rfl (by decide) (by kernel_rfl) (by kernel_rfl) (fun _ _ _ h => h) (Or.inl ⟨by rfl, ?_⟩) hS ?_
            rotate_left
            · intro wz hz; (try dsimp only at hz); (try go_split_ands); go_simp; (try with_reducible rfl)
            try simp only [Act.put, List.getElem_toArray, List.getElem_cons_zero, List.getElem_cons_succ, List.setIfInBounds_toArray, List.set_cons_zero, List.set_cons_succ]
            refine ord_take (i := 4) (v := ?_) (by kernel_rfl) rfl (by decide) (by kernel_rfl) (by kernel_rfl) (fun _ _ _ h => h) (Or.inl ⟨by rfl, ?_⟩) hS ?_
            rotate_left
            · intro wz hz; (try dsimp only at hz); (try go_split_ands); go_simp; (try with_reducible rfl)
            try simp only [Act.put, List.getElem_toArray, List.getElem_cons_zero, List.getElem_cons_succ, List.setIfInBounds_toArray, List.set_cons_zero, List.set_cons_succ]
            refine ord_take (i := 7) (v := ?_) (by kernel_rfl) rfl (by decide) (by kernel_rfl) (by kernel_rfl) (fun _ _ _ h => h) (Or.inl ⟨by rfl, ?_⟩) hS ?_
            rotate_left
            · intro wz hz; (try dsimp only at hz); (try go_split_ands); go_simp; (try with_reducible rfl)
            try simp only [Act.put, List.getElem_toArray, List.getElem_cons_zero, List.getElem_cons_succ, List.setIfInBounds_toArray, List.set_cons_zero, List.set_cons_succ]
            refine ord_take (i := 8) (v := ?_) (by kernel_rfl) rfl (by decide) (by kernel_rfl) (by kernel_rfl) (fun _ _ _ h => h) (Or.inl ⟨by rfl, ?_⟩) hS ?_
            rotate_left
            · intro wz hz; (try dsimp only at hz); (try go_split_ands); go_simp; (try with_reducible rfl)
            try simp only [Act.put, List.getElem_toArray, List.getElem_cons_zero, List.getElem_cons_succ, List.setIfInBounds_toArray, List.set_cons_zero, List.set_cons_succ]
            refine ord_take (i := 9) (v := ?_) (by kernel_rfl) rfl (by decide) (by kernel_rfl) (by kernel_rfl) (fun _ _ _ h => h) (Or.inl ⟨by rfl, ?_⟩) hS ?_
            rotate_left
            · intro wz hz; (try dsimp only at hz); (try go_split_ands); go_simp; (try with_reducible rfl)
            try simp only [Act.put, List.getElem_toArray, List.getElem_cons_zero, List.getElem_cons_succ, List.setIfInBounds_toArray, List.set_cons_zero, List.set_cons_succ]
            refine ord_take (i := 10) (v := ?_) (by kernel_rfl) rfl (by decide) (by kernel_rfl) (by kernel_rfl) (fun _ _ _ h => h) (Or.inl ⟨by rfl, ?_⟩) hS ?_
            rotate_left
            · intro wz hz; (try dsimp only at hz); (try go_split_ands); go_simp; (try with_reducible rfl)
            try simp only [Act.put, List.getElem_toArray, List.getElem_cons_zero, List.getElem_cons_succ, List.setIfInBounds_toArray, List.set_cons_zero, List.set_cons_succ]
            refine ord_take (i := 11) (v := ?_) (by kernel_rfl) rfl (by decide) (by kernel_rfl) (by kernel_rfl) (fun _ _ _ h => h) (Or.inl ⟨by rfl, ?_⟩) hS ?_
            rotate_left
            · intro wz hz; (try dsimp only at hz); (try go_split_ands); go_simp; (try with_reducible rfl)
            try simp only [Act.put, List.getElem_toArray, List.getElem_cons_zero, List.getElem_cons_succ, List.setIfInBounds_toArray, List.set_cons_zero, List.set_cons_succ]
            refine ord_take (i := 12) (v := ?_) (by kernel_rfl) rfl (by decide) (by kernel_rfl) (by kernel_rfl) (fun _ _ _ h => h) (Or.inl ⟨by rfl, ?_⟩) hS ?_
            rotate_left
            · intro wz hz; (try dsimp only at hz); (try go_split_ands); go_simp; (try with_reducible rfl)
            try simp only [Act.put, List.getElem_toArray, List.getElem_cons_zero, List.getElem_cons_succ, List.setIfInBounds_toArray, List.set_cons_zero, List.set_cons_succ]
            refine ord_take (i := 13) (v := ?_) (by kernel_rfl) rfl (by decide) (by kernel_rfl) (by kernel_rfl) (fun _ _ _ h => h) (Or.inl ⟨by rfl, ?_⟩) hS ?_
            rotate_left
            · intro wz hz; (try dsimp only at hz); (try go_split_ands); go_simp; (try with_reducible rfl)
            try simp only [Act.put, List.getElem_toArray, List.getElem_cons_zero, List.getElem_cons_succ, List.setIfInBounds_toArray, List.set_cons_zero, List.set_cons_succ]
            refine ord_take (i := 15) (v := ?_) (by kernel_rfl) rfl (by decide) (by kernel_rfl) (by kernel_rfl) (fun _ _ _ h => h) (Or.inl ⟨by rfl, ?_⟩) hS ?_
            rotate_left
            · intro wz hz; (try dsimp only at hz); (try go_split_ands); go_simp; (try with_reducible rfl)
            try simp only [Act.put, List.getElem_toArray, List.getElem_cons_zero, List.getElem_cons_succ, List.setIfInBounds_toArray, List.set_cons_zero, List.set_cons_succ]
            refine ord_step (i := 2) rfl (by decide) (by kernel_rfl) (by rfl) (fun K hK => ?_)
            go_simp
            refine E1.out.mono ?_
            rintro e w' ⟨rfl, rfl⟩
            refine hK _ _ hS ?_
            clear hK K
            try simp only [Act.put, List.getElem_toArray, List.getElem_cons_zero, List.getElem_cons_succ, List.setIfInBounds_toArray, List.set_cons_zero, List.set_cons_succ]
            refine ord_step (i := 5) rfl (by decide) (by kernel_rfl) (by rfl) (fun K hK => ?_)
            go_simp
            refine E2.out.mono ?_
            rintro e w' ⟨rfl, rfl⟩
            refine hK _ _ hS ?_
            clear hK K
            try simp only [Act.put, List.getElem_toArray, List.getElem_cons_zero, List.getElem_cons_succ, List.setIfInBounds_toArray, List.set_cons_zero, List.set_cons_succ]
            refine ord_take (i := 6) (v := ?_) (by kernel_rfl) rfl (by decide) (by kernel_rfl) (by kernel_rfl) (fun _ _ _ h => h) (Or.inl ⟨by rfl, ?_⟩) hS ?_
            rotate_left
            · intro wz hz; (try dsimp only at hz); (try go_split_ands); go_simp; (try with_reducible rfl)
            try simp only [Act.put, List.getElem_toArray, List.getElem_cons_zero, List.getElem_cons_succ, List.setIfInBounds_toArray, List.set_cons_zero, List.set_cons_succ]
            refine ord_take (i := 14) (v := ?_) (by kernel_rfl) rfl (by decide) (by kernel_rfl) (by kernel_rfl) (fun _ _ _ h => h) (Or.inl ⟨by rfl, ?_⟩) hS ?_
            rotate_left
            · intro wz hz; (try dsimp only at hz); (try go_split_ands); go_simp; (try with_reducible rfl)
            try simp only [Act.put, List.getElem_toArray, List.getElem_cons_zero, List.getElem_cons_succ, List.setIfInBounds_toArray, List.set_cons_zero, List.set_cons_succ]
            refine ord_rest (by kernel_rfl) ?_
            refine wpAny_take (i := 16) (v := ?_) rfl (by kernel_rfl) (by kernel_rfl) (by kernel_rfl) (fun _ _ _ h => h) (Or.inl ⟨by rfl, ?_⟩) ?_
            rotate_left
            · intro wz; go_simp; (try with_reducible rfl)
            try simp only [Act.put, List.getElem_toArray, List.getElem_cons_zero, List.getElem_cons_succ, List.setIfInBounds_toArray, List.set_cons_zero, List.set_cons_succ]
            refine wpAny_take (i := 17) (v := ?_) rfl (by kernel_rfl) (by kernel_rfl) (by kernel_rfl) (fun _ _ _ h => h) (Or.inl ⟨by rfl, ?_⟩) ?_
            rotate_left
            · intro wz; go_simp; (try with_reducible rfl)
            try simp only [Act.put, List.getElem_toArray, List.getElem_cons_zero, List.getElem_cons_succ, List.setIfInBounds_toArray, List.set_cons_zero, List.set_cons_succ]
            refine wpAny_done (by kernel_rfl) ?_ _
            refine NoPanic.normal ?_
            go_wp2_with fail
            go_roundw
            case rel => exact ⟨k + 1, s / 4294967296, _, by omega, by go_num, by go_num, HQ.out.1, fun h => HQ.out.2 (by omega), Lib.hid (by rw [List.length_set]; exact HL.out), Lib.hid (HD.out.set _ (Nat.mod_lt _ (by decide))), HV3, Lib.hid (fun j hj => by rw [getD_set (by have := HG.out; omega)]; exact HZ.out j (by omega)), HB3, hbel3⟩
            case measure => simp [intOf]; omega
    · obtain rfl : i = m1 := by omega
      have hg1 : ¬ (i : Int) < (i : Int) := by omega
      have hv : val L = tv l1 * tv l2 := by
        rw [HXY.out.1, HXY.out.2]
        have := HV.out
        rwa [List.take_of_length_le (by rw [R1.out.len]; exact Nat.le_refl _), val_digs, val_digs] at this
      have hr := Rd.of_blk HB.out HD.out
      rw [HL.out] at hr
      have HRR := Lib.hid hr
      have HVV := Lib.hid hv
      clear hr hv
      go_wp2_with fail
      refine (rlow_any _ _ _ _ _ HRR.out (by omega)).mono ?_
      rintro e w2 ⟨A2, n2, c2, rfl, r2, hb2⟩
      have HF : Hid (RetN w (tv l1 * tv l2) (.returned (.slice A2 n2 c2)) w2) := Lib.hid ⟨A2, n2, c2, rfl, by rw [← HVV.out]; exact r2, bltB hbel.out hbel.out.size hb2⟩
      clear r2 hb2
      go_wp2_with fail
      go_ret
      exact HF.out

end Go.Proofs.YthkgeafidbihmaaGreatDoor
