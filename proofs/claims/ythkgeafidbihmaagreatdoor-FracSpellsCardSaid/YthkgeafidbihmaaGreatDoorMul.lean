/-
  Mul: the digits of the product.
-/
import Derived.Test.YthkgeafidbihmaaGreatDoorMake
namespace Go.Proofs.YthkgeafidbihmaaGreatDoor
open Go.RowKit
set_option linter.unusedVariables false
set_option linter.unusedSimpArgs false

theorem val_set {L : List Nat} {k : Nat} (d : Nat) (h : k < L.length) : val (L.set k d) + 4294967296 ^ k * L.getD k 0 = val L + 4294967296 ^ k * d := by
  induction L generalizing k with
  | nil => simp at h
  | cons x L ih =>
    cases k with
    | zero => simp [val]; omega
    | succ k =>
      have := ih (k := k) (by simpa using h)
      simp only [List.set_cons_succ, val, List.getD_cons_succ, Nat.pow_succ]
      have e1 : 4294967296 ^ k * 4294967296 * L.getD k 0 = 4294967296 * (4294967296 ^ k * L.getD k 0) := by
        rw [Nat.mul_comm (4294967296 ^ k) 4294967296, Nat.mul_assoc]
      have e2 : 4294967296 ^ k * 4294967296 * d = 4294967296 * (4294967296 ^ k * d) := by
        rw [Nat.mul_comm (4294967296 ^ k) 4294967296, Nat.mul_assoc]
      rw [e1, e2]
      omega

theorem mul_in {L b : List Nat} {i k cr V0 x : Nat} (hl : i + k < L.length) (h : val L + 4294967296 ^ (i + k) * cr = V0 + x * (4294967296 ^ i * val (b.take k))) (s : Nat) (hs : s = x * b.getD k 0 + L.getD (i + k) 0 + cr) :
    val (L.set (i + k) (s % 4294967296)) + 4294967296 ^ (i + (k + 1)) * (s / 4294967296) = V0 + x * (4294967296 ^ i * val (b.take (k + 1))) := by
  have h1 := val_set (s % 4294967296) hl
  have e : s = s % 4294967296 + 4294967296 * (s / 4294967296) := by omega
  have e2 : 4294967296 ^ (i + k) * s = 4294967296 ^ (i + k) * (s % 4294967296) + 4294967296 ^ (i + (k + 1)) * (s / 4294967296) := by
    rw [show i + (k + 1) = (i + k) + 1 by omega, Nat.pow_succ, Nat.mul_assoc, ← Nat.mul_add, ← e]
  rw [hs, Nat.mul_add, Nat.mul_add] at e2
  rw [← hs] at e2
  rw [val_take_succ, Nat.mul_add, Nat.mul_add]
  have e3 : x * (4294967296 ^ i * (4294967296 ^ k * b.getD k 0)) = 4294967296 ^ (i + k) * (x * b.getD k 0) := by
    rw [Nat.pow_add]; grind
  rw [e3]
  omega

theorem mul_out {L a b : List Nat} {i nb cr x : Nat} (hb : b.length = nb) (hl : i + nb < L.length) (hz : L.getD (i + nb) 0 = 0) (hx : x = a.getD i 0)
    (h : val L + 4294967296 ^ (i + nb) * cr = val (a.take i) * val b + x * (4294967296 ^ i * val (b.take nb))) : val (L.set (i + nb) cr) = val (a.take (i + 1)) * val b := by
  have h1 := val_set cr hl
  rw [hz] at h1
  have hb' : b.take nb = b := List.take_of_length_le (by omega)
  rw [hb'] at h
  rw [val_take_succ, ← hx, Nat.add_mul]
  have e : 4294967296 ^ i * x * val b = x * (4294967296 ^ i * val b) := by rw [Nat.mul_comm (4294967296 ^ i) x, Nat.mul_assoc]
  rw [e]
  omega

theorem getD_set {L : List Nat} {k j d : Nat} (h : j ≠ k) : (L.set k d).getD j 0 = L.getD j 0 := by
  simp [List.getD_eq_getElem?_getD, List.getElem?_set, Ne.symm h]
theorem Dig.set {L : List Nat} (h : Dig L) (k : Nat) {d : Nat} (hd : d < 4294967296) : Dig (L.set k d) := fun x hx => by
  rcases List.mem_or_eq_of_mem_set hx with hx | hx
  · exact h x hx
  · omega
theorem Dig.zeros (n : Nat) : Dig (List.replicate n 0) := fun x hx => by
  have := (List.mem_replicate.1 hx).2
  omega

theorem prod_lt {x y : Nat} (hx : x < 4294967296) (hy : y < 4294967296) : x * y ≤ 18446744065119617025 := by
  have := Nat.mul_le_mul (show x ≤ 4294967295 by omega) (show y ≤ 4294967295 by omega)
  omega

set_option maxRecDepth 100000 in
set_option maxHeartbeats 1000000 in
theorem mul_any (w : World) (A1 A2 : Option Addr) (n1 c1 n2 c2 : Nat) (l1 l2 : List Nat) (h1 : Rd w w.heap.size A1 n1 c1 l1) (h2 : Rd w w.heap.size A2 n2 c2 l2) (hn1 : n1 ≤ 65536) (hn2 : n2 ≤ 65536) :
    Calls Tryz.prog 38 #[.slice A1 n1 c1, .slice A2 n2 c2] w (RetN w (tv l1 * tv l2)) := by
  go_enter Tryz.func38, Tryz.ntmps38
  go_wp2_with fail
  refine (taken_any _ _ A1 n1 c1 l1 h1 (by omega)).mono ?_
  rintro e w' ⟨⟨P1, m1, d1, rfl, hm1, r1⟩, rfl⟩
  go_wp2_with fail
  refine (taken_any _ _ A2 n2 c2 l2 h2 (by omega)).mono ?_
  rintro e w' ⟨⟨P2, m2, d2, rfl, hm2, r2⟩, rfl⟩
  have hm1 : m1 ≤ 65536 := by omega
  have hm2 : m2 ≤ 65536 := by omega
  clear h1 h2
  generalize tv l1 = X1 at *
  generalize tv l2 = X2 at *
  have hfin : ∀ (L : List Nat), val L = val ((digs X1).take m1) * val (digs X2) → ∀ (e : Ending) (w1 : World), HasD w1 w1.heap.size (m1 + m2) (val L) e → Below w.heap.size w w1 → RetN w (X1 * X2) e w1 := by
    intro L hv e w1 hh hb
    rw [List.take_of_length_le (by rw [r1.len]; exact Nat.le_refl _), val_digs, val_digs] at hv
    rw [hv] at hh
    exact hh.ret hb
  have HF := Lib.hid hfin
  have HR := Lib.hid (And.intro r1.at_ (And.intro r2.at_ (And.intro (dig_digs X1) (And.intro (dig_digs X2) r2.len))))
  clear hfin r1 r2 hn1 hn2
  generalize digs X1 = a at *
  generalize digs X2 = b at *
  have hmk := make_u32 ((m1 : Int) + (m2 : Int)) (m1 + m2) (by omega) (by omega)
  go_wp2_with fail
  go_loopw [24] (fun iv wr => ∃ (i : Nat) (L : List Nat), i ≤ m1 ∧ iv = .int .i64 i ∧ Hid (L.length = m1 + m2) ∧ Hid (Dig L) ∧ Hid (val L = val (a.take i) * val b) ∧ Hid (∀ j, i + m2 ≤ j → L.getD j 0 = 0) ∧
      Hid (Blk wr w.heap.size 38 (cells L)) ∧ Below w.heap.size w wr) (fun iv _ => m1 - (intOf iv).toNat)
  case atStart => exact ⟨0, List.replicate (m1 + m2) 0, Nat.zero_le _, rfl, by simp [Hid], Dig.zeros _, by simp [Hid, val, val_zeros], Lib.hid (fun j _ => by simp [List.getD_eq_getElem?_getD, List.getElem?_replicate]; split <;> rfl), Blk.new _ _ _, (Below.refl _ _).alloc (Nat.le_refl _) _⟩
  case round =>
    obtain ⟨i, L, hi, rfl, HL, HD, HV, HZ, HB, hbel⟩ := hrel
    by_cases hlt : i < m1
    · obtain ⟨ab, ao, rfl, hab, hac⟩ := HR.out.1 (by omega)
      have hcx := (hbel.cell (p := ⟨ab, ao + i, none⟩) hab).trans (hac i hlt)
      obtain ⟨x, hx⟩ : ∃ x, a.getD i 0 = x := ⟨_, rfl⟩
      have hxl : x < 4294967296 := by rw [← hx]; exact HR.out.2.2.1.getD i
      rw [hx] at hcx
      have HX := Lib.hid hx
      clear hx hac
      obtain ⟨wo, rfl⟩ : ∃ wo : World, wo = wr := ⟨_, rfl⟩
      go_wp2_with fail
      go_loopw [8, 31] (fun cv kv wr => ∃ (k cr : Nat) (M : List Nat), k ≤ m2 ∧ kv = .int .i64 k ∧ cv = .int .u64 (cr : Int) ∧ cr < 4294967296 ∧ Hid (M.length = m1 + m2) ∧ Hid (Dig M) ∧
          Hid (val M + 4294967296 ^ (i + k) * cr = val (a.take i) * val b + x * (4294967296 ^ i * val (b.take k))) ∧ Hid (∀ j, i + m2 ≤ j → M.getD j 0 = 0) ∧ Hid (Blk wr w.heap.size 38 (cells M)) ∧ Below w.heap.size w wr) (fun _ kv _ => m2 - (intOf kv).toNat)
      case atStart => exact ⟨0, 0, L, Nat.zero_le _, rfl, rfl, by decide, HL, HD, by simpa [Hid, val] using HV.out, HZ, HB, hbel⟩
      case round =>
        obtain ⟨k, cr, M, hk, rfl, rfl, hcr, HL, HD, HV2, HZ, HB, hbel⟩ := hrel
        by_cases hkt : k < m2
        · obtain ⟨bb, bo, rfl, hbb, hbc⟩ := HR.out.2.1 (by omega)
          have hcy := (hbel.cell (p := ⟨bb, bo + k, none⟩) hbb).trans (hbc k hkt)
          obtain ⟨y, hy⟩ : ∃ y, b.getD k 0 = y := ⟨_, rfl⟩
          have hyl : y < 4294967296 := by rw [← hy]; exact HR.out.2.2.2.1.getD k
          rw [hy] at hcy
          have hb0 : wr.cell? ⟨w.heap.size, i + k, none⟩ = some (.int .u32 (M.getD (i + k) 0 : Nat)) := by
            rw [HB.out.cell, cells_at _ (by rw [HL.out]; omega)]
          have hf0 := HB.out.frozen (i + k)
          obtain ⟨o, ho⟩ : ∃ o, M.getD (i + k) 0 = o := ⟨_, rfl⟩
          have hol : o < 4294967296 := by rw [← ho]; exact HD.out.getD _
          rw [ho] at hb0
          obtain ⟨p, hp⟩ : ∃ p, p = x * y := ⟨_, rfl⟩
          have hpl : p ≤ 18446744065119617025 := by rw [hp]; exact prod_lt hxl hyl
          have hxy : (x : Int) * (y : Int) = (p : Int) := by rw [hp, Int.natCast_mul]
          have HV3 := Lib.hid (mul_in (b := b) (by rw [HL.out]; omega) HV2.out (p + o + cr) (by rw [hy, ho, hp]))
          have HB2 : Hid (Blk (wr.setCell ⟨w.heap.size, i + k, none⟩ (.int .u32 (((p : Int) + (o : Int) + (cr : Int)) % 4294967296))) w.heap.size 38 (cells (M.set (i + k) ((p + o + cr) % 4294967296)))) := by
            have := HB.out.set_ (i + k) (.int .u32 (((p + o + cr) % 4294967296 : Nat) : Int))
            rw [cells_set] at this
            rw [show (((p : Int) + (o : Int) + (cr : Int)) % 4294967296) = (((p + o + cr) % 4294967296 : Nat) : Int) by omega]
            exact this
          have hbel2 := hbel.setCell (p := ⟨w.heap.size, i + k, none⟩) (Nat.le_refl _) (.int .u32 (((p : Int) + (o : Int) + (cr : Int)) % 4294967296))
          have hq : (p + o + cr) / 4294967296 < 4294967296 := by omega
          clear hy hbc ho hp
          go_wp2_with fail
          go_roundw
          case rel => exact ⟨k + 1, (p + o + cr) / 4294967296, _, by omega, by go_num, by go_num, hq, Lib.hid (by rw [List.length_set]; exact HL.out), Lib.hid (HD.out.set _ (Nat.mod_lt _ (by decide))), HV3, Lib.hid (fun j hj => by rw [getD_set (by omega)]; exact HZ.out j hj), HB2, hbel2⟩
          case measure => simp [intOf]; omega
        · obtain rfl : k = m2 := by omega
          have hb0 : wr.cell? ⟨w.heap.size, i + k, none⟩ = some (.int .u32 (M.getD (i + k) 0 : Nat)) := by
            rw [HB.out.cell, cells_at _ (by rw [HL.out]; omega)]
          rw [HZ.out _ (Nat.le_refl _)] at hb0
          have hf0 := HB.out.frozen (i + k)
          have HV3 := Lib.hid (mul_out HR.out.2.2.2.2 (by rw [HL.out]; omega) (HZ.out _ (Nat.le_refl _)) HX.out.symm HV2.out)
          have HB2 : Hid (Blk (wr.setCell ⟨w.heap.size, i + k, none⟩ (.int .u32 (cr : Int))) w.heap.size 38 (cells (M.set (i + k) cr))) := by
            have := HB.out.set_ (i + k) (.int .u32 (cr : Int))
            rw [cells_set] at this
            exact this
          have hbel2 := hbel.setCell (p := ⟨w.heap.size, i + k, none⟩) (Nat.le_refl _) (.int .u32 (cr : Int))
          go_wp2_with fail
          go_roundw
          case rel => exact ⟨i + 1, _, by omega, by go_num, Lib.hid (by rw [List.length_set]; exact HL.out), Lib.hid (HD.out.set _ hcr), HV3, Lib.hid (fun j hj => by rw [getD_set (by omega)]; exact HZ.out j (by omega)), HB2, hbel2⟩
          case measure => simp [intOf]; omega
    · obtain rfl : i = m1 := by omega
      have hr := Rd.of_blk HB.out HD.out
      rw [HL.out] at hr
      have HRR := Lib.hid hr
      have HG := Lib.hid (HF.out L HV.out)
      clear hr
      go_wp2_with fail
      refine (low_any _ _ _ _ _ _ HRR.out (by omega)).mono ?_
      rintro e w1 ⟨⟨P, mm, dd, rfl, hmm, rr⟩, rfl⟩
      go_wp2_with fail
      go_ret
      exact HG.out _ _ ⟨_, _, _, rfl, hmm, rr⟩ hbel

end Go.Proofs.YthkgeafidbihmaaGreatDoor
