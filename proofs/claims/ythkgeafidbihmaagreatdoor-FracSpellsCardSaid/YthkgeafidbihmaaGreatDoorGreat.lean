/-
  greatest: the greatest digit that holds; what DivMod asks of a digit.
-/
import Derived.Test.YthkgeafidbihmaaGreatDoorSub
import Derived.Test.YthkgeafidbihmaaGreatDoorMul
import Derived.Laws.BitsAllLaws
import Derived.Laws.DeepBits32
namespace Go.Proofs.YthkgeafidbihmaaGreatDoor
open Go.RowKit
set_option linter.unusedVariables false
set_option linter.unusedSimpArgs false
attribute [local go_sem ↓] Go.wp_at_zero Go.wp_at_succ

theorem or_add (d b i : Nat) (hb : b = 2 ^ i) (h : d % (2 * b) = 0) : d ||| b = d + b := by
  subst hb
  have e : d = 2 ^ (i + 1) * (d / 2 ^ (i + 1)) := by
    have := Nat.div_add_mod d (2 ^ (i + 1))
    rw [Nat.pow_succ, Nat.mul_comm (2 ^ i) 2] at this
    rw [Nat.pow_succ, Nat.mul_comm (2 ^ i) 2]
    omega
  rw [e]
  exact (Nat.two_pow_add_eq_or_of_lt (i := i + 1) (b := 2 ^ i) (by rw [Nat.pow_succ]; have := Nat.two_pow_pos i; omega) _).symm

theorem great_step {Y R d b : Nat} (hb : 0 < b) (h1 : d % (2 * b) = 0) : d % b = 0 ∧ (d + b) % b = 0 := by
  have : d % b = 0 := by
    have h := Nat.mod_mul_left_mod d 2 b
    rw [h1] at h
    simpa using h.symm
  exact ⟨this, by rw [Nat.add_mod_right]; exact this⟩

theorem tv_single {d : Nat} : tv [d] = d := by
  unfold tv tk rightB
  rcases Nat.eq_zero_or_pos d with h | h
  · subst h; rfl
  · have : (d != 0) = true := by simp; omega
    simp [this, val]

set_option maxRecDepth 100000 in
set_option maxHeartbeats 1000000 in
/-- What DivMod asks of a digit: is the divisor, so many times, no more than what is left? -/
theorem holds_any (w : World) (bB rB : Nat) (A1 A2 : Option Addr) (n1 c1 n2 c2 Y R d : Nat) (hbB : Boxed w bB 22 (.slice A1 n1 c1)) (hrB : Boxed w rB 22 (.slice A2 n2 c2)) (r1 : Rd w w.heap.size A1 n1 c1 (digs Y)) (r2 : Rd w w.heap.size A2 n2 c2 (digs R))
    (hn1 : n1 ≤ 65536) (hn2 : n2 ≤ 65536) (hd : d < 4294967296) :
    Calls Tryz.prog 65 #[.int .u32 (d : Int), .pointer (some ⟨bB, 0, none⟩), .pointer (some ⟨rB, 0, none⟩)] w fun e w' => e = .returned (.bool (decide (Y * d ≤ R))) ∧ Below w.heap.size w w' := by
  have HD : Hid (decide (cmpI ((Y : Int) * (d : Int)) (R : Int) ≤ 0) = decide (Y * d ≤ R)) := Lib.hid (by
    rw [← Int.natCast_mul, cmpI_nat]
    by_cases h : Y * d ≤ R
    · rw [decide_eq_true h, decide_eq_true (by split <;> (try split) <;> omega)]
    · rw [decide_eq_false h, decide_eq_false (by rw [if_neg (by omega), if_pos (by omega)]; omega)])
  obtain ⟨res, hres⟩ : ∃ b, decide (Y * d ≤ R) = b := ⟨_, rfl⟩
  rw [hres] at HD ⊢
  clear hres
  go_enter Tryz.func65, Tryz.ntmps65
  go_wp2_with fail
  have hcb := hbB.cell
  have hcr := hrB.cell
  have hlb := hbB.lt
  have hlr := hrB.lt
  have hS : w.drew.cell? ⟨bB, 0, none⟩ = some (.slice A1 n1 c1) ∧ w.drew.cell? ⟨rB, 0, none⟩ = some (.slice A2 n2 c2) := ⟨hcb, hcr⟩
  have hb1 : Below w.heap.size w (w.alloc (.cells #[.int .u32 (d : Int)] 38)).drew := ((Below.refl _ _).alloc (Nat.le_refl _) _).drew
  have hS1 : (w.alloc (.cells #[.int .u32 (d : Int)] 38)).drew.cell? ⟨bB, 0, none⟩ = some (.slice A1 n1 c1) ∧ (w.alloc (.cells #[.int .u32 (d : Int)] 38)).drew.cell? ⟨rB, 0, none⟩ = some (.slice A2 n2 c2) :=
    ⟨(hb1.cell (p := ⟨bB, 0, none⟩) hlb).trans hcb, (hb1.cell (p := ⟨rB, 0, none⟩) hlr).trans hcr⟩
  have q1 : Rd (w.alloc (.cells #[.int .u32 (d : Int)] 38)).drew (w.alloc (.cells #[.int .u32 (d : Int)] 38)).drew.heap.size A1 n1 c1 (digs Y) := r1.on hb1
  have q3 : Rd (w.alloc (.cells #[.int .u32 (d : Int)] 38)).drew (w.alloc (.cells #[.int .u32 (d : Int)] 38)).drew.heap.size (some ⟨w.heap.size, 0, none⟩) 1 1 [d] :=
    Rd.of_blk (t := 38) (l := [d]) (Blk.drew (Blk.new w _ _)) (Dig.cons hd Dig.nil)
  have HQ := Lib.hid (And.intro q1 (And.intro q3 r2))
  clear q1 q3 r1 r2 hbB hrB
  refine ord_begin 7 (fun wx => wx.cell? ⟨bB, 0, none⟩ = some (.slice A1 n1 c1) ∧ wx.cell? ⟨rB, 0, none⟩ = some (.slice A2 n2 c2)) (by kernel_rfl) ?_
  refine ord_take (i := 0) (v := ?_) (by kernel_rfl) rfl (by decide) (by kernel_rfl) (by kernel_rfl) (fun _ _ _ h => h) (Or.inl ⟨by rfl, ?_⟩) hS ?_
  rotate_left
  · intro wz hz; (try dsimp only at hz); (try go_split_ands); go_simp; (try with_reducible rfl)
  try simp only [Act.put, List.getElem_toArray, List.getElem_cons_zero, List.getElem_cons_succ, List.setIfInBounds_toArray, List.set_cons_zero, List.set_cons_succ]
  refine ord_take (i := 1) (v := ?_) (by kernel_rfl) rfl (by decide) (by kernel_rfl) (by kernel_rfl) (fun _ _ _ h => h) (Or.inl ⟨by rfl, ?_⟩) hS ?_
  rotate_left
  · intro wz hz; (try dsimp only at hz); (try go_split_ands); go_simp; (try with_reducible rfl)
  try simp only [Act.put, List.getElem_toArray, List.getElem_cons_zero, List.getElem_cons_succ, List.setIfInBounds_toArray, List.set_cons_zero, List.set_cons_succ]
  refine ord_take (i := 4) (v := ?_) (by kernel_rfl) rfl (by decide) (by kernel_rfl) (by kernel_rfl) (fun _ _ _ h => h) (Or.inl ⟨by rfl, ?_⟩) hS ?_
  rotate_left
  · intro wz hz; (try dsimp only at hz); (try go_split_ands); go_simp; (try with_reducible rfl)
  try simp only [Act.put, List.getElem_toArray, List.getElem_cons_zero, List.getElem_cons_succ, List.setIfInBounds_toArray, List.set_cons_zero, List.set_cons_succ]
  refine ord_step (i := 2) rfl (by decide) (by kernel_rfl) (by rfl) (fun K hK => ?_)
  go_simp
  refine hK _ _ hS1 ?_
  clear hK K
  try simp only [Act.put, List.getElem_toArray, List.getElem_cons_zero, List.getElem_cons_succ, List.setIfInBounds_toArray, List.set_cons_zero, List.set_cons_succ]
  refine ord_step (i := 3) rfl (by decide) (by kernel_rfl) (by rfl) (fun K hK => ?_)
  go_simp
  refine (mul_any _ A1 _ n1 c1 1 1 _ _ HQ.out.1 HQ.out.2.1 hn1 (by omega)).mono ?_
  rintro e w1 ⟨A3, n3, c3, rfl, q3, hb2⟩
  rw [tv_digs, tv_single] at q3
  have hb3 : Below w.heap.size w w1 := bltB hb1 (by simp [World.drew]) hb2
  have hS2 : w1.cell? ⟨bB, 0, none⟩ = some (.slice A1 n1 c1) ∧ w1.cell? ⟨rB, 0, none⟩ = some (.slice A2 n2 c2) := ⟨(hb3.cell (p := ⟨bB, 0, none⟩) hlb).trans hcb, (hb3.cell (p := ⟨rB, 0, none⟩) hlr).trans hcr⟩
  refine hK _ _ hS2 ?_
  clear hK K
  try simp only [Act.put, List.getElem_toArray, List.getElem_cons_zero, List.getElem_cons_succ, List.setIfInBounds_toArray, List.set_cons_zero, List.set_cons_succ]
  have hn3 : n3 ≤ 1048576 := by rw [← q3.len]; exact digs_mul_len HQ.out.1.len hn1 hd
  refine ord_step (i := 5) rfl (by decide) (by kernel_rfl) (by rfl) (fun K hK => ?_)
  go_simp
  refine (cmp_any w1 A3 A2 n3 c3 n2 c2 _ _ q3 (HQ.out.2.2.on hb3) hn3 (by omega)).mono ?_
  rintro e w2 ⟨rfl, hb4⟩
  rw [tv_digs, tv_digs]
  have hb5 : Below w.heap.size w w2 := bltB hb3 hb3.size hb4
  have hS3 : w2.cell? ⟨bB, 0, none⟩ = some (.slice A1 n1 c1) ∧ w2.cell? ⟨rB, 0, none⟩ = some (.slice A2 n2 c2) := ⟨(hb5.cell (p := ⟨bB, 0, none⟩) hlb).trans hcb, (hb5.cell (p := ⟨rB, 0, none⟩) hlr).trans hcr⟩
  refine hK _ _ hS3 ?_
  clear hK K
  try simp only [Act.put, List.getElem_toArray, List.getElem_cons_zero, List.getElem_cons_succ, List.setIfInBounds_toArray, List.set_cons_zero, List.set_cons_succ]
  refine ord_take (i := 6) (v := ?_) (by kernel_rfl) rfl (by decide) (by kernel_rfl) (by kernel_rfl) (fun _ _ _ h => h) (Or.inl ⟨by rfl, ?_⟩) hS3 ?_
  rotate_left
  · intro wz hz; (try dsimp only at hz); (try go_split_ands); go_simp; (try with_reducible rfl)
  try simp only [Act.put, List.getElem_toArray, List.getElem_cons_zero, List.getElem_cons_succ, List.setIfInBounds_toArray, List.set_cons_zero, List.set_cons_succ]
  refine ord_rest (by kernel_rfl) ?_
  refine wpAny_take (i := 7) (v := ?_) rfl (by kernel_rfl) (by kernel_rfl) (by kernel_rfl) (fun _ _ _ h => h) (Or.inl ⟨by rfl, ?_⟩) ?_
  rotate_left
  · intro wz; go_simp; (try with_reducible rfl)
  try simp only [Act.put, List.getElem_toArray, List.getElem_cons_zero, List.getElem_cons_succ, List.setIfInBounds_toArray, List.set_cons_zero, List.set_cons_succ]
  refine wpAny_done (by kernel_rfl) ?_ _
  go_wp2_with fail
  go_ret
  exact ⟨by rw [← HD.out]; rfl, hb5⟩

set_option maxRecDepth 100000 in
set_option maxHeartbeats 1000000 in
theorem great_any (w : World) (p1 p2 : Value) (Y R : Nat) (hY : 0 < Y) (hR : R < Y * 4294967296)
    (hcl : ∀ (d : Nat) (W : World), d < 4294967296 → Below w.heap.size w W → Calls Tryz.prog 65 #[.int .u32 (d : Int), p1, p2] W fun e W' => e = .returned (.bool (decide (Y * d ≤ R))) ∧ Below W.heap.size W W') :
    Calls Tryz.prog 64 #[.func (.func 65) #[] #[p1, p2]] w fun e w' => e = .returned (.int .u32 ((R / Y : Nat) : Int)) ∧ Below w.heap.size w w' := by
  have HC := Lib.hid hcl
  clear hcl
  go_enter Tryz.func64, Tryz.ntmps64
  go_wp2_with fail
  go_loopw [3, 6] (fun dv iv wr => ∃ (i d : Nat), i ≤ 32 ∧ iv = .int .i64 i ∧ dv = .int .u32 (d : Int) ∧ Hid (d + 2 ^ (32 - i) ≤ 4294967296) ∧ Hid (d % 2 ^ (32 - i) = 0) ∧ Hid (Y * d ≤ R) ∧ Hid (R < Y * (d + 2 ^ (32 - i))) ∧ Below w.heap.size w wr) (fun _ iv _ => 32 - (intOf iv).toNat)
  case atStart => exact ⟨0, 0, by omega, rfl, rfl, by simp [Hid], by simp [Hid], by simp [Hid], by simpa [Hid] using hR, Below.refl _ _⟩
  case round =>
    obtain ⟨i, d, hi, rfl, rfl, H0, H1, H2, H3, hbel⟩ := hrel
    by_cases hlt : i < 32
    · obtain ⟨b, hb⟩ : ∃ b, b = 2 ^ (31 - i) := ⟨_, rfl⟩
      have hbp : 0 < b := by rw [hb]; exact Nat.two_pow_pos _
      have h2b : 2 ^ (32 - i) = 2 * b := by rw [hb, show 32 - i = (31 - i) + 1 by omega, Nat.pow_succ, Nat.mul_comm]
      have h0 := H0.out
      have h1 := H1.out
      have h3 := H3.out
      rw [h2b] at h0 h1 h3
      have hbit : (2 : Int) ^ (31 - i) % 4294967296 = (b : Int) := by
        have : ((2 ^ (31 - i) : Nat) : Int) = (2 : Int) ^ (31 - i) := by simp
        rw [← this, ← hb]
        omega
      have hdb : d + b < 4294967296 := by omega
      have hor : bits .or .u32 (d : Int) (b : Int) = ((d + b : Nat) : Int) := by
        rw [u32_or_nat d b (by omega) (by omega), or_add d b _ hb h1]
      obtain ⟨s1, s2⟩ := great_step (Y := Y) (R := R) hbp h1
      obtain ⟨db, hdbe⟩ : ∃ n, d + b = n := ⟨_, rfl⟩
      rw [hdbe] at hor hdb s2
      have HB := Lib.hid (And.intro hb hdbe)
      have HF := Lib.hid (And.intro h0 (And.intro h3 (And.intro s1 s2)))
      clear hb hdbe h0 h1 h2b h3 s1 s2
      have HA : Hid (Y * db ≤ R ∨ R < Y * db) := Lib.hid (by omega)
      go_wp2_with fail
      refine (HC.out db _ hdb hbel).mono ?_
      rintro e w1 ⟨rfl, hb1⟩
      have hbel1 := bltB hbel hbel.size hb1
      have e31 : 2 ^ (32 - (i + 1)) = b := by rw [HB.out.1, show 32 - (i + 1) = 31 - i by omega]
      have HE := Lib.hid e31
      clear e31
      by_cases hh : Y * db ≤ R
      · have HH := Lib.hid hh
        rw [decide_eq_true hh]
        clear hh
        go_wp2_with fail
        go_roundw
        case rel => exact ⟨i + 1, db, by omega, by go_num, rfl, by rw [HE.out]; have := HF.out.1; have := HB.out.2; simp only [Hid]; omega, by rw [HE.out]; exact HF.out.2.2.2, HH, by rw [HE.out]; have := HF.out.2.1; rw [show d + 2 * b = db + b by have := HB.out.2; omega] at this; exact this, hbel1⟩
        case measure => simp [intOf]; omega
      · have HH := Lib.hid hh
        rw [decide_eq_false hh]
        clear hh
        go_wp2_with fail
        go_roundw
        case rel => exact ⟨i + 1, d, by omega, by go_num, rfl, by rw [HE.out]; have := HF.out.1; simp only [Hid]; omega, by rw [HE.out]; exact HF.out.2.2.1, H2, by rw [HE.out, HB.out.2]; have := HH.out; simp only [Hid]; omega, hbel1⟩
        case measure => simp [intOf]; omega
    · obtain rfl : i = 32 := by omega
      have hq : R / Y = d := by
        have h2 := H2.out
        have h3 := H3.out
        simp only [Nat.sub_self, Nat.pow_zero] at h3
        exact Nat.div_eq_of_lt_le (by rw [Nat.mul_comm]; exact h2) (by rw [Nat.mul_comm]; exact h3)
      have HQ := Lib.hid hq
      clear hq
      go_wp2_with fail
      go_ret
      exact ⟨by rw [HQ.out]; rfl, hbel⟩

end Go.Proofs.YthkgeafidbihmaaGreatDoor
