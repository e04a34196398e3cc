/-
  The document's parts of coins, bit by bit.
-/
import Derived.Test.YtoblhbeeimboaaaDoorPart2
namespace Go.Proofs.YtoblhbeeimboaaaDoor
open Go.RowKit Go.Shelf
set_option linter.unusedVariables false
set_option linter.unusedSimpArgs false

theorem and_one_i64 (c : Int) : bits BinOp.and IntKind.i64 c 1 = c % 2 := by
  show IntKind.i64.wrap ((BitVec.ofInt 64 c &&& BitVec.ofInt 64 1).toNat : Int) = _
  have h1 : (BitVec.ofInt 64 1).toNat = 1 := by decide
  rw [BitVec.toNat_and, h1, Nat.and_one_is_mod, BitVec.toNat_ofInt]
  have h2 : (((c % ((2 ^ 64 : Nat) : Int)).toNat % 2 : Nat) : Int) = c % 2 := by omega
  rw [h2]
  exact IntWalk.i64_in _ (by omega)

/-- What the document's parts hands back. -/
def RetR3 (w : World) (a n d : Int) (e : Ending) (w' : World) : Prop :=
  e = .returned (.tuple #[.int .i64 (if partB a n d then a * n / d else 0), .int .i64 (if partB a n d then a * n % d else 0), .bool (partB a n d)]) ∧ Below w.heap.size w w'
theorem RetR3.no {w w' : World} {a n d : Int} (h : partB a n d = false) (hb : Below w.heap.size w w') : RetR3 w a n d (.returned (.tuple #[.int .i64 0, .int .i64 0, .bool false])) w' := ⟨by rw [h]; rfl, hb⟩

theorem part_step0 {A m q k r : Nat} (hk : 0 < k) (h : A * m = q * k + r) : (2 * A) * m = (2 * q + 2 * r / k + 2 * r % k / k) * k + 2 * r % k % k := by
  have h1 := Nat.div_add_mod (2 * r) k
  have h2 := Nat.div_add_mod (2 * r % k) k
  rw [Nat.mul_assoc, h, Nat.add_mul, Nat.add_mul, Nat.mul_assoc]
  rw [Nat.mul_comm (2 * r / k) k, Nat.mul_comm (2 * r % k / k) k]
  omega
theorem part_step1 {A m q k r : Nat} (hk : 0 < k) (h : A * m = q * k + r) : (2 * A + 1) * m = (2 * q + 2 * r / k + m / k + (2 * r % k + m % k) / k) * k + (2 * r % k + m % k) % k := by
  have h1 := Nat.div_add_mod (2 * r) k
  have h2 := Nat.div_add_mod (2 * r % k + m % k) k
  have h3 := Nat.div_add_mod m k
  rw [Nat.add_mul, Nat.one_mul, Nat.mul_assoc, h, Nat.add_mul, Nat.add_mul, Nat.add_mul, Nat.mul_assoc]
  rw [Nat.mul_comm (2 * r / k) k, Nat.mul_comm (m / k) k, Nat.mul_comm ((2 * r % k + m % k) / k) k]
  omega
theorem half_two (x i : Nat) : x / 2 ^ i = 2 * (x / 2 ^ (i + 1)) + x / 2 ^ i % 2 := by
  rw [Nat.pow_succ, ← Nat.div_div_eq_div_mul]
  omega
theorem too_much {x i m q k r : Nat} (hk : 0 < k) (h : x / 2 ^ i * m = q * k + r) (hq : 1125899906842624 < q) : ¬ x * m / k ≤ 1125899906842624 := by
  have h1 : x / 2 ^ i * m ≤ x * m := Nat.mul_le_mul_right m (Nat.div_le_self x _)
  have h2 : q ≤ x * m / k := by
    rw [Nat.le_div_iff_mul_le hk]
    omega
  omega
theorem quo_le {r k : Nat} (hr : r < k) : 2 * r / k ≤ 1 := by
  have : 2 * r / k < 2 := by rw [Nat.div_lt_iff_lt_mul (by omega)]; omega
  omega
theorem quo_le2 {a b k : Nat} (ha : a < k) (hb : b < k) : (a + b) / k ≤ 1 := by
  have : (a + b) / k < 2 := by rw [Nat.div_lt_iff_lt_mul (by omega)]; omega
  omega

set_option maxRecDepth 100000 in
set_option maxHeartbeats 1000000 in
theorem rparts_good (w : World) (x m k : Nat) (hx : x ≤ 1125899906842624) (hm : m < 9223372036854775808) (hk1 : 1 ≤ k) (hk : k < 9223372036854775808) :
    Calls Tryd.prog 23 #[.int .i64 x, .int .i64 m, .int .i64 k] w (RetR3 w x m k) := by
  have h0 : coinB x = true := coinB_true.2 (by omega)
  have wm : IntKind.u64.wrap (m : Int) = (m : Int) := wrap_n (by omega)
  have wk : IntKind.u64.wrap (k : Int) = (k : Int) := wrap_n (by omega)
  have g1 : ¬ ((m : Int) < 0) := by omega
  have g2 : ¬ ((k : Int) < 1) := by omega
  have g3 : ((k : Int) == 0) = false := by simp; omega
  have HB := Lib.hid (And.intro hx (And.intro hm (And.intro hk1 hk)))
  clear hx hm hk1 hk
  go_enter Tryd.func23, Tryd.ntmps23
  go_wp2_with fail
  refine (rcoins_any _ _).mono ?_
  rintro e w' ⟨rfl, rfl⟩
  rw [h0]
  go_wp2_with fail
  go_loopw [9, 10, 13] (fun qv rv kv wr => ∃ (q r j : Nat), qv = .int .u64 q ∧ rv = .int .u64 r ∧ kv = .int .i64 ((j : Int) - 1) ∧ Hid (j ≤ 51 ∧ x / 2 ^ j * m = q * k + r ∧ r < k ∧ q ≤ 1125899906842624) ∧ wr = w) (fun _ _ kv _ => (intOf kv + 1).toNat)
  case atStart => exact ⟨0, 0, 51, rfl, rfl, rfl, Lib.hid ⟨Nat.le_refl _, by rw [Nat.div_eq_of_lt (by have := HB.out.1; omega)]; simp, by have := HB.out.2.2.1; omega, by omega⟩, rfl⟩
  case round =>
    obtain ⟨q, r, j, rfl, rfl, rfl, hI, rfl⟩ := hrel
    rcases Nat.eq_zero_or_pos j with hj | hj
    · subst hj
      have wq : IntKind.i64.wrap (q : Int) = (q : Int) := IntWalk.i64_in _ (by have := hI.out; omega)
      have wr : IntKind.i64.wrap (r : Int) = (r : Int) := IntWalk.i64_in _ (by have := hI.out; have := HB.out; omega)
      have HF : Hid (partB x m k = true ∧ (x : Int) * m / k = (q : Int) ∧ (x : Int) * m % k = (r : Int)) := Lib.hid (by
        obtain ⟨_, h1, h2, h3⟩ := hI.out
        rw [Nat.pow_zero, Nat.div_one] at h1
        have hq : x * m / k = q := by
          rw [h1, Nat.add_comm, Nat.add_mul_div_right _ _ HB.out.2.2.1, Nat.div_eq_of_lt h2, Nat.zero_add]
        have hr : x * m % k = r := by
          rw [h1, Nat.add_comm, Nat.add_mul_mod_self_right, Nat.mod_eq_of_lt h2]
        have e1 : (x : Int) * m / k = (q : Int) := by rw [← Int.natCast_mul, ← Int.natCast_ediv, hq]
        have e2 : (x : Int) * m % k = (r : Int) := by rw [← Int.natCast_mul, ← Int.natCast_emod, hr]
        refine ⟨?_, e1, e2⟩
        unfold partB
        rw [h0, decide_eq_true (show (0 : Int) ≤ (m : Int) by omega), decide_eq_true (show (1 : Int) ≤ (k : Int) by have := HB.out; omega), e1, decide_eq_true (by omega)]
        rfl)
      go_wp2_with fail
      go_ret3
      exact ⟨by rw [HF.out.1, HF.out.2.1, HF.out.2.2]; rfl, Below.refl _ _⟩
    · obtain ⟨i, rfl⟩ : ∃ i, j = i + 1 := ⟨j - 1, by omega⟩
      obtain ⟨hj51, hA, hrk, hqm⟩ := hI.out
      have hk0 : 0 < k := HB.out.2.2.1
      have hk63 := HB.out.2.2.2
      have hm63 := HB.out.2.1
      have gi : (0 : Int) ≤ ((i + 1 : Nat) : Int) - 1 := by omega
      have wi : wrap64 ((i : Int) - 1) = (i : Int) - 1 := by unfold wrap64; omega
      have hh := half_two x i
      obtain ⟨X, hX⟩ : ∃ z, x / 2 ^ i = z := ⟨_, rfl⟩
      rw [hX] at hh
      have e0 : (x : Int) / 2 ^ min i 64 = (X : Int) := by
        rw [Nat.min_eq_left (by omega), ← hX]
        push_cast
        rfl
      have eb := and_one_i64 (X : Int)
      obtain ⟨q2, h2q⟩ : ∃ z, 2 * q = z := ⟨_, rfl⟩
      obtain ⟨r2, h2r⟩ : ∃ z, 2 * r = z := ⟨_, rfl⟩
      have e1 : IntKind.u64.wrap (2 * (q : Int)) = (q2 : Int) := by rw [show 2 * (q : Int) = (q2 : Int) by omega]; exact wrap_n (by omega)
      have e2 : IntKind.u64.wrap (2 * (r : Int)) = (r2 : Int) := by rw [show 2 * (r : Int) = (r2 : Int) by omega]; exact wrap_n (by omega)
      have hc1 := quo_le hrk
      have hr3l := Nat.mod_lt (2 * r) hk0
      rw [h2r] at hc1 hr3l
      obtain ⟨c1, hd1⟩ : ∃ z, r2 / k = z := ⟨_, rfl⟩
      obtain ⟨r3, hd2⟩ : ∃ z, r2 % k = z := ⟨_, rfl⟩
      rw [hd1] at hc1
      rw [hd2] at hr3l
      have d1a : (r2 : Int) / (k : Int) = (c1 : Int) := by rw [← hd1]; rfl
      have d1b : (r2 : Int).tdiv (k : Int) = (c1 : Int) := by rw [Int.tdiv_eq_ediv_of_nonneg (by omega)]; exact d1a
      have d2a : (r2 : Int) % (k : Int) = (r3 : Int) := by rw [← hd2]; rfl
      have d2b : (r2 : Int).tmod (k : Int) = (r3 : Int) := by rw [Int.tmod_eq_emod_of_nonneg (by omega)]; exact d2a
      have wc1 : IntKind.u64.wrap (c1 : Int) = (c1 : Int) := wrap_n (by omega)
      obtain ⟨q3, h3q⟩ : ∃ z, q2 + c1 = z := ⟨_, rfl⟩
      have e3 : IntKind.u64.wrap ((q2 : Int) + (c1 : Int)) = (q3 : Int) := by rw [← Int.natCast_add, h3q]; exact wrap_n (by omega)
      rcases Nat.mod_two_eq_zero_or_one X with hb | hb
      · have eb : bits BinOp.and IntKind.i64 (X : Int) 1 = 0 := by rw [eb]; omega
        obtain ⟨c2, hd3⟩ : ∃ z, r3 / k = z := ⟨_, rfl⟩
        obtain ⟨r5, hd4⟩ : ∃ z, r3 % k = z := ⟨_, rfl⟩
        have hc2 : c2 = 0 := by rw [← hd3]; exact Nat.div_eq_of_lt hr3l
        have d3a : (r3 : Int) / (k : Int) = (c2 : Int) := by rw [← hd3]; rfl
        have d3b : (r3 : Int).tdiv (k : Int) = (c2 : Int) := by rw [Int.tdiv_eq_ediv_of_nonneg (by omega)]; exact d3a
        have d4a : (r3 : Int) % (k : Int) = (r5 : Int) := by rw [← hd4]; rfl
        have d4b : (r3 : Int).tmod (k : Int) = (r5 : Int) := by rw [Int.tmod_eq_emod_of_nonneg (by omega)]; exact d4a
        have wc2 : IntKind.u64.wrap (c2 : Int) = (c2 : Int) := wrap_n (by omega)
        obtain ⟨q5, h5q⟩ : ∃ z, q3 + c2 = z := ⟨_, rfl⟩
        have e5 : IntKind.u64.wrap ((q3 : Int) + (c2 : Int)) = (q5 : Int) := by rw [← Int.natCast_add, h5q]; exact wrap_n (by omega)
        have hS : X * m = q5 * k + r5 := by
          have := part_step0 hk0 hA
          rw [h2q, h2r, hd1, hd2, hd3, hd4, h3q, h5q] at this
          rw [hb, Nat.add_zero] at hh
          rw [hh]
          exact this
        have hr5 : r5 < k := by rw [← hd4]; exact Nat.mod_lt _ hk0
        have HS := Lib.hid (And.intro hS (And.intro hr5 (And.intro hj51 hX)))
        clear hI hA hrk hqm hk0 hk63 hm63 hh hX h2q h2r hc1 hr3l hd1 hd2 h3q hb hd3 hd4 hc2 h5q hS hr5 hj51
        by_cases hq5 : 1125899906842624 < q5
        · have gq : decide ((1125899906842624 : Int) < (q5 : Int)) = true := decide_eq_true (by omega)
          have HF : Hid (partB x m k = false) := Lib.hid (by
            have h1 := HS.out.1
            rw [← HS.out.2.2.2] at h1
            have h2 := too_much HB.out.2.2.1 h1 hq5
            unfold partB
            rw [show decide ((x : Int) * m / k ≤ 1125899906842624) = false from decide_eq_false (by rw [← Int.natCast_mul, ← Int.natCast_ediv]; omega)]
            simp)
          clear hq5
          go_wp2_with fail
          go_ret3
          exact RetR3.no HF.out (Below.refl _ _)
        · have gq : decide ((1125899906842624 : Int) < (q5 : Int)) = false := decide_eq_false (by omega)
          have HQ := Lib.hid hq5
          clear hq5
          go_wp2_with fail
          go_roundw
          case rel => exact ⟨q5, r5, i, rfl, rfl, by rw [show wrap64 ((i : Int) - 1) = (i : Int) - 1 by unfold wrap64; have := HS.out.2.2.1; omega], Lib.hid ⟨by have := HS.out.2.2.1; omega, by rw [HS.out.2.2.2]; exact HS.out.1, HS.out.2.1, Nat.le_of_not_lt HQ.out⟩, by first | rfl | trivial⟩
          case measure => simp [intOf]; omega
      · have eb : bits BinOp.and IntKind.i64 (X : Int) 1 = 1 := by rw [eb]; omega
        obtain ⟨mq, hd5⟩ : ∃ z, m / k = z := ⟨_, rfl⟩
        obtain ⟨mr, hd6⟩ : ∃ z, m % k = z := ⟨_, rfl⟩
        have hmq : mq ≤ m := by rw [← hd5]; exact Nat.div_le_self _ _
        have hmr : mr < k := by rw [← hd6]; exact Nat.mod_lt _ hk0
        have d5a : (m : Int) / (k : Int) = (mq : Int) := by rw [← hd5]; rfl
        have d5b : (m : Int).tdiv (k : Int) = (mq : Int) := by rw [Int.tdiv_eq_ediv_of_nonneg (by omega)]; exact d5a
        have d6a : (m : Int) % (k : Int) = (mr : Int) := by rw [← hd6]; rfl
        have d6b : (m : Int).tmod (k : Int) = (mr : Int) := by rw [Int.tmod_eq_emod_of_nonneg (by omega)]; exact d6a
        have wmq : IntKind.u64.wrap (mq : Int) = (mq : Int) := wrap_n (by omega)
        obtain ⟨q4, h4q⟩ : ∃ z, q3 + mq = z := ⟨_, rfl⟩
        have e4 : IntKind.u64.wrap ((q3 : Int) + (mq : Int)) = (q4 : Int) := by rw [← Int.natCast_add, h4q]; exact wrap_n (by omega)
        obtain ⟨r4, h4r⟩ : ∃ z, r3 + mr = z := ⟨_, rfl⟩
        have e6 : IntKind.u64.wrap ((r3 : Int) + (mr : Int)) = (r4 : Int) := by rw [← Int.natCast_add, h4r]; exact wrap_n (by omega)
        have hc2 := quo_le2 hr3l hmr
        rw [h4r] at hc2
        obtain ⟨c2, hd3⟩ : ∃ z, r4 / k = z := ⟨_, rfl⟩
        obtain ⟨r5, hd4⟩ : ∃ z, r4 % k = z := ⟨_, rfl⟩
        rw [hd3] at hc2
        have d3a : (r4 : Int) / (k : Int) = (c2 : Int) := by rw [← hd3]; rfl
        have d3b : (r4 : Int).tdiv (k : Int) = (c2 : Int) := by rw [Int.tdiv_eq_ediv_of_nonneg (by omega)]; exact d3a
        have d4a : (r4 : Int) % (k : Int) = (r5 : Int) := by rw [← hd4]; rfl
        have d4b : (r4 : Int).tmod (k : Int) = (r5 : Int) := by rw [Int.tmod_eq_emod_of_nonneg (by omega)]; exact d4a
        have wc2 : IntKind.u64.wrap (c2 : Int) = (c2 : Int) := wrap_n (by omega)
        obtain ⟨q5, h5q⟩ : ∃ z, q4 + c2 = z := ⟨_, rfl⟩
        have e5 : IntKind.u64.wrap ((q4 : Int) + (c2 : Int)) = (q5 : Int) := by rw [← Int.natCast_add, h5q]; exact wrap_n (by omega)
        have hS : X * m = q5 * k + r5 := by
          have := part_step1 hk0 hA
          rw [h2q, h2r, hd1, hd2, hd5, hd6, h4r, hd3, hd4, h3q, h4q, h5q] at this
          rw [hb] at hh
          rw [hh]
          exact this
        have hr5 : r5 < k := by rw [← hd4]; exact Nat.mod_lt _ hk0
        have HS := Lib.hid (And.intro hS (And.intro hr5 (And.intro hj51 hX)))
        clear hI hA hrk hqm hk0 hk63 hm63 hh hX h2q h2r hc1 hr3l hd1 hd2 h3q hb hd3 hd4 hc2 h5q hS hr5 hj51 hd5 hd6 hmq hmr h4q h4r
        by_cases hq5 : 1125899906842624 < q5
        · have gq : decide ((1125899906842624 : Int) < (q5 : Int)) = true := decide_eq_true (by omega)
          have HF : Hid (partB x m k = false) := Lib.hid (by
            have h1 := HS.out.1
            rw [← HS.out.2.2.2] at h1
            have h2 := too_much HB.out.2.2.1 h1 hq5
            unfold partB
            rw [show decide ((x : Int) * m / k ≤ 1125899906842624) = false from decide_eq_false (by rw [← Int.natCast_mul, ← Int.natCast_ediv]; omega)]
            simp)
          clear hq5
          go_wp2_with fail
          go_ret3
          exact RetR3.no HF.out (Below.refl _ _)
        · have gq : decide ((1125899906842624 : Int) < (q5 : Int)) = false := decide_eq_false (by omega)
          have HQ := Lib.hid hq5
          clear hq5
          go_wp2_with fail
          go_roundw
          case rel => exact ⟨q5, r5, i, rfl, rfl, by rw [show wrap64 ((i : Int) - 1) = (i : Int) - 1 by unfold wrap64; have := HS.out.2.2.1; omega], Lib.hid ⟨by have := HS.out.2.2.1; omega, by rw [HS.out.2.2.2]; exact HS.out.1, HS.out.2.1, Nat.le_of_not_lt HQ.out⟩, by first | rfl | trivial⟩
          case measure => simp [intOf]; omega

end Go.Proofs.YtoblhbeeimboaaaDoor
