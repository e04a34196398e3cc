/-
  Parts of coins: part, Part, Up.
-/
import Derived.Test.YtoblhbeeimboaaaDoorNum
namespace Go.Proofs.YtoblhbeeimboaaaDoor
open Go.RowKit Go.Shelf
set_option linter.unusedVariables false
set_option linter.unusedSimpArgs false

theorem div64_any (w : World) (hi lo y : Nat) (hl : lo < 18446744073709551616) (hy : y < 18446744073709551616) (hh : hi < y) :
    Calls Tryd.prog 29 #[.int .u64 hi, .int .u64 lo, .int .u64 y] w fun e w' => e = .returned (.tuple #[.int .u64 ((hi * 18446744073709551616 + lo) / y : Nat), .int .u64 ((hi * 18446744073709551616 + lo) % y : Nat)]) ∧ Below w.heap.size w w' := by
  rcases Nat.eq_zero_or_pos hi with h | h
  · subst h
    rw [Nat.zero_mul, Nat.zero_add]
    exact div64_low w lo y hl hy (by omega)
  · exact div64_high w hi lo y hl hy h hh

/-- Is a part told? -/
def partB (a n d : Int) : Bool := coinB a && (decide (0 ≤ n) && (decide (1 ≤ d) && decide (a * n / d ≤ 1125899906842624)))
/-- A part, whether something is left, and whether it is told. -/
def RetP3 (w : World) (a n d : Int) (e : Ending) (w' : World) : Prop :=
  e = .returned (.tuple #[.int .i64 (if partB a n d then a * n / d else 0), .bool (partB a n d && decide (0 < a * n % d)), .bool (partB a n d)]) ∧ Below w.heap.size w w'

theorem partB_no1 {a n d : Int} (h : coinB a = false) : partB a n d = false := by unfold partB; rw [h]; rfl
theorem partB_no2 {a n d : Int} (h : n < 0) : partB a n d = false := by unfold partB; rw [decide_eq_false (by omega : ¬ 0 ≤ n)]; cases coinB a <;> rfl
theorem partB_no3 {a n d : Int} (h : d < 1) : partB a n d = false := by unfold partB; rw [decide_eq_false (by omega : ¬ 1 ≤ d)]; cases coinB a <;> cases decide (0 ≤ n) <;> rfl
theorem RetP3.no {w w' : World} {a n d : Int} (h : partB a n d = false) (hb : Below w.heap.size w w') : RetP3 w a n d (.returned (.tuple #[.int .i64 0, .bool false, .bool false])) w' := ⟨by rw [h]; rfl, hb⟩

theorem too_great {H L k P : Nat} (hk : 1 ≤ k) (hc : k ≤ H) (hP : H * 18446744073709551616 + L = P) (h : P / k ≤ 1125899906842624) : False := by
  have h1 := Nat.div_add_mod P k
  have h2 := Nat.mod_lt P (show 0 < k by omega)
  have h3 := Nat.mul_le_mul_left k h
  omega

set_option maxRecDepth 100000 in
set_option maxHeartbeats 1000000 in
theorem part_any (w : World) (a n d : Int) (hn : n < 9223372036854775808) (hd : d < 9223372036854775808) :
    Calls Tryd.prog 22 #[.int .i64 a, .int .i64 n, .int .i64 d] w (RetP3 w a n d) := by
  rcases h0 : coinB a with _ | _
  · have HF := Lib.hid (partB_no1 (n := n) (d := d) h0)
    go_enter Tryd.func22, Tryd.ntmps22
    go_wp2_with fail
    refine (coins_any _ _).mono ?_
    rintro e w' ⟨rfl, rfl⟩
    rw [h0]
    go_wp2_with fail
    go_ret3
    exact RetP3.no HF.out (Below.refl _ _)
  · by_cases h1 : n < 0
    · have HF := Lib.hid (partB_no2 (a := a) (d := d) h1)
      go_enter Tryd.func22, Tryd.ntmps22
      go_wp2_with fail
      refine (coins_any _ _).mono ?_
      rintro e w' ⟨rfl, rfl⟩
      rw [h0]
      go_wp2_with fail
      go_ret3
      exact RetP3.no HF.out (Below.refl _ _)
    · by_cases h2 : d < 1
      · have HF := Lib.hid (partB_no3 (a := a) (n := n) h2)
        go_enter Tryd.func22, Tryd.ntmps22
        go_wp2_with fail
        refine (coins_any _ _).mono ?_
        rintro e w' ⟨rfl, rfl⟩
        rw [h0]
        go_wp2_with fail
        go_ret3
        exact RetP3.no HF.out (Below.refl _ _)
      · have g0 := coinB_true.1 h0
        obtain ⟨x, rfl⟩ := Int.eq_ofNat_of_zero_le g0.1
        obtain ⟨m, rfl⟩ := Int.eq_ofNat_of_zero_le (show 0 ≤ n by omega)
        obtain ⟨k, rfl⟩ := Int.eq_ofNat_of_zero_le (show 0 ≤ d by omega)
        have hk : 1 ≤ k := by omega
        have wx : IntKind.u64.wrap (x : Int) = (x : Int) := wrap_n (by omega)
        have wm : IntKind.u64.wrap (m : Int) = (m : Int) := wrap_n (by omega)
        have wk : IntKind.u64.wrap (k : Int) = (k : Int) := wrap_n (by omega)
        have HB : Hid (x < 18446744073709551616 ∧ m < 18446744073709551616 ∧ k < 18446744073709551616 ∧ 1 ≤ k) := Lib.hid ⟨by omega, by omega, by omega, hk⟩
        have hO : partB x m k = decide (x * m / k ≤ 1125899906842624) := by
          unfold partB
          rw [h0, decide_eq_true (show (0 : Int) ≤ (m : Int) by omega), decide_eq_true (show (1 : Int) ≤ (k : Int) by omega)]
          simp only [Bool.true_and]
          refine decide_eq_decide.2 ?_
          rw [← Int.natCast_mul, ← Int.natCast_ediv]
          omega
        have hT : ((x : Int) * m / k) = ((x * m / k : Nat) : Int) ∧ ((x : Int) * m % k) = ((x * m % k : Nat) : Int) := ⟨by rw [← Int.natCast_mul, ← Int.natCast_ediv], by rw [← Int.natCast_mul, ← Int.natCast_emod]⟩
        have HO := Lib.hid (And.intro hO hT)
        clear hO hT g0 hn hd hk
        go_enter Tryd.func22, Tryd.ntmps22
        go_wp2_with fail
        refine (coins_any _ _).mono ?_
        rintro e w' ⟨rfl, rfl⟩
        rw [h0]
        go_wp2_with fail
        refine (Tryd.bits_Mul64 x m HB.out.1 HB.out.2.1 _).mono ?_
        rintro e w' ⟨rfl, rfl⟩
        obtain ⟨H, hH⟩ : ∃ z, x * m / 18446744073709551616 = z := ⟨_, rfl⟩
        obtain ⟨L, hL⟩ : ∃ z, x * m % 18446744073709551616 = z := ⟨_, rfl⟩
        rw [hH, hL]
        have hP : H * 18446744073709551616 + L = x * m := by omega
        have hL64 : L < 18446744073709551616 := by omega
        have HP := Lib.hid (And.intro hP hL64)
        clear hH hL hP hL64
        by_cases hc : k ≤ H
        · have HF : Hid (partB x m k = false) := Lib.hid (by
            rw [HO.out.1]
            exact decide_eq_false fun h => too_great HB.out.2.2.2 hc HP.out.1 h)
          go_wp2_with fail
          go_ret3
          exact RetP3.no HF.out (Below.refl _ _)
        · go_wp2_with fail
          refine (div64_any _ H L k HP.out.2 HB.out.2.2.1 (by omega)).mono ?_
          rintro e w1 ⟨rfl, hb⟩
          rw [HP.out.1]
          have hT := HO.out.2
          obtain ⟨q, hq⟩ : ∃ z, x * m / k = z := ⟨_, rfl⟩
          obtain ⟨r, hr⟩ : ∃ z, x * m % k = z := ⟨_, rfl⟩
          rw [hq, hr]
          rw [hq, hr] at hT
          have hO := HO.out.1
          rw [hq] at hO
          have HQ := Lib.hid (And.intro hO hT)
          clear hO hT hq hr HO hc
          by_cases hm : q ≤ 1125899906842624
          · have gm : ¬ (1125899906842624 : Int) < (q : Int) := by omega
            have wq : IntKind.i64.wrap (q : Int) = (q : Int) := IntWalk.i64_in _ (by omega)
            have HF : Hid (partB x m k = true) := Lib.hid (by rw [HQ.out.1, decide_eq_true hm])
            clear hm
            rcases hrr : decide (0 < r) with _ | _
            · have HR := Lib.hid hrr
              have hr0 : r = 0 := by simpa using hrr
              subst hr0
              clear hrr
              go_wp2_with fail
              go_ret3
              exact ⟨by rw [HF.out, HQ.out.2.1, HQ.out.2.2]; rfl, hb⟩
            · have hr0 : 0 < r := by simpa using hrr
              have HR : Hid (decide ((0 : Int) < (r : Int)) = true) := Lib.hid (decide_eq_true (by omega))
              go_wp2_with fail
              go_ret3
              exact ⟨by rw [HF.out, HQ.out.2.1, HQ.out.2.2, HR.out]; rfl, hb⟩
          · have gm : (1125899906842624 : Int) < (q : Int) := by omega
            have HF : Hid (partB x m k = false) := Lib.hid (by rw [HQ.out.1, decide_eq_false hm])
            clear hm
            go_wp2_with fail
            go_ret3
            exact RetP3.no HF.out hb

end Go.Proofs.YtoblhbeeimboaaaDoor
