/-
  bits.Div64: the quotient of two digits by one, and what is left.
-/
import Derived.Test.YtoblhbeeimboaaaDoorGuess
import Derived.Test.YtoblhbeeimboaaaDoorShelf
import Derived.WalkKit
import Derived.Tactics
import Derived.Deep.DeepCutAuto
import Derived.Deep.CutBlock
import Derived.Laws.Bits64b
import Derived.Lib.Hide
import Derived.IntWalk
namespace Go.Proofs.YtoblhbeeimboaaaDoor
open Go.RowKit Go.Shelf
set_option linter.unusedVariables false
set_option linter.unusedSimpArgs false

set_option maxRecDepth 100000 in
theorem div64_low (w : World) (lo y : Nat) (hl : lo < 18446744073709551616) (hy : y < 18446744073709551616) (h0 : 0 < y) :
    Calls Tryd.prog 29 #[.int .u64 (0 : Nat), .int .u64 lo, .int .u64 y] w fun e w' => e = .returned (.tuple #[.int .u64 (lo / y : Nat), .int .u64 (lo % y : Nat)]) ∧ Below w.heap.size w w' := by
  have g1 : ¬ ((y : Int) = 0) := by omega
  have g2 : ¬ ((y : Int) ≤ ((0 : Nat) : Int)) := by omega
  go_enter Tryd.func29, Tryd.ntmps29
  have g3 : IntKind.u64.wrap ((lo : Int) / (y : Int)) = ((lo / y : Nat) : Int) := by
    have h := Nat.div_le_self lo y
    rw [← Int.natCast_ediv]
    generalize lo / y = z at *
    exact IntWalk.u64_in _ (by omega)
  have g4 : (lo : Int) % (y : Int) = ((lo % y : Nat) : Int) := rfl
  go_wp2_with fail
  go_region
  go_wp2_with fail
  go_ret2
  exact ⟨rfl, (Below.refl _ _).drew⟩

theorem wrap_n {a : Nat} (ha : a < 18446744073709551616) : IntKind.u64.wrap (a : Int) = (a : Int) := by rw [IntKind.wrap_u64]; omega
theorem wrap_m (a : Nat) : IntKind.u64.wrap (a : Int) = ((a % 18446744073709551616 : Nat) : Int) := by rw [IntKind.wrap_u64]; omega
theorem mask_n {a : Nat} (ha : a < 18446744073709551616) : bits .and .u64 (a : Int) 4294967295 = ((a % 4294967296 : Nat) : Int) := by
  have h := bits_and_u64_nat a 4294967295 ha (by omega)
  have e : a &&& 4294967295 = a % 4294967296 := Nat.and_two_pow_sub_one_eq_mod a 32
  rw [e] at h
  exact h

set_option maxRecDepth 100000 in
set_option maxHeartbeats 4000000 in
theorem div64_high (w : World) (hi lo y : Nat) (hl : lo < 18446744073709551616) (hy : y < 18446744073709551616) (h0 : 0 < hi) (hh : hi < y) :
    Calls Tryd.prog 29 #[.int .u64 hi, .int .u64 lo, .int .u64 y] w fun e w' => e = .returned (.tuple #[.int .u64 ((hi * 18446744073709551616 + lo) / y : Nat), .int .u64 ((hi * 18446744073709551616 + lo) % y : Nat)]) ∧ Below w.heap.size w w' := by
  have g1 : ¬ ((y : Int) = 0) := by omega
  have g2 : ¬ ((y : Int) ≤ (hi : Int)) := by omega
  have g3 : ¬ ((hi : Int) = 0) := by omega
  go_enter Tryd.func29, Tryd.ntmps29
  go_wp2_with fail
  refine (Tryd.bits_LeadingZeros64 _ _ (by omega) (by omega)).mono ?_
  rintro e w' ⟨rfl, rfl⟩
  obtain ⟨hb1, hb2, hY1, hY2⟩ := norm_y (show 0 < y by omega) hy
  obtain ⟨s, hs⟩ : ∃ s : Nat, 64 - Lib.bitLen y = s := ⟨_, rfl⟩
  rw [show 64 - (Lib.bitLen (y : Int).toNat : Int) = (s : Int) by rw [Int.toNat_natCast]; omega]
  rw [hs] at hY1 hY2
  have hs64 : s ≤ 63 := by omega
  clear hs hb1 hb2
  have hhY : hi * 2 ^ s < y * 2 ^ s := Nat.mul_lt_mul_of_pos_right hh (Nat.pow_pos (by decide))
  obtain ⟨hor, hN, hlo2⟩ := norm_u (hi := hi) (lo := lo) (s := s) (by omega) hl (by omega)
  have hsum : hi * 2 ^ s + lo / 2 ^ (64 - s) < y * 2 ^ s := by
    have h1 : hi + 1 ≤ y := hh
    have h2 := Nat.mul_le_mul_right (2 ^ s) h1
    rw [Nat.add_mul, Nat.one_mul] at h2
    omega
  have e1 : IntKind.u64.wrap ((y : Int) * 2 ^ s) = ((y * 2 ^ s : Nat) : Int) := by rw [show (y : Int) * 2 ^ s = ((y * 2 ^ s : Nat) : Int) by push_cast; rfl]; exact wrap_n hY2
  have e2 : IntKind.u64.wrap ((hi : Int) * 2 ^ s) = ((hi * 2 ^ s : Nat) : Int) := by rw [show (hi : Int) * 2 ^ s = ((hi * 2 ^ s : Nat) : Int) by push_cast; rfl]; exact wrap_n (by omega)
  have e3 : IntKind.u64.wrap ((lo : Int) * 2 ^ s) = ((lo * 2 ^ s % 18446744073709551616 : Nat) : Int) := by rw [show (lo : Int) * 2 ^ s = ((lo * 2 ^ s : Nat) : Int) by push_cast; rfl]; exact wrap_m _
  have e4 : bits .or .u64 ((hi * 2 ^ s : Nat) : Int) ((lo : Int) / 2 ^ (64 - s)) = ((hi * 2 ^ s + lo / 2 ^ (64 - s) : Nat) : Int) := by
    rw [show (lo : Int) / 2 ^ (64 - s) = ((lo / 2 ^ (64 - s) : Nat) : Int) by push_cast; rfl, bits_or_u64_nat _ _ (by omega) (by omega), hor]
  have hYs : Hid (y * 2 ^ s = y * 2 ^ s) := Lib.hid rfl
  obtain ⟨Y, hY⟩ : ∃ Y, y * 2 ^ s = Y := ⟨_, rfl⟩
  obtain ⟨H, hH⟩ : ∃ H, hi * 2 ^ s = H := ⟨_, rfl⟩
  obtain ⟨U, hU⟩ : ∃ U, H + lo / 2 ^ (64 - s) = U := ⟨_, rfl⟩
  obtain ⟨L, hL⟩ : ∃ L, lo * 2 ^ s % 18446744073709551616 = L := ⟨_, rfl⟩
  have hL64 : L < 18446744073709551616 := by omega
  rw [hY] at hY1 hY2 hsum e1
  rw [hH] at hsum e2 e4 hN
  rw [hU] at hsum e4 hN
  rw [hL] at e3 hN
  have HK := Lib.hid (And.intro hN hY)
  clear hN hY hH hU hL hor hhY hYs hlo2
  obtain ⟨u1, hu1⟩ : ∃ u, L / 4294967296 = u := ⟨_, rfl⟩
  obtain ⟨u0, hu0⟩ : ∃ u, L % 4294967296 = u := ⟨_, rfl⟩
  obtain ⟨n1, hn1⟩ : ∃ u, Y / 4294967296 = u := ⟨_, rfl⟩
  obtain ⟨n0, hn0⟩ : ∃ u, Y % 4294967296 = u := ⟨_, rfl⟩
  have e5 : bits .and .u64 (Y : Int) 4294967295 = (n0 : Int) := by rw [mask_n hY2, hn0]
  have e6 : bits .and .u64 (L : Int) 4294967295 = (u0 : Int) := by rw [mask_n hL64, hu0]
  have e7 : (Y : Int) / 4294967296 = (n1 : Int) := by omega
  have e8 : (L : Int) / 4294967296 = (u1 : Int) := by omega
  have hYn : Y = n1 * 4294967296 + n0 := by omega
  have hLn : L = u1 * 4294967296 + u0 := by omega
  have b1 : u1 < 4294967296 := by omega
  have b2 : u0 < 4294967296 := by omega
  have b3 : n0 < 4294967296 := by omega
  have b4 : n1 < 4294967296 := by omega
  have b5 : 2147483648 ≤ n1 := by omega
  have HN := Lib.hid (And.intro hYn hLn)
  have hUY : U < n1 * 4294967296 + n0 := by omega
  clear hu1 hu0 hn1 hn0 hYn hLn
  have G0 := guess_begin hUY b1 b5 b4 b3
  have gz : ¬ ((n1 : Int) = 0) := by omega
  obtain ⟨q, hq⟩ : ∃ q, U / n1 = q := ⟨_, rfl⟩
  have e9 : (U : Int) / (n1 : Int) = (q : Int) := by rw [← hq]; rfl
  rw [hq] at G0
  clear hq
  obtain ⟨p0, hp0⟩ : ∃ z, q * n1 = z := ⟨_, rfl⟩
  obtain ⟨r0, hr0⟩ : ∃ z, U - p0 = z := ⟨_, rfl⟩
  rw [hp0, hr0] at G0
  have hG0 := G0.eq
  rw [hp0] at hG0
  have e10 : IntKind.u64.wrap ((q : Int) * (n1 : Int)) = (p0 : Int) := by
    rw [← Int.natCast_mul, hp0]
    exact wrap_n (by omega)
  have e11 : IntKind.u64.wrap ((U : Int) - (p0 : Int)) = (r0 : Int) := by
    rw [show (U : Int) - (p0 : Int) = (r0 : Int) by omega]
    exact wrap_n (by have := G0.r; omega)
  have ew : IntKind.u64.wrap (q : Int) = (q : Int) := wrap_n (by have := G0.le; omega)
  have G1 := Lib.hid G0
  clear G0 hp0 hr0 hG0
  have G0 := G1
  clear G1
  have HH := Lib.hid (And.intro hh (And.intro hl hy))
  have BB := Lib.hid (And.intro b1 (And.intro b2 (And.intro b3 (And.intro b4 (And.intro b5 (And.intro hUY hY2))))))
  clear hsum hY1 hh b1 b2 b3 b4 b5 hUY hl hY2 hL64 h0
  go_upto_block 0 with fail
  go_cut [15, 16] (fun qv rv wc => (∃ r : Nat, rv = .int .u64 r) ∧ qv = .int .u64 ((U * 4294967296 + u1) / (n1 * 4294967296 + n0) : Nat) ∧ wc = w')
  case first =>
    go_wp2_with fail
    go_loopw [15, 16] (fun qv rv wr => ∃ (q r : Nat), qv = .int .u64 q ∧ rv = .int .u64 r ∧ Hid (Guess U u1 n1 n0 q r) ∧ wr = w') (fun qv _ _ => (intOf qv).toNat)
    case atStart => exact ⟨q, r0, rfl, rfl, G0, rfl⟩
    case round =>
      obtain ⟨q, r, rfl, rfl, hG, rfl⟩ := hrel
      clear G0 e9 e10 e11 ew
      obtain ⟨b1, b2, b3, b4, b5, _, hY2⟩ := BB.out
      have hUY2 : U < n1 * 4294967296 + n0 := BB.out.2.2.2.2.2.1
      have hgle := hG.out.le
      have hgr := hG.out.r
      obtain ⟨z, hz⟩ : ∃ z, r + n1 = z := ⟨_, rfl⟩
      have wA : IntKind.u64.wrap ((r : Int) + (n1 : Int)) = (z : Int) := by rw [← Int.natCast_add, hz]; exact wrap_n (by omega)
      have hgo : (4294967296 ≤ q ∨ 4294967296 * r + u1 < q * n0) ∨ (q < 4294967296 ∧ q * n0 ≤ 4294967296 * r + u1) := by omega
      rcases hgo with hgo | hgo
      · have HGO := Lib.hid hgo
        have HG2 := Lib.hid (hG.out.great hUY2 b1 hgo)
        by_cases hq : 4294967296 ≤ q
        · have gq : decide ((4294967296 : Int) ≤ (q : Int)) = true := decide_eq_true (by omega)
          clear hgo hq
          have hq1 : 0 < q := Nat.lt_of_le_of_lt (Nat.zero_le _) HG2.out
          obtain ⟨p, hp⟩ : ∃ p, q - 1 = p := ⟨_, rfl⟩
          have wB : IntKind.u64.wrap ((q : Int) - 1) = (p : Int) := by rw [show (q : Int) - 1 = (p : Int) by omega]; exact wrap_n (by omega)
          have HP := Lib.hid (And.intro hp (And.intro hz hq1))
          by_cases hr : 4294967296 ≤ z
          · have gr : decide ((4294967296 : Int) ≤ (z : Int)) = true := decide_eq_true (by omega)
            have HR := Lib.hid hr
            clear hr hp hz b1 b2 b3 b4 b5 hY2 hUY2 hgle hgr hq1
            go_wp2_with fail
            go_meet
            case rel => exact ⟨⟨_, rfl⟩, by rw [← HP.out.1, hG.out.over BB.out.2.2.2.2.2.1 BB.out.1 BB.out.2.2.1 HGO.out (by rw [HP.out.2.1]; exact HR.out)], rfl⟩
          · have gr : decide ((4294967296 : Int) ≤ (z : Int)) = false := decide_eq_false (by omega)
            have HR := Lib.hid hr
            clear hr hp hz b1 b2 b3 b4 b5 hY2 hUY2 hgle hgr hq1
            go_wp2_with fail
            go_roundw
            case rel => exact ⟨p, z, rfl, rfl, Lib.hid (by rw [← HP.out.1, ← HP.out.2.1]; exact hG.out.next BB.out.2.2.2.2.2.1 BB.out.1 HGO.out (by have := HR.out; have := HP.out.2.1; omega)), by first | rfl | trivial⟩
            case measure => have h1 := HP.out; simp [intOf]; omega
        · have gq : decide ((4294967296 : Int) ≤ (q : Int)) = false := decide_eq_false (by omega)
          obtain ⟨Pn, hPn⟩ : ∃ z, q * n0 = z := ⟨_, rfl⟩
          have hPb : Pn < 18446744073709551616 := by have h1 : q * n0 ≤ 4294967295 * 4294967295 := Nat.mul_le_mul (by omega) (by omega); omega
          have wP : IntKind.u64.wrap ((q : Int) * (n0 : Int)) = (Pn : Int) := by rw [← Int.natCast_mul, hPn]; exact wrap_n hPb
          obtain ⟨rR, hrR⟩ : ∃ z, 4294967296 * r = z := ⟨_, rfl⟩
          obtain ⟨rS, hrS⟩ : ∃ z, rR + u1 = z := ⟨_, rfl⟩
          have wR : IntKind.u64.wrap (4294967296 * (r : Int)) = (rR : Int) := by rw [show 4294967296 * (r : Int) = (rR : Int) by omega]; exact wrap_n (by omega)
          have wS : IntKind.u64.wrap ((rR : Int) + (u1 : Int)) = (rS : Int) := by rw [← Int.natCast_add, hrS]; exact wrap_n (by omega)
          have gs : decide (rS < Pn) = true := decide_eq_true (by omega)
          clear hgo hq hPn hPb hrR hrS
          have hq1 : 0 < q := Nat.lt_of_le_of_lt (Nat.zero_le _) HG2.out
          obtain ⟨p, hp⟩ : ∃ p, q - 1 = p := ⟨_, rfl⟩
          have wB : IntKind.u64.wrap ((q : Int) - 1) = (p : Int) := by rw [show (q : Int) - 1 = (p : Int) by omega]; exact wrap_n (by omega)
          have HP := Lib.hid (And.intro hp (And.intro hz hq1))
          by_cases hr : 4294967296 ≤ z
          · have gr : decide ((4294967296 : Int) ≤ (z : Int)) = true := decide_eq_true (by omega)
            have HR := Lib.hid hr
            clear hr hp hz b1 b2 b3 b4 b5 hY2 hUY2 hgle hgr hq1
            go_wp2_with fail
            go_meet
            case rel => exact ⟨⟨_, rfl⟩, by rw [← HP.out.1, hG.out.over BB.out.2.2.2.2.2.1 BB.out.1 BB.out.2.2.1 HGO.out (by rw [HP.out.2.1]; exact HR.out)], rfl⟩
          · have gr : decide ((4294967296 : Int) ≤ (z : Int)) = false := decide_eq_false (by omega)
            have HR := Lib.hid hr
            clear hr hp hz b1 b2 b3 b4 b5 hY2 hUY2 hgle hgr hq1
            go_wp2_with fail
            go_roundw
            case rel => exact ⟨p, z, rfl, rfl, Lib.hid (by rw [← HP.out.1, ← HP.out.2.1]; exact hG.out.next BB.out.2.2.2.2.2.1 BB.out.1 HGO.out (by have := HR.out; have := HP.out.2.1; omega)), by first | rfl | trivial⟩
            case measure => have h1 := HP.out; simp [intOf]; omega
      · obtain ⟨hq, hle⟩ := hgo
        have HD := Lib.hid (hG.out.done (by omega) hle)
        have gq : decide ((4294967296 : Int) ≤ (q : Int)) = false := decide_eq_false (by omega)
        obtain ⟨Pn, hPn⟩ : ∃ z, q * n0 = z := ⟨_, rfl⟩
        have hPb : Pn < 18446744073709551616 := by have h1 : q * n0 ≤ 4294967295 * 4294967295 := Nat.mul_le_mul (by omega) (by omega); omega
        have wP : IntKind.u64.wrap ((q : Int) * (n0 : Int)) = (Pn : Int) := by rw [← Int.natCast_mul, hPn]; exact wrap_n hPb
        obtain ⟨rR, hrR⟩ : ∃ z, 4294967296 * r = z := ⟨_, rfl⟩
        obtain ⟨rS, hrS⟩ : ∃ z, rR + u1 = z := ⟨_, rfl⟩
        have wR : IntKind.u64.wrap (4294967296 * (r : Int)) = (rR : Int) := by rw [show 4294967296 * (r : Int) = (rR : Int) by omega]; exact wrap_n (by omega)
        have wS : IntKind.u64.wrap ((rR : Int) + (u1 : Int)) = (rS : Int) := by rw [← Int.natCast_add, hrS]; exact wrap_n (by omega)
        have gs : decide (rS < Pn) = false := decide_eq_false (by omega)
        clear hq hle hPn hPb hrR hrS hz b1 b2 b3 b4 b5 hY2 hUY2 hgle hgr
        go_wp2_with fail
        go_meet
        case rel => exact ⟨⟨_, rfl⟩, by rw [← HD.out], rfl⟩
  case rest =>
    obtain ⟨⟨rx, rfl⟩, rfl, rfl⟩ := hcut
    clear e9 e10 e11 ew G0
    obtain ⟨b1, b2, b3, b4, b5, hUY, hY2⟩ := BB.out
    have hQlt := Q_lt hUY b1
    obtain ⟨Q1, hQ1⟩ : ∃ z, (U * 4294967296 + u1) / (n1 * 4294967296 + n0) = z := ⟨_, rfl⟩
    rw [hQ1] at hQlt
    simp only [hQ1]
    obtain ⟨R1, hR1⟩ : ∃ z, (U * 4294967296 + u1) % Y = z := ⟨_, rfl⟩
    have hRY : R1 < Y := by rw [← hR1]; exact Nat.mod_lt _ (by have := HN.out.1; omega)
    have hdm : U * 4294967296 + u1 = Q1 * Y + R1 := by
      have h1 := Nat.div_add_mod (U * 4294967296 + u1) Y
      rw [← HN.out.1] at hQ1
      rw [hQ1, hR1, Nat.mul_comm] at h1
      exact h1.symm
    have HQ1 := Lib.hid (And.intro hQ1 hR1)
    clear hQ1 hR1
    obtain ⟨PYa, hPYa⟩ : ∃ z, Q1 * Y = z := ⟨_, rfl⟩
    obtain ⟨Aa, hAa⟩ : ∃ z, z = U * 4294967296 % 18446744073709551616 := ⟨_, rfl⟩
    obtain ⟨Ba, hBa⟩ : ∃ z, z = (Aa + u1) % 18446744073709551616 := ⟨_, rfl⟩
    obtain ⟨Ca, hCa⟩ : ∃ z, z = PYa % 18446744073709551616 := ⟨_, rfl⟩
    have f1a : IntKind.u64.wrap ((U : Int) * 4294967296) = (Aa : Int) := by rw [show (U : Int) * 4294967296 = ((U * 4294967296 : Nat) : Int) by omega, wrap_m, hAa]
    have f2a : IntKind.u64.wrap ((Aa : Int) + (u1 : Int)) = (Ba : Int) := by rw [← Int.natCast_add, wrap_m, hBa]
    have f3a : IntKind.u64.wrap ((Q1 : Int) * (Y : Int)) = (Ca : Int) := by rw [← Int.natCast_mul, hPYa, wrap_m, hCa]
    have f4a : IntKind.u64.wrap ((Ba : Int) - (Ca : Int)) = (R1 : Int) := by
      rw [IntKind.wrap_u64]
      exact left_over (by rw [hdm, hPYa]) hAa hBa hCa (by omega)
    clear hAa hBa hCa hdm hPYa
    have hUR : R1 < n1 * 4294967296 + n0 := by have := HN.out.1; omega
    have G0 := guess_begin hUR b2 b5 b4 b3
    obtain ⟨q', hq'⟩ : ∃ q, R1 / n1 = q := ⟨_, rfl⟩
    have e9 : (R1 : Int) / (n1 : Int) = (q' : Int) := by rw [← hq']; rfl
    rw [hq'] at G0
    clear hq'
    obtain ⟨p0', hp0⟩ : ∃ z, q' * n1 = z := ⟨_, rfl⟩
    obtain ⟨r0', hr0⟩ : ∃ z, R1 - p0' = z := ⟨_, rfl⟩
    rw [hp0, hr0] at G0
    have hG0 := G0.eq
    rw [hp0] at hG0
    have e10 : IntKind.u64.wrap ((q' : Int) * (n1 : Int)) = (p0' : Int) := by
      rw [← Int.natCast_mul, hp0]
      exact wrap_n (by omega)
    have e11 : IntKind.u64.wrap ((R1 : Int) - (p0' : Int)) = (r0' : Int) := by
      rw [show (R1 : Int) - (p0' : Int) = (r0' : Int) by omega]
      exact wrap_n (by have := G0.r; omega)
    have ew : IntKind.u64.wrap (q' : Int) = (q' : Int) := wrap_n (by have := G0.le; omega)
    have G1 := Lib.hid G0
    have HUR := Lib.hid hUR
    have HRY := Lib.hid (And.intro hRY hQlt)
    clear G0 hp0 hr0 hG0 hUR hRY hQlt b1 b2 b3 b4 b5 hUY hY2
    have G0 := G1
    clear G1
    go_upto_block 2 with fail
    go_cut [16, 18] (fun rv qv wc' => (∃ r : Nat, rv = .int .u64 r) ∧ qv = .int .u64 ((R1 * 4294967296 + u0) / (n1 * 4294967296 + n0) : Nat) ∧ wc' = wc)
    case first =>
      go_wp2_with fail
      go_loopw [16, 18] (fun rv qv wr => ∃ (q r : Nat), qv = .int .u64 q ∧ rv = .int .u64 r ∧ Hid (Guess R1 u0 n1 n0 q r) ∧ wr = wc) (fun _ qv _ => (intOf qv).toNat)
      case atStart => exact ⟨q', r0', rfl, rfl, G0, rfl⟩
      case round =>
        obtain ⟨q, r, rfl, rfl, hG, rfl⟩ := hrel
        clear G0 e9 e10 e11 ew
        obtain ⟨b1, b2, b3, b4, b5, _, hY2⟩ := BB.out
        have hUY2 : R1 < n1 * 4294967296 + n0 := HUR.out
        have hgle := hG.out.le
        have hgr := hG.out.r
        obtain ⟨z, hz⟩ : ∃ z, r + n1 = z := ⟨_, rfl⟩
        have wA : IntKind.u64.wrap ((r : Int) + (n1 : Int)) = (z : Int) := by rw [← Int.natCast_add, hz]; exact wrap_n (by omega)
        have hgo : (4294967296 ≤ q ∨ 4294967296 * r + u0 < q * n0) ∨ (q < 4294967296 ∧ q * n0 ≤ 4294967296 * r + u0) := by omega
        rcases hgo with hgo | hgo
        · have HGO := Lib.hid hgo
          have HG2 := Lib.hid (hG.out.great hUY2 b2 hgo)
          by_cases hq : 4294967296 ≤ q
          · have gq : decide ((4294967296 : Int) ≤ (q : Int)) = true := decide_eq_true (by omega)
            clear hgo hq
            have hq1 : 0 < q := Nat.lt_of_le_of_lt (Nat.zero_le _) HG2.out
            obtain ⟨p, hp⟩ : ∃ p, q - 1 = p := ⟨_, rfl⟩
            have wB : IntKind.u64.wrap ((q : Int) - 1) = (p : Int) := by rw [show (q : Int) - 1 = (p : Int) by omega]; exact wrap_n (by omega)
            have HP := Lib.hid (And.intro hp (And.intro hz hq1))
            by_cases hr : 4294967296 ≤ z
            · have gr : decide ((4294967296 : Int) ≤ (z : Int)) = true := decide_eq_true (by omega)
              have HR := Lib.hid hr
              clear hr hp hz b1 b2 b3 b4 b5 hY2 hUY2 hgle hgr hq1
              go_wp2_with fail
              go_meet
              case rel => exact ⟨⟨_, rfl⟩, by rw [← HP.out.1, hG.out.over HUR.out BB.out.2.1 BB.out.2.2.1 HGO.out (by rw [HP.out.2.1]; exact HR.out)], rfl⟩
            · have gr : decide ((4294967296 : Int) ≤ (z : Int)) = false := decide_eq_false (by omega)
              have HR := Lib.hid hr
              clear hr hp hz b1 b2 b3 b4 b5 hY2 hUY2 hgle hgr hq1
              go_wp2_with fail
              go_roundw
              case rel => exact ⟨p, z, rfl, rfl, Lib.hid (by rw [← HP.out.1, ← HP.out.2.1]; exact hG.out.next HUR.out BB.out.2.1 HGO.out (by have := HR.out; have := HP.out.2.1; omega)), by first | rfl | trivial⟩
              case measure => have h1 := HP.out; simp [intOf]; omega
          · have gq : decide ((4294967296 : Int) ≤ (q : Int)) = false := decide_eq_false (by omega)
            obtain ⟨Pn, hPn⟩ : ∃ z, q * n0 = z := ⟨_, rfl⟩
            have hPb : Pn < 18446744073709551616 := by have h1 : q * n0 ≤ 4294967295 * 4294967295 := Nat.mul_le_mul (by omega) (by omega); omega
            have wP : IntKind.u64.wrap ((q : Int) * (n0 : Int)) = (Pn : Int) := by rw [← Int.natCast_mul, hPn]; exact wrap_n hPb
            obtain ⟨rR, hrR⟩ : ∃ z, 4294967296 * r = z := ⟨_, rfl⟩
            obtain ⟨rS, hrS⟩ : ∃ z, rR + u0 = z := ⟨_, rfl⟩
            have wR : IntKind.u64.wrap (4294967296 * (r : Int)) = (rR : Int) := by rw [show 4294967296 * (r : Int) = (rR : Int) by omega]; exact wrap_n (by omega)
            have wS : IntKind.u64.wrap ((rR : Int) + (u0 : Int)) = (rS : Int) := by rw [← Int.natCast_add, hrS]; exact wrap_n (by omega)
            have gs : decide (rS < Pn) = true := decide_eq_true (by omega)
            clear hgo hq hPn hPb hrR hrS
            have hq1 : 0 < q := Nat.lt_of_le_of_lt (Nat.zero_le _) HG2.out
            obtain ⟨p, hp⟩ : ∃ p, q - 1 = p := ⟨_, rfl⟩
            have wB : IntKind.u64.wrap ((q : Int) - 1) = (p : Int) := by rw [show (q : Int) - 1 = (p : Int) by omega]; exact wrap_n (by omega)
            have HP := Lib.hid (And.intro hp (And.intro hz hq1))
            by_cases hr : 4294967296 ≤ z
            · have gr : decide ((4294967296 : Int) ≤ (z : Int)) = true := decide_eq_true (by omega)
              have HR := Lib.hid hr
              clear hr hp hz b1 b2 b3 b4 b5 hY2 hUY2 hgle hgr hq1
              go_wp2_with fail
              go_meet
              case rel => exact ⟨⟨_, rfl⟩, by rw [← HP.out.1, hG.out.over HUR.out BB.out.2.1 BB.out.2.2.1 HGO.out (by rw [HP.out.2.1]; exact HR.out)], rfl⟩
            · have gr : decide ((4294967296 : Int) ≤ (z : Int)) = false := decide_eq_false (by omega)
              have HR := Lib.hid hr
              clear hr hp hz b1 b2 b3 b4 b5 hY2 hUY2 hgle hgr hq1
              go_wp2_with fail
              go_roundw
              case rel => exact ⟨p, z, rfl, rfl, Lib.hid (by rw [← HP.out.1, ← HP.out.2.1]; exact hG.out.next HUR.out BB.out.2.1 HGO.out (by have := HR.out; have := HP.out.2.1; omega)), by first | rfl | trivial⟩
              case measure => have h1 := HP.out; simp [intOf]; omega
        · obtain ⟨hq, hle⟩ := hgo
          have HD := Lib.hid (hG.out.done (by omega) hle)
          have gq : decide ((4294967296 : Int) ≤ (q : Int)) = false := decide_eq_false (by omega)
          obtain ⟨Pn, hPn⟩ : ∃ z, q * n0 = z := ⟨_, rfl⟩
          have hPb : Pn < 18446744073709551616 := by have h1 : q * n0 ≤ 4294967295 * 4294967295 := Nat.mul_le_mul (by omega) (by omega); omega
          have wP : IntKind.u64.wrap ((q : Int) * (n0 : Int)) = (Pn : Int) := by rw [← Int.natCast_mul, hPn]; exact wrap_n hPb
          obtain ⟨rR, hrR⟩ : ∃ z, 4294967296 * r = z := ⟨_, rfl⟩
          obtain ⟨rS, hrS⟩ : ∃ z, rR + u0 = z := ⟨_, rfl⟩
          have wR : IntKind.u64.wrap (4294967296 * (r : Int)) = (rR : Int) := by rw [show 4294967296 * (r : Int) = (rR : Int) by omega]; exact wrap_n (by omega)
          have wS : IntKind.u64.wrap ((rR : Int) + (u0 : Int)) = (rS : Int) := by rw [← Int.natCast_add, hrS]; exact wrap_n (by omega)
          have gs : decide (rS < Pn) = false := decide_eq_false (by omega)
          clear hq hle hPn hPb hrR hrS hz b1 b2 b3 b4 b5 hY2 hUY2 hgle hgr
          go_wp2_with fail
          go_meet
          case rel => exact ⟨⟨_, rfl⟩, by rw [← HD.out], rfl⟩
    case rest =>
      obtain ⟨⟨ry, rfl⟩, rfl, rfl⟩ := hcut
      clear e9 e10 e11 ew G0
      obtain ⟨b1, b2, b3, b4, b5, hUY, hY2⟩ := BB.out
      have hQlt := Q_lt HUR.out b2
      have hQ1lt := HRY.out.2
      have hY0 : 0 < Y := by have := HN.out.1; omega
      have hT := two_digits (U := U) (u1 := u1) (u0 := u0) (Y := Y) (N := hi * 18446744073709551616 + lo) (y := y) (s := s) hY0 (by rw [HK.out.1, HN.out.2]) HK.out.2.symm
      rw [HN.out.1, HQ1.out.1, ← HN.out.1, HQ1.out.2] at hT
      rw [← HN.out.1] at hQlt
      rw [← HN.out.1]
      obtain ⟨Q0, hQ0⟩ : ∃ z, (R1 * 4294967296 + u0) / Y = z := ⟨_, rfl⟩
      rw [hQ0] at hQlt hT
      simp only [hQ0]
      obtain ⟨R0, hR0⟩ : ∃ z, (R1 * 4294967296 + u0) % Y = z := ⟨_, rfl⟩
      have hRY0 : R0 < Y := by rw [← hR0]; exact Nat.mod_lt _ hY0
      have hdm : R1 * 4294967296 + u0 = Q0 * Y + R0 := by
        have h1 := Nat.div_add_mod (R1 * 4294967296 + u0) Y
        rw [hQ0, hR0, Nat.mul_comm] at h1
        exact h1.symm
      rw [hR0] at hT
      clear hQ0 hR0
      obtain ⟨PYb, hPYb⟩ : ∃ z, Q0 * Y = z := ⟨_, rfl⟩
      obtain ⟨Ab, hAb⟩ : ∃ z, z = R1 * 4294967296 % 18446744073709551616 := ⟨_, rfl⟩
      obtain ⟨Bb, hBb⟩ : ∃ z, z = (Ab + u0) % 18446744073709551616 := ⟨_, rfl⟩
      obtain ⟨Cb, hCb⟩ : ∃ z, z = PYb % 18446744073709551616 := ⟨_, rfl⟩
      have f1b : IntKind.u64.wrap ((R1 : Int) * 4294967296) = (Ab : Int) := by rw [show (R1 : Int) * 4294967296 = ((R1 * 4294967296 : Nat) : Int) by omega, wrap_m, hAb]
      have f2b : IntKind.u64.wrap ((Ab : Int) + (u0 : Int)) = (Bb : Int) := by rw [← Int.natCast_add, wrap_m, hBb]
      have f3b : IntKind.u64.wrap ((Q0 : Int) * (Y : Int)) = (Cb : Int) := by rw [← Int.natCast_mul, hPYb, wrap_m, hCb]
      have f4b : IntKind.u64.wrap ((Bb : Int) - (Cb : Int)) = (R0 : Int) := by
        rw [IntKind.wrap_u64]
        exact left_over (by rw [hdm, hPYb]) hAb hBb hCb (by omega)
      obtain ⟨X, hX⟩ : ∃ z, Q1 * 4294967296 = z := ⟨_, rfl⟩
      have f5 : IntKind.u64.wrap ((Q1 : Int) * 4294967296) = (X : Int) := by rw [show (Q1 : Int) * 4294967296 = (X : Int) by omega]; exact wrap_n (by omega)
      obtain ⟨qq, hqq⟩ : ∃ z, (hi * 18446744073709551616 + lo) / y = z := ⟨_, rfl⟩
      obtain ⟨rr, hrr⟩ : ∃ z, (hi * 18446744073709551616 + lo) % y = z := ⟨_, rfl⟩
      have f6 : IntKind.u64.wrap ((X : Int) + (Q0 : Int)) = (qq : Int) := by
        rw [← hqq, ← hT.1, hX, ← Int.natCast_add]
        exact wrap_n (by omega)
      have f7 : (R0 : Int) / 2 ^ s = (rr : Int) := by
        rw [← hrr, ← hT.2]
        push_cast
        rfl
      have HE := Lib.hid (And.intro hqq hrr)
      clear hqq hrr
      clear hAb hBb hCb hdm hPYb hX hT hRY0 hQlt hQ1lt hY0 b1 b2 b3 b4 b5 hUY hY2
      go_wp2_with fail
      go_ret2
      exact ⟨by rw [HE.out.1, HE.out.2]; rfl, Below.refl _ _⟩

end Go.Proofs.YtoblhbeeimboaaaDoor
