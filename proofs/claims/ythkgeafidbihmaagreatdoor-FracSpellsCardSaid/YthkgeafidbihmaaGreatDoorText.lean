/-
  Text: a number's decimal text, nine digits at once.
-/
import Derived.Test.YthkgeafidbihmaaGreatDoorInt
import Derived.Test.YthkgeafidbihmaaGreatDoorGcd
import Derived.Test.YthkgeafidbihmaaGreatDoorShelf
import Derived.Lib.AppendIntMem
import Derived.Lib.SmallJoins
namespace Go.Proofs.YthkgeafidbihmaaGreatDoor
open Go.RowKit Go.Shelf
set_option linter.unusedVariables false
set_option linter.unusedSimpArgs false

/-- A text of letters. -/
def txt (l : List UInt8) : Value := .string ⟨l.toArray⟩

theorem dec_step (q : Nat) (hq : 0 < q) : ∀ (m r : Nat), r < 10 ^ (m + 1) → Lib.decDigits (q * 10 ^ (m + 1) + r) = Lib.decDigits q ++ (List.replicate (m + 1 - (Lib.decDigits r).length) 48 ++ Lib.decDigits r)
  | 0, r, hr => by
    rw [Lib.decDigits_one (i := r) (by omega), Lib.decDigits, dif_neg (by omega)]
    rw [show (q * 10 ^ (0 + 1) + r) / 10 = q by omega, show (q * 10 ^ (0 + 1) + r) % 10 = r by omega]
    rfl
  | m + 1, r, hr => by
    have hp : 1 ≤ 10 ^ (m + 1) := Nat.one_le_pow _ _ (by decide)
    have hs : 10 ^ (m + 1 + 1) = 10 ^ (m + 1) * 10 := Nat.pow_succ ..
    have hq1 : q * 10 ^ (m + 1 + 1) = q * 10 ^ (m + 1) * 10 := by rw [hs, Nat.mul_assoc]
    have hql : 1 ≤ q * 10 ^ (m + 1) := Nat.mul_pos hq hp
    rw [Lib.decDigits, dif_neg (by omega)]
    rw [show (q * 10 ^ (m + 1 + 1) + r) / 10 = q * 10 ^ (m + 1) + r / 10 by omega, show (q * 10 ^ (m + 1 + 1) + r) % 10 = r % 10 by omega, dec_step q hq m (r / 10) (by omega)]
    by_cases h : r < 10
    · rw [show r / 10 = 0 by omega, show r % 10 = r by omega, Lib.decDigits_one (i := 0) (by omega), Lib.decDigits_one (i := r) h]
      simp only [List.length_singleton, Nat.add_sub_cancel, List.append_assoc]
      congr 1
      rw [← List.append_assoc]
      congr 1
      rw [show (48 + 0 : Nat) = 48 from rfl, List.replicate_succ']
      rfl
    · have e : Lib.decDigits r = Lib.decDigits (r / 10) ++ [UInt8.ofNat (48 + r % 10)] := by
        rw [Lib.decDigits, dif_neg h]
      rw [e, List.length_append, List.length_singleton, show m + 1 + 1 - ((Lib.decDigits (r / 10)).length + 1) = m + 1 - (Lib.decDigits (r / 10)).length by omega]
      simp only [List.append_assoc]

theorem nDigits_le : ∀ (k u : Nat), u < 10 ^ (k + 1) → Lib.nDigits u ≤ k + 1
  | 0, u, h => by rw [Lib.nDigits_small (by omega)]; exact Nat.le_refl _
  | k + 1, u, h => by
    by_cases hb : u < 10
    · rw [Lib.nDigits_small hb]; omega
    · rw [Lib.nDigits_big hb]
      have := nDigits_le k (u / 10) (by rw [Nat.pow_succ] at h; omega)
      omega

theorem dec_len {r : Nat} (h : r < 1000000000) : (Lib.decDigits r).length ≤ 9 := by
  rw [Lib.decDigits_length]
  exact nDigits_le 8 r h

theorem dec_len_digs {X m : Nat} (h : (digs X).length = m) : (Lib.decDigits X).length ≤ 10 * m + 1 := by
  rw [Lib.decDigits_length]
  refine nDigits_le (10 * m) X ?_
  have h1 := lt_of_digs_len X
  rw [h] at h1
  have h2 : (4294967296 : Nat) ^ m ≤ (10 ^ 10) ^ m := Nat.pow_le_pow_left (by decide) m
  rw [← Nat.pow_mul] at h2
  have h3 : 10 ^ (10 * m) ≤ 10 ^ (10 * m + 1) := Nat.pow_le_pow_right (by decide) (by omega)
  omega

abbrev Tab (w : World) : Prop := Lib.TabBelow Tryz.prog w.heap.size w "internal/strconv.uint64pow10" .u64 Lib.pow10Tab

theorem Tab.on {w w' : World} (h : Tab w) (hb : Below w.heap.size w w') : Tab w' := fun w2 h2 => h w2 (hb.trans (h2.mono hb.size))

theorem itoa_any (w : World) (hT : Tab w) (n : Nat) (hn : n ≤ 9223372036854775807) : Calls Tryz.prog 54 #[.int .i64 n] w fun e w' => e = .returned (txt (Lib.decDigits n)) ∧ Below w.heap.size w w' :=
  (Tryz.strconv_Itoa (n : Int) (by omega) (by omega) w hT.here).mono fun e w' ⟨he, k, os, hw⟩ => by
    rw [Lib.itoa_nonneg] at he
    exact ⟨he, by rw [hw]; exact Lib.below_grow _ _ (Nat.le_refl _) _ _⟩

theorem repeat_any (w : World) (c : Nat) (hc : c ≤ 65536) : Calls Tryz.prog 55 #[.string { data := #[48] }, .int .i64 c] w fun e w' => e = .returned (txt (List.replicate c 48)) ∧ Below w.heap.size w w' :=
  (Tryz.strings_Repeat { data := #[48] } c w (by omega) (by simp [ByteArray.size]; omega)).mono fun e w' ⟨he, hw⟩ => by
    have := Lib.repeatL_replicate 48 1 c
    simp only [List.replicate_one, Nat.mul_one] at this
    refine ⟨?_, hw⟩
    rw [he, txt, ← this]

theorem text_next {X : Nat} {s D : List UInt8} (h : D = Lib.decDigits X ++ s) (hq : 0 < X / 1000000000) :
    D = Lib.decDigits (X / 1000000000) ++ (List.replicate (9 - (Lib.decDigits (X % 1000000000)).length) 48 ++ Lib.decDigits (X % 1000000000) ++ s) := by
  have := dec_step _ hq 8 (X % 1000000000) (by omega)
  rw [show X / 1000000000 * 10 ^ (8 + 1) + X % 1000000000 = X by omega] at this
  rw [h, this]
  simp only [List.append_assoc]

set_option maxRecDepth 100000 in
set_option maxHeartbeats 1000000 in
theorem text_any (w : World) (hT : Tab w) (A1 : Option Addr) (n1 c1 : Nat) (l1 : List Nat) (h1 : Rd w w.heap.size A1 n1 c1 l1) (hn1 : n1 ≤ 60000) :
    Calls Tryz.prog 30 #[.slice A1 n1 c1] w fun e w' => e = .returned (txt (Lib.decDigits (tv l1))) ∧ Below w.heap.size w w' := by
  go_enter Tryz.func30, Tryz.ntmps30
  go_wp2_with fail
  refine (taken_any _ _ A1 n1 c1 l1 h1 (by omega)).mono ?_
  rintro e w' ⟨⟨P1, m1, d1, rfl, hm1, r1⟩, rfl⟩
  have hm1 : m1 ≤ 60000 := by omega
  obtain ⟨X0, hX⟩ : ∃ X, tv l1 = X := ⟨_, rfl⟩
  rw [hX] at r1
  have HX := Lib.hid hX
  clear hX
  have HL := Lib.hid (dec_len_digs r1.len)
  have R1 := Lib.hid r1
  have HT := Lib.hid hT
  clear r1 hT h1 hn1
  go_wp2_with fail
  go_loopw [0, 3] (fun av sv wr => ∃ (X : Nat) (A : Option Addr) (n c : Nat) (s : List UInt8), av = .slice A n c ∧ sv = .string { data := s.toArray } ∧ n ≤ 60000 ∧ Hid (Rd wr wr.heap.size A n c (digs X)) ∧ Hid (Lib.decDigits X0 = Lib.decDigits X ++ s) ∧ Hid (Below w.heap.size w wr)) (fun av _ wr => readV av wr)
  case atStart => exact ⟨X0, P1, m1, d1, [], rfl, rfl, hm1, R1, by simp [Hid], Lib.hid (Below.refl _ _)⟩
  case round =>
    obtain ⟨X, A, n, c, s, rfl, rfl, hn, RA, HS, HB⟩ := hrel
    have hbA : Below wr.heap.size wr (wr.alloc (.cells #[.int .u32 1000000000] 38)) := (Below.refl _ _).alloc (Nat.le_refl _) _
    have rL : Rd (wr.alloc (.cells #[.int .u32 1000000000] 38)) (wr.alloc (.cells #[.int .u32 1000000000] 38)).heap.size (some ⟨wr.heap.size, 0, none⟩) 1 1 [1000000000] := Rd.of_blk (t := 38) (l := [1000000000]) (Blk.new wr _ _) (Dig.cons (by decide) Dig.nil)
    have RL := Lib.hid rL
    have RA1 := Lib.hid (RA.out.on hbA)
    have HM := Lib.hid (readV_rd RA.out)
    have HBA := Lib.hid (bltB HB.out HB.out.size hbA)
    clear rL hbA
    go_wp2_with fail
    refine (divmod_any _ _ _ _ _ _ _ _ _ RA1.out RL.out (by omega) (by omega)).mono ?_
    rintro e w1 ⟨A1, n1, c1, A2, n2, c2, rfl, r1, r2, hb1⟩
    rw [tv_digs, tv_single] at r1 r2
    rw [if_neg (by decide)] at r2
    have hn1 : n1 ≤ 60000 := by
      have h1 := digs_len_mono (Nat.div_le_self X 1000000000)
      have h2 := r1.len
      have h3 := RA.out.len
      omega
    have hn2 : n2 ≤ 60000 := by
      have h1 := digs_len_mono (Nat.mod_le X 1000000000)
      have h2 := r2.len
      have h3 := RA.out.len
      omega
    have R1 := Lib.hid r1
    have R2 := Lib.hid r2
    have HB1 := Lib.hid (bltB HBA.out HBA.out.size hb1)
    have hsl : s.length ≤ 600001 := by
      have h1 := congrArg List.length HS.out
      have h2 := HL.out
      rw [List.length_append] at h1
      omega
    have hrl : X % 1000000000 < 1000000000 := Nat.mod_lt _ (by decide)
    have HIV : Hid (intV (X % 1000000000) = X % 1000000000) := Lib.hid (by unfold intV; rw [if_pos (by omega)])
    have HNX : Hid (0 < X / 1000000000 → Lib.decDigits X0 = Lib.decDigits (X / 1000000000) ++ (List.replicate (9 - (Lib.decDigits (X % 1000000000)).length) 48 ++ Lib.decDigits (X % 1000000000) ++ s)) := Lib.hid (text_next HS.out)
    have HLT : Hid (0 < X / 1000000000 → X / 1000000000 < X) := Lib.hid (by omega)
    have HLE : Hid (X / 1000000000 = 0 → X % 1000000000 = X) := Lib.hid (by omega)
    clear r1 r2 hb1 RA1 RL HBA RA
    generalize X / 1000000000 = q at *
    generalize X % 1000000000 = r at *
    go_wp2_with fail
    refine (int_any _ _ _ _ _ R2.out (by omega)).mono ?_
    rintro e w2 ⟨rfl, hb2⟩
    rw [tv_digs, HIV.out]
    have R1' := Lib.hid (R1.out.on hb2)
    have HB2 := Lib.hid (bltB HB1.out HB1.out.size hb2)
    clear R1 R2 HB1 hb2
    go_wp2_with fail
    obtain ⟨p, hp⟩ : ∃ p, Lib.decDigits r = p := ⟨_, rfl⟩
    have hp9 : p.length ≤ 9 := by rw [← hp]; exact dec_len hrl
    rw [hp] at HNX
    have hit := itoa_any _ (HT.out.on HB2.out) r (by omega)
    rw [hp] at hit
    have HP := Lib.hid hp
    clear hp
    refine hit.mono ?_
    clear hit
    rintro e w3 ⟨rfl, hb3⟩
    rw [txt]
    have R1 := Lib.hid (R1'.out.on hb3)
    have HB3 := Lib.hid (bltB HB2.out HB2.out.size hb3)
    clear R1' HB2 hb3
    have heq : ((n1 : Int) == 0) = decide (q = 0) := by
      have h1 := R1.out.len
      by_cases h : q = 0
      · subst h; rw [digs_zero] at h1; simp at h1; subst h1; simp
      · have : n1 ≠ 0 := fun e => h (digs_nil_iff.1 (List.eq_nil_of_length_eq_zero (h1.trans e)))
        simp [h]; omega
    rcases Nat.eq_zero_or_pos q with h0 | h0
    · rw [decide_eq_true h0] at heq
      have HD : Hid (Lib.decDigits X0 = p ++ s) := Lib.hid (by rw [HS.out, ← HLE.out h0, HP.out])
      clear HNX
      go_wp2_with fail
      go_ret
      exact ⟨by rw [HX.out, HD.out]; rfl, HB3.out⟩
    · rw [decide_eq_false (by omega)] at heq
      have HD := Lib.hid (HNX.out h0)
      have HLT' := Lib.hid (HLT.out h0)
      clear HNX
      have hsz : (9 : Int) - (p.length : Int) = ((9 - p.length : Nat) : Int) := by omega
      go_wp2_with fail
      refine (repeat_any _ _ (by omega)).mono ?_
      rintro e w4 ⟨rfl, hb4⟩
      rw [txt]
      have R1' := Lib.hid (R1.out.on hb4)
      have HB4 := Lib.hid (bltB HB3.out HB3.out.size hb4)
      have HM1 := Lib.hid (readV_rd R1'.out)
      clear R1 HB3 hb4
      have hzl : (List.replicate (9 - p.length) (48 : UInt8)).length ≤ 9 := by rw [List.length_replicate]; omega
      generalize List.replicate (9 - p.length) 48 = z at *
      go_wp2_with fail
      go_roundw
      case rel => exact ⟨q, A1, n1, c1, _, rfl, rfl, hn1, R1', HD, HB4⟩
      case measure => rw [HM1.out, HM.out]; exact HLT'.out

end Go.Proofs.YthkgeafidbihmaaGreatDoor
