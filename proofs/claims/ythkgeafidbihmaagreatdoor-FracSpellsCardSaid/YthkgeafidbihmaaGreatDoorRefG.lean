/-
  The document's Text.
-/
import Derived.Test.YthkgeafidbihmaaGreatDoorRefK
import Derived.Test.YthkgeafidbihmaaGreatDoorText
import Derived.Laws.Strings2
namespace Go.Proofs.YthkgeafidbihmaaGreatDoor
open Go.RowKit Go.Shelf
set_option linter.unusedVariables false
set_option linter.unusedSimpArgs false

/-- A number's text; none for 0. -/
def dec0 (X : Nat) : List UInt8 := if X = 0 then [] else Lib.decDigits X

theorem dec0_step {X : Nat} (h : 0 < X) : dec0 X = dec0 (X / 10) ++ [UInt8.ofNat (48 + X % 10)] := by
  unfold dec0
  rw [if_neg (by omega)]
  by_cases h1 : X < 10
  · rw [if_pos (by omega), Lib.decDigits_one h1, Nat.mod_eq_of_lt h1]; rfl
  · rw [if_neg (by omega), Lib.decDigits, dif_neg h1]

theorem digs_getD0 (x : Nat) : (digs x).getD 0 0 = x % 4294967296 := by
  rcases Nat.eq_zero_or_pos x with h | h
  · subst h; rw [digs_zero]; rfl
  · rw [digs_pos (by omega)]; rfl

theorem ten_piece : ∀ r : Fin 10, (({ data := #[48, 49, 50, 51, 52, 53, 54, 55, 56, 57] } : ByteArray).extract r.val (r.val + 1)) = ⟨[UInt8.ofNat (48 + r.val)].toArray⟩ := by decide

set_option maxRecDepth 100000 in
set_option maxHeartbeats 1000000 in
theorem rtext_any (w : World) (A1 : Option Addr) (n1 c1 : Nat) (l1 : List Nat) (h1 : Rd w w.heap.size A1 n1 c1 l1) (hn1 : n1 ≤ 60000) :
    Calls Tryz.prog 32 #[.slice A1 n1 c1] w fun e w' => e = .returned (txt (Lib.decDigits (tv l1))) ∧ Below w.heap.size w w' := by
  go_enter Tryz.func32, Tryz.ntmps32
  go_wp2_with fail
  refine (rtaken_any _ _ A1 n1 c1 l1 h1 (by omega)).mono ?_
  rintro e w' ⟨⟨P1, m1, d1, rfl, hm1, r1⟩, rfl⟩
  have hm1 : m1 ≤ 60000 := by omega
  obtain ⟨X0, hX⟩ : ∃ X, tv l1 = X := ⟨_, rfl⟩
  rw [hX] at r1
  have HX := Lib.hid hX
  clear hX
  have HL := Lib.hid (dec_len_digs r1.len)
  have R1 := Lib.hid r1
  clear r1 h1 hn1
  rcases Nat.eq_zero_or_pos X0 with h0 | h0
  · have hz : m1 = 0 := by have := R1.out.len; rw [h0, digs_zero] at this; exact this.symm
    subst hz
    have HF : Hid (txt (Lib.decDigits (tv l1)) = .string { data := #[48] }) := Lib.hid (by rw [HX.out, h0, Lib.decDigits_one (by omega)]; rfl)
    clear h0
    go_wp2_with fail
    go_ret
    exact ⟨by rw [HF.out]; rfl, Below.refl _ _⟩
  · have hz : ((m1 : Int) == 0) = false := by
      have : m1 ≠ 0 := fun e => by
        have h := R1.out.len
        rw [e] at h
        have := digs_nil_iff.1 (List.eq_nil_of_length_eq_zero h)
        omega
      simp; omega
    have HD0 : Hid (Lib.decDigits X0 = dec0 X0) := Lib.hid (by unfold dec0; rw [if_neg (by omega)])
    clear h0
    go_wp2_with fail
    clear hz
    go_loopw [3, 4] (fun av sv wr => ∃ (X : Nat) (A : Option Addr) (n c : Nat) (s : List UInt8), av = .slice A n c ∧ sv = .string { data := s.toArray } ∧ n ≤ 60000 ∧ Hid (Rd wr wr.heap.size A n c (digs X)) ∧ Hid (dec0 X0 = dec0 X ++ s) ∧ Hid (Below w.heap.size w wr)) (fun av _ wr => readV av wr)
    case atStart => exact ⟨X0, P1, m1, d1, [], rfl, rfl, hm1, R1, by simp [Hid], Lib.hid (Below.refl _ _)⟩
    case round =>
      obtain ⟨X, A, n, c, s, rfl, rfl, hn, RA, HS, HB⟩ := hrel
      rcases Nat.eq_zero_or_pos n with hn0 | hn0
      · subst hn0
        have hX : X = 0 := digs_nil_iff.1 RA.out.nil_of
        have HF : Hid (txt (Lib.decDigits (tv l1)) = .string { data := s.toArray }) := Lib.hid (by
          rw [HX.out, HD0.out, HS.out, hX]
          rfl)
        clear hX
        go_wp2_with fail
        go_ret
        exact ⟨by rw [HF.out]; rfl, HB.out⟩
      · have hpos : (0 : Int) < (n : Int) := by omega
        have hXp : 0 < X := by
          rcases Nat.eq_zero_or_pos X with e | e
          · subst e; have := RA.out.len; rw [digs_zero] at this; simp at this; omega
          · exact e
        have hbA : Below wr.heap.size wr (wr.alloc (.cells #[.int .u32 10] 38)) := (Below.refl _ _).alloc (Nat.le_refl _) _
        have rL : Rd (wr.alloc (.cells #[.int .u32 10] 38)) (wr.alloc (.cells #[.int .u32 10] 38)).heap.size (some ⟨wr.heap.size, 0, none⟩) 1 1 [10] := Rd.of_blk (t := 38) (l := [10]) (Blk.new wr _ _) (Dig.cons (by decide) Dig.nil)
        have RL := Lib.hid rL
        have RA1 := Lib.hid (RA.out.on hbA)
        have HM := Lib.hid (readV_rd RA.out)
        have HBA := Lib.hid (bltB HB.out HB.out.size hbA)
        have HS2 := Lib.hid (dec0_step hXp)
        have HLT := Lib.hid (show X / 10 < X by omega)
        have hsl : s.length ≤ 600001 := by
          have h1 := congrArg List.length HS.out
          have h2 := HL.out
          rw [HD0.out] at h2
          rw [List.length_append] at h1
          omega
        clear rL hbA hXp
        go_wp2_with fail
        refine (rdivmod_any _ _ _ _ _ _ _ _ _ RA1.out RL.out (by omega) (by omega)).mono ?_
        rintro e w1 ⟨A1, n1, c1, A2, n2, c2, rfl, r1, r2, hb1⟩
        rw [tv_digs, tv_single] at r1 r2
        rw [if_neg (by decide)] at r2
        have hn1 : n1 ≤ 60000 := by
          have h1 := digs_len_mono (Nat.div_le_self X 10)
          have h2 := r1.len
          have h3 := RA.out.len
          omega
        have hn2 : n2 ≤ 60000 := by
          have h1 := digs_len_mono (Nat.mod_le X 10)
          have h2 := r2.len
          have h3 := RA.out.len
          omega
        have R1' := Lib.hid r1
        have HM1 := Lib.hid (readV_rd r1)
        have HB1 := Lib.hid (bltB HBA.out HBA.out.size hb1)
        have hrl : X % 10 < 10 := Nat.mod_lt _ (by decide)
        have e0 := rdigit_any w1 _ _ _ _ _ r2 (by omega) 0 0 rfl
        rw [digs_getD0, Nat.mod_eq_of_lt (by omega)] at e0
        have E0 := Lib.hid e0
        clear r1 r2 hb1 RA1 RL HBA e0
        generalize X % 10 = r at *
        have hpc := ten_piece ⟨r, hrl⟩
        simp only at hpc
        obtain ⟨ch, hch⟩ : ∃ ch, UInt8.ofNat (48 + r) = ch := ⟨_, rfl⟩
        rw [hch] at hpc HS2
        have hsl10 : ∀ W : World, (Instr.slice 9 (.string { data := #[48, 49, 50, 51, 52, 53, 54, 55, 56, 57] }) (some (.int .i64 (r : Int))) (some (.int .i64 ((r : Int) + 1))) none).run Tryz.prog W = .ok (.string { data := #[ch] }) W := fun W => by
          have h := run_slice_string (P := Tryz.prog) W 9 { data := #[48, 49, 50, 51, 52, 53, 54, 55, 56, 57] } .i64 .i64 (r : Int) ((r : Int) + 1) Tryz.underlying9 (by omega) (by omega) (by show (r : Int) + 1 ≤ ((10 : Nat) : Int); omega)
          rw [show ((r : Int)).toNat = r by omega, show ((r : Int) + 1).toNat = r + 1 by omega, hpc] at h
          exact h
        have HPC := Lib.hid (And.intro hpc hch)
        clear hpc hch
        go_wp2_with fail
        refine E0.out.mono ?_
        rintro e w' ⟨rfl, rfl⟩
        go_wp2_with fail
        go_roundw
        case rel => exact ⟨X / 10, A1, n1, c1, [ch] ++ s, rfl, rfl, hn1, R1', Lib.hid (by rw [HS.out, HS2.out, List.append_assoc]), HB1⟩
        case measure => rw [HM1.out, HM.out]; exact HLT.out

end Go.Proofs.YthkgeafidbihmaaGreatDoor
