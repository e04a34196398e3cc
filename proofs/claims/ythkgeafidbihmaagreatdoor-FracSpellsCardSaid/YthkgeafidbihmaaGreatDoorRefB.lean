/-
  The document's Cmp, Add, Sub, Mul.
-/
import Derived.Test.YthkgeafidbihmaaGreatDoorRefA
namespace Go.Proofs.YthkgeafidbihmaaGreatDoor
open Go.RowKit Go.Shelf
set_option linter.unusedVariables false
set_option linter.unusedSimpArgs false
attribute [local go_sem] Oper.semAt_some

theorem rd_lit {w : World} {d : Nat} (hd : d < 4294967296) : Rd (w.alloc (.cells #[.int .u32 (d : Int)] 38)) (w.alloc (.cells #[.int .u32 (d : Int)] 38)).heap.size (some ⟨w.heap.size, 0, none⟩) 1 1 [d] :=
  Rd.of_blk (t := 38) (l := [d]) (Blk.new w _ _) (Dig.cons hd Dig.nil)

theorem val_ext : ∀ {a b : List Nat}, (∀ j, a.getD j 0 = b.getD j 0) → val a = val b
  | [], [], _ => rfl
  | [], d :: b, h => by
    have h0 := h 0
    simp at h0
    have h1 : val [] = val b := val_ext (fun j => by have := h (j + 1); simpa using this)
    have h2 : 0 = val b := h1
    show 0 = d + 4294967296 * val b
    omega
  | d :: a, [], h => by
    have h0 := h 0
    simp at h0
    have h1 : val a = val [] := val_ext (fun j => by have := h (j + 1); simpa using this)
    have h2 : val a = 0 := h1
    show d + 4294967296 * val a = 0
    omega
  | d :: a, e :: b, h => by
    have h0 := h 0
    simp at h0
    have h1 : val a = val b := val_ext (fun j => by have := h (j + 1); simpa using this)
    rw [val, val, h1, h0]

theorem val_drop_ext {a b : List Nat} (k : Nat) (h : ∀ j, k ≤ j → a.getD j 0 = b.getD j 0) : val (a.drop k) = val (b.drop k) :=
  val_ext fun j => by
    have := h (k + j) (by omega)
    simpa [List.getD_eq_getElem?_getD, List.getElem?_drop] using this

theorem top_lt' {a b : List Nat} (ha : Dig a) (k : Nat) (h : ∀ j, k + 1 ≤ j → a.getD j 0 = b.getD j 0) (hk : a.getD k 0 < b.getD k 0) : val a < val b := by
  have hd := val_drop_ext (k + 1) h
  rw [val_split a (k + 1), val_split b (k + 1), hd, val_take_succ, val_take_succ]
  have h1 : val (a.take k) < 4294967296 ^ k := by
    have := val_lt (ha.take k)
    have h2 : 4294967296 ^ (a.take k).length ≤ 4294967296 ^ k := Nat.pow_le_pow_right (by decide) (by rw [List.length_take]; omega)
    omega
  have h2 : 4294967296 ^ k * (a.getD k 0 + 1) ≤ 4294967296 ^ k * b.getD k 0 := Nat.mul_le_mul_left _ hk
  rw [Nat.mul_add] at h2
  omega

theorem cmp_top' {X Y i : Nat} (h : ∀ j, i + 1 ≤ j → (digs X).getD j 0 = (digs Y).getD j 0) :
    ((digs X).getD i 0 < (digs Y).getD i 0 → cmpI (X : Int) (Y : Int) = -1) ∧ ((digs Y).getD i 0 < (digs X).getD i 0 → cmpI (X : Int) (Y : Int) = 1) := by
  refine ⟨fun h1 => cmp_lt ?_, fun h1 => cmp_gt ?_⟩
  · have := top_lt' (dig_digs X) i h h1
    rwa [val_digs, val_digs] at this
  · have := top_lt' (dig_digs Y) i (fun j hj => (h j hj).symm) h1
    rwa [val_digs, val_digs] at this

set_option maxRecDepth 100000 in
set_option maxHeartbeats 1000000 in
theorem rcmp_any (w : World) (A1 A2 : Option Addr) (n1 c1 n2 c2 : Nat) (l1 l2 : List Nat) (h1 : Rd w w.heap.size A1 n1 c1 l1) (h2 : Rd w w.heap.size A2 n2 c2 l2) (hn1 : n1 ≤ 1048576) (hn2 : n2 ≤ 1048576) :
    Calls Tryz.prog 33 #[.slice A1 n1 c1, .slice A2 n2 c2] w fun e w' => e = .returned (.int .i64 (cmpI (tv l1) (tv l2))) ∧ w = w' := by
  go_enter Tryz.func33, Tryz.ntmps33
  go_wp2_with fail
  refine (rtaken_any _ _ A1 n1 c1 l1 h1 hn1).mono ?_
  rintro e w' ⟨⟨P1, m1, d1, rfl, hm1, r1⟩, rfl⟩
  go_wp2_with fail
  refine (rtaken_any _ _ A2 n2 c2 l2 h2 hn2).mono ?_
  rintro e w' ⟨⟨P2, m2, d2, rfl, hm2, r2⟩, rfl⟩
  have hm1 : m1 ≤ 1048576 := by omega
  have hm2 : m2 ≤ 1048576 := by omega
  obtain ⟨X, hX⟩ : ∃ X, tv l1 = X := ⟨_, rfl⟩
  obtain ⟨Y, hY⟩ : ∃ Y, tv l2 = Y := ⟨_, rfl⟩
  rw [hX] at r1
  rw [hY] at r2
  have HXY := Lib.hid (And.intro hX hY)
  have R1 := Lib.hid r1
  have R2 := Lib.hid r2
  have HD1 := Lib.hid (fun i : Nat => rdigit_any w _ _ _ _ _ r1 hm1 (i : Int) i rfl)
  have HD2 := Lib.hid (fun i : Nat => rdigit_any w _ _ _ _ _ r2 hm2 (i : Int) i rfl)
  clear h1 h2 hn1 hn2 hX hY r1 r2
  obtain ⟨M, hM⟩ : ∃ M, M = max m1 m2 := ⟨_, rfl⟩
  have hMx : (if m1 < m2 then (m2 : Int) else (m1 : Int)) = (M : Int) := by split <;> omega
  have HM1 := Lib.hid (show m1 ≤ M ∧ m2 ≤ M by omega)
  have hMl : M ≤ 1048576 := by omega
  clear hM
  go_wp2_with fail
  go_loop [7] (fun iv => ∃ k : Nat, k ≤ M ∧ iv = .int .i64 ((k : Int) - 1) ∧ Hid (∀ j, k ≤ j → (digs X).getD j 0 = (digs Y).getD j 0)) (fun iv => (intOf iv + 1).toNat)
  case atStart => exact ⟨M, Nat.le_refl _, rfl, Lib.hid (fun j hj => by rw [getD_zero_of_ge (by rw [R1.out.len]; have := HM1.out; omega), getD_zero_of_ge (by rw [R2.out.len]; have := HM1.out; omega)])⟩
  case round =>
    obtain ⟨k, hk, rfl, HE⟩ := hrel
    rcases Nat.eq_zero_or_pos k with h0 | h0
    · subst h0
      have HF : Hid (cmpI (tv l1) (tv l2) = 0) := Lib.hid (by
        rw [HXY.out.1, HXY.out.2]
        refine cmp_eq ?_
        have := val_ext (fun j => HE.out j (Nat.zero_le _))
        rwa [val_digs, val_digs] at this)
      go_wp2_with fail
      go_ret
      exact ⟨by rw [HF.out]; rfl, rfl⟩
    · obtain ⟨m, rfl⟩ : ∃ m, k = m + 1 := ⟨k - 1, by omega⟩
      rw [show (((m + 1 : Nat) : Int) - 1) = (m : Int) by omega]
      have e1 := HD1.out m
      have e2 := HD2.out m
      obtain ⟨g1, g2⟩ := cmp_top' (X := X) (Y := Y) (i := m) HE.out
      obtain ⟨x, hx⟩ : ∃ x, (digs X).getD m 0 = x := ⟨_, rfl⟩
      obtain ⟨y, hy⟩ : ∃ y, (digs Y).getD m 0 = y := ⟨_, rfl⟩
      rw [hx] at e1
      rw [hy] at e2
      rw [hx, hy] at g1 g2
      have E1 := Lib.hid e1
      have E2 := Lib.hid e2
      have G := Lib.hid (And.intro g1 g2)
      have HXY2 := Lib.hid (And.intro hx hy)
      clear e1 e2 g1 g2 hx hy
      rcases Nat.lt_trichotomy x y with h | h | h
      · have hlt : (x : Int) < (y : Int) := by omega
        have HF : Hid (cmpI (tv l1) (tv l2) = -1) := Lib.hid (by rw [HXY.out.1, HXY.out.2]; exact G.out.1 h)
        go_wp2_with fail
        refine E1.out.mono ?_
        rintro e w' ⟨rfl, rfl⟩
        go_wp2_with fail
        refine E2.out.mono ?_
        rintro e w' ⟨rfl, rfl⟩
        go_wp2_with fail
        go_ret
        exact ⟨by rw [HF.out]; rfl, rfl⟩
      · subst h
        have HE2 : Hid (∀ j, m ≤ j → (digs X).getD j 0 = (digs Y).getD j 0) := Lib.hid (fun j hj => by
          rcases Nat.eq_or_lt_of_le hj with e | e
          · rw [← e, HXY2.out.1, HXY2.out.2]
          · exact HE.out j e)
        go_wp2_with fail
        refine E1.out.mono ?_
        rintro e w' ⟨rfl, rfl⟩
        go_wp2_with fail
        refine E2.out.mono ?_
        rintro e w' ⟨rfl, rfl⟩
        go_wp2_with fail
        refine E1.out.mono ?_
        rintro e w' ⟨rfl, rfl⟩
        go_wp2_with fail
        refine E2.out.mono ?_
        rintro e w' ⟨rfl, rfl⟩
        go_wp2_with fail
        go_round
        case rel => exact ⟨m, by omega, rfl, HE2⟩
        case measure => first | (simp [intOf]; done) | (simp [intOf]; omega)
      · have hlt : ¬ (x : Int) < (y : Int) := by omega
        have hgt : (y : Int) < (x : Int) := by omega
        have HF : Hid (cmpI (tv l1) (tv l2) = 1) := Lib.hid (by rw [HXY.out.1, HXY.out.2]; exact G.out.2 h)
        go_wp2_with fail
        refine E1.out.mono ?_
        rintro e w' ⟨rfl, rfl⟩
        go_wp2_with fail
        refine E2.out.mono ?_
        rintro e w' ⟨rfl, rfl⟩
        go_wp2_with fail
        refine E1.out.mono ?_
        rintro e w' ⟨rfl, rfl⟩
        go_wp2_with fail
        refine E2.out.mono ?_
        rintro e w' ⟨rfl, rfl⟩
        go_wp2_with fail
        go_ret
        exact ⟨by rw [HF.out]; rfl, rfl⟩

theorem radd_step {k : Nat} {os a b : List Nat} {cr : Nat} (ho : os.length = k) (h : val os + 4294967296 ^ k * cr = val (a.take k) + val (b.take k)) (s : Nat) (hs : s = a.getD k 0 + b.getD k 0 + cr) :
    val (os ++ [s % 4294967296]) + 4294967296 ^ (k + 1) * (s / 4294967296) = val (a.take (k + 1)) + val (b.take (k + 1)) := by
  rw [val_snoc, val_take_succ, val_take_succ, ho, Nat.pow_succ, Nat.mul_assoc]
  have e : 4294967296 ^ k * s = 4294967296 ^ k * (s % 4294967296) + 4294967296 ^ k * (4294967296 * (s / 4294967296)) := by
    rw [← Nat.mul_add, Nat.mod_add_div]
  rw [hs, Nat.mul_add, Nat.mul_add, ← hs] at e
  omega

set_option maxRecDepth 100000 in
set_option maxHeartbeats 1000000 in
theorem radd_any (w : World) (A1 A2 : Option Addr) (n1 c1 n2 c2 : Nat) (l1 l2 : List Nat) (h1 : Rd w w.heap.size A1 n1 c1 l1) (h2 : Rd w w.heap.size A2 n2 c2 l2) (hn1 : n1 ≤ 65536) (hn2 : n2 ≤ 65536) :
    Calls Tryz.prog 44 #[.slice A1 n1 c1, .slice A2 n2 c2] w (RetN w (tv l1 + tv l2)) := by
  obtain ⟨i0, hi, hz0', hz1, hz2⟩ := info_parts infoD
  have HI := Lib.hid (And.intro hi (And.intro hz0' (And.intro hz1 hz2)))
  clear hi hz0' hz1 hz2
  go_enter Tryz.func44, Tryz.ntmps44
  go_wp2_with fail
  refine (rtaken_any _ _ A1 n1 c1 l1 h1 (by omega)).mono ?_
  rintro e w' ⟨⟨P1, m1, d1, rfl, hm1, r1⟩, rfl⟩
  go_wp2_with fail
  refine (rtaken_any _ _ A2 n2 c2 l2 h2 (by omega)).mono ?_
  rintro e w' ⟨⟨P2, m2, d2, rfl, hm2, r2⟩, rfl⟩
  have hm1 : m1 ≤ 65536 := by omega
  have hm2 : m2 ≤ 65536 := by omega
  obtain ⟨X, hX⟩ : ∃ X, tv l1 = X := ⟨_, rfl⟩
  obtain ⟨Y, hY⟩ : ∃ Y, tv l2 = Y := ⟨_, rfl⟩
  rw [hX] at r1
  rw [hY] at r2
  have HXY := Lib.hid (And.intro hX hY)
  have R1 := Lib.hid r1
  have R2 := Lib.hid r2
  obtain ⟨M, hM⟩ : ∃ M, M = max m1 m2 := ⟨_, rfl⟩
  have HM1 := Lib.hid (show m1 ≤ M ∧ m2 ≤ M ∧ (m1 = M ∨ m2 = M) by omega)
  have hMl : M ≤ 65536 := by omega
  clear h1 h2 hn1 hn2 hX hY r1 r2 hM
  go_wp2_with fail
  go_loopw [7, 8, 9] (fun ov cv iv wr => ∃ (v : Value) (i cr : Nat) (os : List Nat), v = ov ∧ iv = .int .i64 i ∧ cv = .int .u64 (cr : Int) ∧ cr ≤ 1 ∧ i ≤ M + 1 ∧ (i = M + 1 → cr = 0) ∧ Hid (os.length = i) ∧ Hid (Dig os) ∧
      Hid (val os + 4294967296 ^ i * cr = val ((digs X).take i) + val ((digs Y).take i)) ∧ Hid (wr.ownsRow w.heap.size 38 1 v i (dvs os)) ∧ Hid (Below w.heap.size w wr)) (fun _ _ iv _ => M + 1 - (intOf iv).toNat)
  case atStart => exact ⟨_, 0, 0, [], rfl, rfl, rfl, Nat.zero_le _, Nat.zero_le _, fun _ => rfl, rfl, Dig.nil, by simp [Hid, val], Lib.hid (World.ownsRow_nil _ _ _ _), Lib.hid (Below.refl _ _)⟩
  case round =>
    obtain ⟨v, i, cr, os, rfl, rfl, rfl, hcr, hi, hic, HL, HD, HV, HO, HB⟩ := hrel
    have e1 := rdigit_any wr _ _ _ _ _ (R1.out.below HB.out) (by omega) (i : Int) i rfl
    have e2 := rdigit_any wr _ _ _ _ _ (R2.out.below HB.out) (by omega) (i : Int) i rfl
    have hxl := (dig_digs X).getD i
    have hyl := (dig_digs Y).getD i
    have hst := fun s hs => radd_step (a := digs X) (b := digs Y) HL.out HV.out s hs
    have hxz : m1 ≤ i → (digs X).getD i 0 = 0 := fun h => getD_zero_of_ge (by rw [R1.out.len]; exact h)
    have hyz : m2 ≤ i → (digs Y).getD i 0 = 0 := fun h => getD_zero_of_ge (by rw [R2.out.len]; exact h)
    generalize (digs X).getD i 0 = x at *
    generalize (digs Y).getD i 0 = y at *
    obtain ⟨d, hd⟩ : ∃ d, (x + y + cr) % 4294967296 = d := ⟨_, rfl⟩
    obtain ⟨q, hq⟩ : ∃ q, (x + y + cr) / 4294967296 = q := ⟨_, rfl⟩
    have hdl : d < 4294967296 := by omega
    have hql : q ≤ 1 := by omega
    have hzd : ((x : Int) + (y : Int) + (cr : Int)) % 4294967296 = (d : Int) := by omega
    have hzq : ((x : Int) + (y : Int) + (cr : Int)) / 4294967296 = (q : Int) := by omega
    have hlast : i = M → q = 0 := fun h => by have h1 := hxz (by have := HM1.out; omega); have h2 := hyz (by have := HM1.out; omega); omega
    have hgo : (i < m1 ∨ i < m2 ∨ 0 < cr) → i ≤ M := fun h => by have := HM1.out; rcases h with h | h | h <;> omega
    have HV2 := Lib.hid (hst _ rfl)
    rw [hd, hq] at HV2
    have E1 := Lib.hid e1
    have E2 := Lib.hid e2
    have HQ := Lib.hid (And.intro hlast hgo)
    clear hst e1 e2 hd hq hxz hyz hlast hgo

    by_cases hc1 : i < m1
    · have hg1 : (i : Int) < (m1 : Int) := by omega
      have hiM := HQ.out.2 (.inl hc1)
      go_wp2_with fail
      refine E1.out.mono ?_
      rintro e w' ⟨rfl, rfl⟩
      go_wp2_with fail
      refine E2.out.mono ?_
      rintro e w' ⟨rfl, rfl⟩
      go_wp2_with (at_builtin
                   go_loud (refine wpList_append_any _ rfl (.tmp 40) (.tmp 44) 22 rfl w.heap.size 38 i0 (.int .u32 0) 1 4 Tryz.underlying22 HI.out.1 HI.out.2.1 HI.out.2.2.1 HI.out.2.2.2 rfl (by decide) v i (dvs os) rfl (HO.out.alloc _) _ (some ⟨wr.heap.size, 0, none⟩) 1 1 (dvs [d]) rfl (rd_lit hdl).reads (dvs_one _) (by simp only [maxLen]; omega) (by omega) (Nat.le_trans HB.out.size (by simp)) ?_)
                   intro v1 w1 own1 gr1 at1)
      have hb1 : Below w.heap.size w w1 := (HB.out.alloc HB.out.size _).grown gr1 (Nat.le_trans HB.out.size (by simp)) (fun k hk => (HO.out.lt k hk).1)
      have O1 : Hid (w1.ownsRow w.heap.size 38 1 v1 (i + 1) (dvs (os ++ [d]))) := Lib.hid (by rw [show dvs (os ++ [d]) = dvs os ++ dvs [d] by simp [dvs]]; exact own1)
      have HB1 := Lib.hid hb1
      clear own1 gr1 at1 hb1 HO HB
      have HL1 : Hid ((os ++ [d]).length = i + 1) := Lib.hid (by rw [List.length_append, HL.out]; rfl)
      have HDD : Hid (Dig (os ++ [d])) := Lib.hid (HD.out.append (Dig.cons hdl Dig.nil))
      go_wp2_with fail
      go_roundw
      case rel => exact ⟨v1, i + 1, q, os ++ [d], rfl, by go_num, (by first | rfl | rw [hzq]), hql, by omega, fun h => HQ.out.1 (by omega), HL1, HDD, HV2, O1, HB1⟩
      case measure => simp [intOf]; omega
    · have hg1 : ¬ (i : Int) < (m1 : Int) := by omega
      by_cases hc2 : i < m2
      · have hg2 : (i : Int) < (m2 : Int) := by omega
        have hiM := HQ.out.2 (.inr (.inl hc2))
        go_wp2_with fail
        refine E1.out.mono ?_
        rintro e w' ⟨rfl, rfl⟩
        go_wp2_with fail
        refine E2.out.mono ?_
        rintro e w' ⟨rfl, rfl⟩
        go_wp2_with (at_builtin
                     go_loud (refine wpList_append_any _ rfl (.tmp 40) (.tmp 44) 22 rfl w.heap.size 38 i0 (.int .u32 0) 1 4 Tryz.underlying22 HI.out.1 HI.out.2.1 HI.out.2.2.1 HI.out.2.2.2 rfl (by decide) v i (dvs os) rfl (HO.out.alloc _) _ (some ⟨wr.heap.size, 0, none⟩) 1 1 (dvs [d]) rfl (rd_lit hdl).reads (dvs_one _) (by simp only [maxLen]; omega) (by omega) (Nat.le_trans HB.out.size (by simp)) ?_)
                     intro v1 w1 own1 gr1 at1)
        have hb1 : Below w.heap.size w w1 := (HB.out.alloc HB.out.size _).grown gr1 (Nat.le_trans HB.out.size (by simp)) (fun k hk => (HO.out.lt k hk).1)
        have O1 : Hid (w1.ownsRow w.heap.size 38 1 v1 (i + 1) (dvs (os ++ [d]))) := Lib.hid (by rw [show dvs (os ++ [d]) = dvs os ++ dvs [d] by simp [dvs]]; exact own1)
        have HB1 := Lib.hid hb1
        clear own1 gr1 at1 hb1 HO HB
        have HL1 : Hid ((os ++ [d]).length = i + 1) := Lib.hid (by rw [List.length_append, HL.out]; rfl)
        have HDD : Hid (Dig (os ++ [d])) := Lib.hid (HD.out.append (Dig.cons hdl Dig.nil))
        go_wp2_with fail
        go_roundw
        case rel => exact ⟨v1, i + 1, q, os ++ [d], rfl, by go_num, (by first | rfl | rw [hzq]), hql, by omega, fun h => HQ.out.1 (by omega), HL1, HDD, HV2, O1, HB1⟩
        case measure => simp [intOf]; omega
      · have hg2 : ¬ (i : Int) < (m2 : Int) := by omega
        rcases Nat.eq_zero_or_pos cr with hc3 | hc3
        · subst hc3
          have hv : val os = tv l1 + tv l2 := by
            have h1 := HV.out
            rw [List.take_of_length_le (by rw [R1.out.len]; omega), List.take_of_length_le (by rw [R2.out.len]; omega), val_digs, val_digs] at h1
            rw [HXY.out.1, HXY.out.2]
            omega
          obtain ⟨A, c, rfl, ro⟩ := rd_of_own HD.out HL.out HO.out
          have HRO := Lib.hid ro
          have HVV := Lib.hid hv
          clear ro hv
          go_wp2_with fail
          refine (rlow_any _ _ _ _ _ HRO.out (by omega)).mono ?_
          rintro e w2 ⟨A2, n2, c2, rfl, r2, hb2⟩
          have HF : Hid (RetN w (tv l1 + tv l2) (.returned (.slice A2 n2 c2)) w2) := Lib.hid ⟨A2, n2, c2, rfl, by rw [← HVV.out]; exact r2, bltB HB.out HB.out.size hb2⟩
          clear r2 hb2
          go_wp2_with fail
          go_ret
          exact HF.out
        · have hg3 : (0 : Int) < (cr : Int) := by omega
          have hiM := HQ.out.2 (.inr (.inr hc3))
          go_wp2_with fail
          refine E1.out.mono ?_
          rintro e w' ⟨rfl, rfl⟩
          go_wp2_with fail
          refine E2.out.mono ?_
          rintro e w' ⟨rfl, rfl⟩
          go_wp2_with (at_builtin
                       go_loud (refine wpList_append_any _ rfl (.tmp 40) (.tmp 44) 22 rfl w.heap.size 38 i0 (.int .u32 0) 1 4 Tryz.underlying22 HI.out.1 HI.out.2.1 HI.out.2.2.1 HI.out.2.2.2 rfl (by decide) v i (dvs os) rfl (HO.out.alloc _) _ (some ⟨wr.heap.size, 0, none⟩) 1 1 (dvs [d]) rfl (rd_lit hdl).reads (dvs_one _) (by simp only [maxLen]; omega) (by omega) (Nat.le_trans HB.out.size (by simp)) ?_)
                       intro v1 w1 own1 gr1 at1)
          have hb1 : Below w.heap.size w w1 := (HB.out.alloc HB.out.size _).grown gr1 (Nat.le_trans HB.out.size (by simp)) (fun k hk => (HO.out.lt k hk).1)
          have O1 : Hid (w1.ownsRow w.heap.size 38 1 v1 (i + 1) (dvs (os ++ [d]))) := Lib.hid (by rw [show dvs (os ++ [d]) = dvs os ++ dvs [d] by simp [dvs]]; exact own1)
          have HB1 := Lib.hid hb1
          clear own1 gr1 at1 hb1 HO HB
          have HL1 : Hid ((os ++ [d]).length = i + 1) := Lib.hid (by rw [List.length_append, HL.out]; rfl)
          have HDD : Hid (Dig (os ++ [d])) := Lib.hid (HD.out.append (Dig.cons hdl Dig.nil))
          go_wp2_with fail
          go_roundw
          case rel => exact ⟨v1, i + 1, q, os ++ [d], rfl, by go_num, (by first | rfl | rw [hzq]), hql, by omega, fun h => HQ.out.1 (by omega), HL1, HDD, HV2, O1, HB1⟩
          case measure => simp [intOf]; omega

/-- A difference in new memory, and whether there is one. -/
def RetSF (w : World) (X1 X2 : Nat) (e : Ending) (w' : World) : Prop :=
  ∃ A n c, e = .returned (.tuple #[.slice A n c, .bool (decide (X2 ≤ X1))]) ∧ Rd w' w'.heap.size A n c (digs (X1 - X2)) ∧ Below w.heap.size w w' ∧ ∀ ad, A = some ad → w.heap.size ≤ ad.block

set_option maxRecDepth 100000 in
set_option maxHeartbeats 1000000 in
theorem rsub_f (w : World) (A1 A2 : Option Addr) (n1 c1 n2 c2 : Nat) (l1 l2 : List Nat) (h1 : Rd w w.heap.size A1 n1 c1 l1) (h2 : Rd w w.heap.size A2 n2 c2 l2) (hn1 : n1 ≤ 65536) (hn2 : n2 ≤ 65536) :
    Calls Tryz.prog 79 #[.slice A1 n1 c1, .slice A2 n2 c2] w (RetSF w (tv l1) (tv l2)) := by
  obtain ⟨i0, hi, hz0', hz1, hz2⟩ := info_parts infoD
  have HI := Lib.hid (And.intro hi (And.intro hz0' (And.intro hz1 hz2)))
  clear hi hz0' hz1 hz2
  go_enter Tryz.func79, Tryz.ntmps79
  go_wp2_with fail
  refine (rtaken_any _ _ A1 n1 c1 l1 h1 (by omega)).mono ?_
  rintro e w' ⟨⟨P1, m1, d1, rfl, hm1, r1⟩, rfl⟩
  go_wp2_with fail
  refine (rtaken_any _ _ A2 n2 c2 l2 h2 (by omega)).mono ?_
  rintro e w' ⟨⟨P2, m2, d2, rfl, hm2, r2⟩, rfl⟩
  have hm1 : m1 ≤ 65536 := by omega
  have hm2 : m2 ≤ 65536 := by omega
  obtain ⟨X, hX⟩ : ∃ X, tv l1 = X := ⟨_, rfl⟩
  obtain ⟨Y, hY⟩ : ∃ Y, tv l2 = Y := ⟨_, rfl⟩
  rw [hX] at r1
  rw [hY] at r2
  have HXY := Lib.hid (And.intro hX hY)
  have R1 := Lib.hid r1
  have R2 := Lib.hid r2
  have hcmp := rcmp_any w P1 P2 m1 d1 m2 d2 _ _ r1 r2 (by omega) (by omega)
  rw [tv_digs, tv_digs] at hcmp
  have HC := Lib.hid hcmp
  clear h1 h2 hn1 hn2 hX hY r1 r2 hcmp
  by_cases hlt : X < Y
  · have HF : Hid (RetSF w (tv l1) (tv l2) (.returned (.tuple #[.slice none 0 0, .bool false])) w) := Lib.hid ⟨none, 0, 0, by rw [HXY.out.1, HXY.out.2, decide_eq_false (by omega)], by rw [HXY.out.1, HXY.out.2, show X - Y = 0 by omega, digs_zero]; exact Rd.nil _ _, Below.refl _ _, fun _ e => by cases e⟩
    have HC2 := Lib.hid (cmp_lt hlt)
    go_wp2_with fail
    refine HC.out.mono ?_
    rintro e w' ⟨rfl, rfl⟩
    rw [HC2.out]
    go_wp2_with fail
    go_ret2
    exact HF.out
  · have HC2 : Hid (¬ cmpI (X : Int) (Y : Int) < 0) := Lib.hid (by rw [cmpI_nat, if_neg hlt]; split <;> decide)
    have HW : Hid (m2 ≤ m1) := Lib.hid (by
      have := digs_len_mono (m := Y) (n := X) (by omega)
      rw [R1.out.len, R2.out.len] at this
      exact this)
    go_wp2_with fail
    refine HC.out.mono ?_
    rintro e w' ⟨rfl, rfl⟩
    have hcn := HC2.out
    generalize cmpI (X : Int) (Y : Int) = cz at *
    clear HC HC2
    go_wp2_with fail
    clear hcn
    go_loopw [8, 9, 10] (fun ov cv iv wr => ∃ (v : Value) (i br : Nat) (os : List Nat), v = ov ∧ iv = .int .i64 i ∧ cv = .int .u64 (br : Int) ∧ br ≤ 1 ∧ i ≤ m1 ∧ Hid (os.length = i) ∧ Hid (Dig os) ∧
        Hid (val os + val ((digs Y).take i) = val ((digs X).take i) + 4294967296 ^ i * br) ∧ Hid (wr.ownsRow w.heap.size 38 1 v i (dvs os)) ∧ Hid (Below w.heap.size w wr)) (fun _ _ iv _ => m1 - (intOf iv).toNat)
    case atStart => exact ⟨_, 0, 0, [], rfl, rfl, rfl, Nat.zero_le _, Nat.zero_le _, rfl, Dig.nil, by simp [Hid, val], Lib.hid (World.ownsRow_nil _ _ _ _), Lib.hid (Below.refl _ _)⟩
    case round =>
      obtain ⟨v, i, br, os, rfl, rfl, rfl, hbr, hi, HL, HD, HV, HO, HB⟩ := hrel
      by_cases hlt2 : i < m1
      · have hg1 : (i : Int) < (m1 : Int) := by omega
        have e1 := rdigit_any wr _ _ _ _ _ (R1.out.below HB.out) (by omega) (i : Int) i rfl
        have e2 := rdigit_any wr _ _ _ _ _ (R2.out.below HB.out) (by omega) (i : Int) i rfl
        have hxl := (dig_digs X).getD i
        have hyl := (dig_digs Y).getD i
        have hst := sub_step (a := digs X) (b := digs Y) HL.out HV.out hxl hyl hbr
        generalize (digs X).getD i 0 = x at *
        generalize (digs Y).getD i 0 = y at *
        have hdl := subD_lt x y br
        have hql := subB_le x y br
        have hzd : (4294967296 + (x : Int) - (y : Int) - (br : Int)) % 4294967296 = (subD x y br : Int) := by unfold subD; omega
        have hzq : 1 - (4294967296 + (x : Int) - (y : Int) - (br : Int)) / 4294967296 = (subB x y br : Int) := by unfold subB; split <;> omega
        generalize subD x y br = d at *
        generalize subB x y br = q at *
        have HV2 := Lib.hid hst
        have E1 := Lib.hid e1
        have E2 := Lib.hid e2
        clear hst e1 e2
        go_wp2_with fail
        refine E1.out.mono ?_
        rintro e w' ⟨rfl, rfl⟩
        go_wp2_with fail
        refine E2.out.mono ?_
        rintro e w' ⟨rfl, rfl⟩
        go_wp2_with (at_builtin
                     go_loud (refine wpList_append_any _ rfl (.tmp 36) (.tmp 40) 22 rfl w.heap.size 38 i0 (.int .u32 0) 1 4 Tryz.underlying22 HI.out.1 HI.out.2.1 HI.out.2.2.1 HI.out.2.2.2 rfl (by decide) v i (dvs os) rfl (HO.out.alloc _) _ (some ⟨wr.heap.size, 0, none⟩) 1 1 (dvs [d]) rfl (rd_lit hdl).reads (dvs_one _) (by simp only [maxLen]; omega) (by omega) (Nat.le_trans HB.out.size (by simp)) ?_)
                     intro v1 w1 own1 gr1 at1)
        have hb1 : Below w.heap.size w w1 := (HB.out.alloc HB.out.size _).grown gr1 (Nat.le_trans HB.out.size (by simp)) (fun k hk => (HO.out.lt k hk).1)
        have O1 : Hid (w1.ownsRow w.heap.size 38 1 v1 (i + 1) (dvs (os ++ [d]))) := Lib.hid (by rw [show dvs (os ++ [d]) = dvs os ++ dvs [d] by simp [dvs]]; exact own1)
        have HB1 := Lib.hid hb1
        clear own1 gr1 at1 hb1 HO HB
        have HL1 : Hid ((os ++ [d]).length = i + 1) := Lib.hid (by rw [List.length_append, HL.out]; rfl)
        have HDD : Hid (Dig (os ++ [d])) := Lib.hid (HD.out.append (Dig.cons hdl Dig.nil))
        go_wp2_with fail
        go_roundw
        case rel => exact ⟨v1, i + 1, q, os ++ [d], rfl, by go_num, (by first | rfl | rw [hzq]), hql, by omega, HL1, HDD, HV2, O1, HB1⟩
        case measure => simp [intOf]; omega
      · obtain rfl : i = m1 := by omega
        have hv : val os = tv l1 - tv l2 := by
          rw [HXY.out.1, HXY.out.2]
          have := sub_end (n := i) HL.out HD.out R1.out.len (by rw [R2.out.len]; exact HW.out) (by rw [val_digs, val_digs]; omega) HV.out
          rwa [val_digs, val_digs] at this
        obtain ⟨A, c, rfl, ro⟩ := rd_of_own HD.out HL.out HO.out
        have HRO := Lib.hid ro
        have HVV := Lib.hid hv
        clear ro hv
        have hg1 : ¬ (i : Int) < (i : Int) := by omega
        go_wp2_with fail
        refine (rlow_f _ _ _ _ _ HRO.out (by omega)).mono ?_
        rintro e w2 ⟨A2, n2, c2, rfl, r2, hb2, hf2⟩
        have HF : Hid (RetSF w (tv l1) (tv l2) (.returned (.tuple #[.slice A2 n2 c2, .bool true])) w2) := Lib.hid ⟨A2, n2, c2, by rw [HXY.out.1, HXY.out.2, decide_eq_true (by omega)], by rw [← HVV.out]; exact r2, bltB HB.out HB.out.size hb2, fun ad e => Nat.le_trans HB.out.size (hf2 ad e)⟩
        clear r2 hb2 hf2
        go_wp2_with fail
        go_ret2
        exact HF.out

theorem rsub_any (w : World) (A1 A2 : Option Addr) (n1 c1 n2 c2 : Nat) (l1 l2 : List Nat) (h1 : Rd w w.heap.size A1 n1 c1 l1) (h2 : Rd w w.heap.size A2 n2 c2 l2) (hn1 : n1 ≤ 65536) (hn2 : n2 ≤ 65536) :
    Calls Tryz.prog 79 #[.slice A1 n1 c1, .slice A2 n2 c2] w (RetS w (tv l1) (tv l2)) :=
  (rsub_f w A1 A2 n1 c1 n2 c2 l1 l2 h1 h2 hn1 hn2).mono fun _ _ ⟨A, n, c, he, hr, hb, _⟩ => ⟨A, n, c, he, hr, hb⟩

end Go.Proofs.YthkgeafidbihmaaGreatDoor
