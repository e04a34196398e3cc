/-
  The document's text of a number.
-/
import Derived.Test.YtoblhbeeimboaaaDoorRefq
import Derived.Test.YtoblhbeeimboaaaDoorNblk
import Derived.Test.YtoblhbeeimboaaaDoorOrd2
import Derived.Lib.ItoaMem
import Derived.Lib.ItoaLen
import Derived.Deep.RegionHeld3
import Derived.Laws.BytesArg
namespace Go.Proofs.YtoblhbeeimboaaaDoor
open Go.RowKit Go.Shelf
set_option linter.unusedVariables false
set_option linter.unusedSimpArgs false
attribute [local go_sem] Oper.semAt_some

/-- A row of one byte, as a text. -/
theorem conv1 (W : World) (G d : Nat) (hB : Blk W G 5 #[.int .u8 d]) : (convert 41 9 (.slice (some ⟨G, 0, none⟩) 1 1)).run Tryd.prog W = .ok (.string ⟨#[UInt8.ofNat d]⟩) W := by
  refine (run_convert_bytes_arg W 41 5 Tryd.underlying41 Tryd.underlying5 G 0 1 1 [(d : Int)] rfl (fun i hi => ?_) 9 Tryd.underlying9).trans ?_
  · obtain rfl : i = 0 := by omega
    exact hB.cell 0
  · rfl

theorem dec_app (n : Nat) (h : 10 ≤ n) : (⟨(Lib.decDigits n).toArray⟩ : ByteArray) = ⟨(Lib.decDigits (n / 10)).toArray⟩ ++ ⟨#[UInt8.ofNat (48 + n % 10)]⟩ := by
  rw [Lib.decDigits, dif_neg (by omega)]
  apply ByteArray.ext
  simp
theorem dec_one (n : Nat) (h : n < 10) : (⟨#[UInt8.ofNat (48 + n)]⟩ : ByteArray) = ⟨(Lib.decDigits n).toArray⟩ := by
  rw [Lib.decDigits_one h]

theorem rtext_small (w : World) (n : Nat) (hn : n < 10) : Calls Tryd.prog 19 #[.int .i64 n] w fun e w' => e = .returned (.string ⟨(Lib.decDigits n).toArray⟩) ∧ Below w.heap.size w w' := by
  have g0 : ¬ ((n : Int) < 0) := by omega
  have g1 : (n : Int) < 10 := by omega
  have HD := Lib.hid (dec_one n hn)
  have e1 : IntKind.i64.wrap (48 + (n : Int)) = ((48 + n : Nat) : Int) := by rw [show 48 + (n : Int) = ((48 + n : Nat) : Int) by omega]; exact IntWalk.i64_in _ (by omega)
  obtain ⟨d, hd⟩ : ∃ d, 48 + n = d := ⟨_, rfl⟩
  rw [hd] at e1 HD
  have e2 : IntKind.u8.wrap (d : Int) = (d : Int) := IntWalk.u8_in _ (by omega)
  have e3 := conv1 (w.alloc (.cells #[.int .u8 (d : Int)] 5)) w.heap.size d (Blk.new w _ _)
  clear hd hn
  go_enter Tryd.func19, Tryd.ntmps19
  go_wp2_with fail
  go_ret
  exact ⟨by rw [HD.out]; rfl, (Below.refl _ _).alloc (Nat.le_refl _) _⟩

theorem rtext_small' (w : World) (n : Nat) (hn : n < 10) (h0 : 0 < n) : Calls Tryd.prog 19 #[.int .i64 (-(n : Int))] w fun e w' => e = .returned (.string ⟨(45 :: Lib.decDigits n).toArray⟩) ∧ Below w.heap.size w w' := by
  have g0 : -(n : Int) < 0 := by omega
  have g1 : (-10 : Int) < -(n : Int) := by omega
  have HD2 : Hid ((⟨#[45]⟩ : ByteArray) ++ ⟨#[UInt8.ofNat (48 + n)]⟩ = ⟨(45 :: Lib.decDigits n).toArray⟩) := Lib.hid (by rw [Lib.decDigits_one hn]; apply ByteArray.ext; simp)
  have e1 : IntKind.i64.wrap (48 - -(n : Int)) = ((48 + n : Nat) : Int) := by rw [show 48 - -(n : Int) = ((48 + n : Nat) : Int) by omega]; exact IntWalk.i64_in _ (by omega)
  have e1' : IntKind.i64.wrap (48 + (n : Int)) = ((48 + n : Nat) : Int) := by rw [show 48 + (n : Int) = ((48 + n : Nat) : Int) by omega]; exact IntWalk.i64_in _ (by omega)
  obtain ⟨d, hd⟩ : ∃ d, 48 + n = d := ⟨_, rfl⟩
  rw [hd] at e1 e1' HD2
  have e2 : IntKind.u8.wrap (d : Int) = (d : Int) := IntWalk.u8_in _ (by omega)
  have e3 := conv1 (w.alloc (.cells #[.int .u8 (d : Int)] 5)) w.heap.size d (Blk.new w _ _)
  clear hd hn
  go_enter Tryd.func19, Tryd.ntmps19
  go_wp2_with fail
  go_ret
  exact ⟨by rw [← HD2.out]; rfl, (Below.refl _ _).alloc (Nat.le_refl _) _⟩

theorem dec_len21 {n : Nat} (h : n ≤ 9223372036854775807) : (Lib.decDigits n).length ≤ 21 := by
  have := Lib.itoa_length_le (n : Int) (by omega) (by omega)
  rw [Lib.itoa_nonneg] at this
  exact this

set_option maxRecDepth 100000 in
theorem rtext_nat : ∀ (k n : Nat), n ≤ k → n ≤ 9223372036854775807 → ∀ w : World, Calls Tryd.prog 19 #[.int .i64 n] w fun e w' => e = .returned (.string ⟨(Lib.decDigits n).toArray⟩) ∧ Below w.heap.size w w' := by
  intro k
  induction k with
  | zero => intro n h _ w; exact rtext_small w n (by omega)
  | succ k ih =>
    intro n h hn w
    by_cases hs : n < 10
    · exact rtext_small w n hs
    · have g0 : ¬ ((n : Int) < 0) := by omega
      have g1 : ¬ (n : Int) < 10 := by omega
      have HD := Lib.hid (dec_app n (by omega))
      obtain ⟨q, hq⟩ : ∃ q, n / 10 = q := ⟨_, rfl⟩
      obtain ⟨r, hr⟩ : ∃ r, n % 10 = r := ⟨_, rfl⟩
      have hql := dec_len21 (n := q) (by omega)
      have e4 : (n : Int) % 10 = (r : Int) := by omega
      have e4' : (n : Int).tmod 10 = (r : Int) := by rw [Int.tmod_eq_emod_of_nonneg (by omega)]; exact e4
      have e5 : (n : Int) / 10 = (q : Int) := by omega
      have ew : IntKind.i64.wrap (q : Int) = (q : Int) := IntWalk.i64_in _ (by omega)
      have e1 : IntKind.i64.wrap (48 + (r : Int)) = ((48 + r : Nat) : Int) := by rw [show 48 + (r : Int) = ((48 + r : Nat) : Int) by omega]; exact IntWalk.i64_in _ (by omega)
      rw [hq, hr] at HD
      have hqk : Hid (q ≤ k ∧ q ≤ 9223372036854775807) := Lib.hid (by omega)
      obtain ⟨d, hd⟩ : ∃ d, 48 + r = d := ⟨_, rfl⟩
      rw [hd] at e1 HD
      have e2 : IntKind.u8.wrap (d : Int) = (d : Int) := IntWalk.u8_in _ (by omega)
      clear hd hq hr hs hn h
      have HI := Lib.hid ih
      clear ih
      go_enter Tryd.func19, Tryd.ntmps19
      go_wp2_with fail
      refine wp_region_noPanic ?_
      refine ord_begin 10 (fun wx => Below w.heap.size w wx) (by kernel_rfl) ?_
      have hx0 : Below w.heap.size w w.drew := (Below.refl _ _).drew
      refine ord_take (i := 0) (v := ?_) (by kernel_rfl) rfl (by decide) (by kernel_rfl) (by kernel_rfl) (fun _ _ _ h => h) (Or.inl ⟨by rfl, ?_⟩) hx0 ?_
      rotate_left
      · intro wz hz; go_simp; (try with_reducible rfl)
      try simp only [Act.put, List.getElem_toArray, List.getElem_cons_zero, List.getElem_cons_succ, List.setIfInBounds_toArray, List.set_cons_zero, List.set_cons_succ]
      refine ord_take (i := 1) (v := ?_) (by kernel_rfl) rfl (by decide) (by kernel_rfl) (by kernel_rfl) (fun _ _ _ h => h) (Or.inl ⟨by rfl, ?_⟩) hx0 ?_
      rotate_left
      · intro wz hz; go_simp; (try with_reducible rfl)
      try simp only [Act.put, List.getElem_toArray, List.getElem_cons_zero, List.getElem_cons_succ, List.setIfInBounds_toArray, List.set_cons_zero, List.set_cons_succ]
      refine ord_take (i := 3) (v := ?_) (by kernel_rfl) rfl (by decide) (by kernel_rfl) (by kernel_rfl) (fun _ _ _ h => h) (Or.inl ⟨by rfl, ?_⟩) hx0 ?_
      rotate_left
      · intro wz hz; go_simp; (try with_reducible rfl)
      try simp only [Act.put, List.getElem_toArray, List.getElem_cons_zero, List.getElem_cons_succ, List.setIfInBounds_toArray, List.set_cons_zero, List.set_cons_succ]
      refine ord_take (i := 4) (v := ?_) (by kernel_rfl) rfl (by decide) (by kernel_rfl) (by kernel_rfl) (fun _ _ _ h => h) (Or.inl ⟨by rfl, ?_⟩) hx0 ?_
      rotate_left
      · intro wz hz; go_simp; (try with_reducible rfl)
      try simp only [Act.put, List.getElem_toArray, List.getElem_cons_zero, List.getElem_cons_succ, List.setIfInBounds_toArray, List.set_cons_zero, List.set_cons_succ]
      refine ord_take (i := 5) (v := ?_) (by kernel_rfl) rfl (by decide) (by kernel_rfl) (by kernel_rfl) (fun _ _ _ h => h) (Or.inl ⟨by rfl, ?_⟩) hx0 ?_
      rotate_left
      · intro wz hz; go_simp; (try with_reducible rfl)
      try simp only [Act.put, List.getElem_toArray, List.getElem_cons_zero, List.getElem_cons_succ, List.setIfInBounds_toArray, List.set_cons_zero, List.set_cons_succ]
      refine ord_take (i := 6) (v := ?_) (by kernel_rfl) rfl (by decide) (by kernel_rfl) (by kernel_rfl) (fun _ _ _ h => h) (Or.inl ⟨by rfl, ?_⟩) hx0 ?_
      rotate_left
      · intro wz hz; go_simp; (try with_reducible rfl)
      try simp only [Act.put, List.getElem_toArray, List.getElem_cons_zero, List.getElem_cons_succ, List.setIfInBounds_toArray, List.set_cons_zero, List.set_cons_succ]
      refine ord_funnel (F := ?F7) (k := 1) #[true, true, true, true, true, true, true, true, true, true, false] (fun G W => Below w.heap.size w W) ?_ ?_
      rotate_left
      · intro HQ
        refine ord_step2 (i := 2) (k := 7) rfl rfl (by decide) (by decide) (by kernel_rfl) (by rfl) (by rfl) (fun K hK => ?_) (fun K hK => ?_)
        · go_simp
          refine (HI.out q hqk.out.1 hqk.out.2 w.drew).mono ?_
          rintro y X1 ⟨rfl, hb⟩
          have hx1 := bltB hx0 hx0.size hb
          clear hb
          refine hK _ _ hx1 ?_
          clear hK K
          try simp only [Act.put, List.getElem_toArray, List.getElem_cons_zero, List.getElem_cons_succ, List.setIfInBounds_toArray, List.set_cons_zero, List.set_cons_succ]
          refine ord_step (i := 7) rfl (by decide) (by kernel_rfl) (by rfl) (fun K hK => ?_)
          go_simp
          obtain ⟨G, hG⟩ : ∃ G, X1.heap.size = G := ⟨_, rfl⟩
          have hN : Blk (X1.alloc (.cells #[.int .u8 (d : Int)] 5)) G 5 #[.int .u8 (d : Int)] := hG ▸ Blk.new X1 _ _
          rw [hG]
          have hx2 : Below w.heap.size w (X1.alloc (.cells #[.int .u8 (d : Int)] 5)) := hx1.alloc hx1.size _
          refine hK _ _ hx2 ?_
          clear hK K
          try simp only [Act.put, List.getElem_toArray, List.getElem_cons_zero, List.getElem_cons_succ, List.setIfInBounds_toArray, List.set_cons_zero, List.set_cons_succ]
          generalize X1.alloc (.cells #[.int .u8 (d : Int)] 5) = X2 at *
          clear hG
          refine ord_step (i := 8) rfl (by decide) (by kernel_rfl) (by rfl) (fun K hK => ?_)
          have e3 := conv1 X2 G d hN
          go_simp
          clear e3
          refine hK _ _ hx2 ?_
          clear hK K
          try simp only [Act.put, List.getElem_toArray, List.getElem_cons_zero, List.getElem_cons_succ, List.setIfInBounds_toArray, List.set_cons_zero, List.set_cons_succ]
          refine ord_take (i := 9) (v := ?_) (by kernel_rfl) rfl (by decide) (by kernel_rfl) (by kernel_rfl) (fun _ _ _ h => h) (Or.inl ⟨by rfl, ?_⟩) hx2 ?_
          rotate_left
          · intro wz hz; go_simp; rw [if_neg (by omega)]
          try simp only [Act.put, List.getElem_toArray, List.getElem_cons_zero, List.getElem_cons_succ, List.setIfInBounds_toArray, List.set_cons_zero, List.set_cons_succ]
          refine ord_relist #[true, true, true, true, true, true, true, true, true, true, false] (by kernel_rfl) ?_
          exact HQ G _ hx2
        · go_simp
          obtain ⟨G, hG⟩ : ∃ G, w.heap.size = G := ⟨_, rfl⟩
          have hN : Blk ((w.alloc (.cells #[.int .u8 (d : Int)] 5)).drew) G 5 #[.int .u8 (d : Int)] := hG ▸ (Blk.new w _ _).drew
          rw [hG]
          have hx1 : Below w.heap.size w ((w.alloc (.cells #[.int .u8 (d : Int)] 5)).drew) := ((Below.refl _ _).alloc (Nat.le_refl _) _).drew
          refine hK _ _ hx1 ?_
          clear hK K
          try simp only [Act.put, List.getElem_toArray, List.getElem_cons_zero, List.getElem_cons_succ, List.setIfInBounds_toArray, List.set_cons_zero, List.set_cons_succ]
          generalize (w.alloc (.cells #[.int .u8 (d : Int)] 5)).drew = X1 at *
          clear hG
          refine ord_step2 (i := 2) (k := 8) rfl rfl (by decide) (by decide) (by kernel_rfl) (by rfl) (by rfl) (fun K hK => ?_) (fun K hK => ?_)
          · go_simp
            refine (HI.out q hqk.out.1 hqk.out.2 X1).mono ?_
            rintro y X2 ⟨rfl, hb⟩
            have hx2 := bltB hx1 hx1.size hb
            have hN := hN.below hb hN.lt
            clear hb
            refine hK _ _ hx2 ?_
            clear hK K
            try simp only [Act.put, List.getElem_toArray, List.getElem_cons_zero, List.getElem_cons_succ, List.setIfInBounds_toArray, List.set_cons_zero, List.set_cons_succ]
            refine ord_step (i := 8) rfl (by decide) (by kernel_rfl) (by rfl) (fun K hK => ?_)
            have e3 := conv1 X2 G d hN
            go_simp
            clear e3
            refine hK _ _ hx2 ?_
            clear hK K
            try simp only [Act.put, List.getElem_toArray, List.getElem_cons_zero, List.getElem_cons_succ, List.setIfInBounds_toArray, List.set_cons_zero, List.set_cons_succ]
            refine ord_take (i := 9) (v := ?_) (by kernel_rfl) rfl (by decide) (by kernel_rfl) (by kernel_rfl) (fun _ _ _ h => h) (Or.inl ⟨by rfl, ?_⟩) hx2 ?_
            rotate_left
            · intro wz hz; go_simp; rw [if_neg (by omega)]
            try simp only [Act.put, List.getElem_toArray, List.getElem_cons_zero, List.getElem_cons_succ, List.setIfInBounds_toArray, List.set_cons_zero, List.set_cons_succ]
            refine ord_relist #[true, true, true, true, true, true, true, true, true, true, false] (by kernel_rfl) ?_
            exact HQ G _ hx2
          · have e3 := conv1 X1 G d hN
            go_simp
            clear e3
            refine hK _ _ hx1 ?_
            clear hK K
            try simp only [Act.put, List.getElem_toArray, List.getElem_cons_zero, List.getElem_cons_succ, List.setIfInBounds_toArray, List.set_cons_zero, List.set_cons_succ]
            refine ord_step (i := 2) rfl (by decide) (by kernel_rfl) (by rfl) (fun K hK => ?_)
            go_simp
            refine (HI.out q hqk.out.1 hqk.out.2 X1).mono ?_
            rintro y X3 ⟨rfl, hb⟩
            have hx3 := bltB hx1 hx1.size hb
            have hN := hN.below hb hN.lt
            clear hb
            refine hK _ _ hx3 ?_
            clear hK K
            try simp only [Act.put, List.getElem_toArray, List.getElem_cons_zero, List.getElem_cons_succ, List.setIfInBounds_toArray, List.set_cons_zero, List.set_cons_succ]
            refine ord_take (i := 9) (v := ?_) (by kernel_rfl) rfl (by decide) (by kernel_rfl) (by kernel_rfl) (fun _ _ _ h => h) (Or.inl ⟨by rfl, ?_⟩) hx3 ?_
            rotate_left
            · intro wz hz; go_simp; rw [if_neg (by omega)]
            try simp only [Act.put, List.getElem_toArray, List.getElem_cons_zero, List.getElem_cons_succ, List.setIfInBounds_toArray, List.set_cons_zero, List.set_cons_succ]
            refine ord_relist #[true, true, true, true, true, true, true, true, true, true, false] (by kernel_rfl) ?_
            exact HQ G _ hx3
      rintro G W hx
      refine ord_rest (by kernel_rfl) ?_
      refine any_step (i := 10) rfl (by kernel_rfl) (by rfl) (fun K hK => ?_)
      go_simp
      refine hK _ _ ?_
      clear hK K
      try simp only [Act.put, List.getElem_toArray, List.getElem_cons_zero, List.getElem_cons_succ, List.setIfInBounds_toArray, List.set_cons_zero, List.set_cons_succ]
      refine wpAny_done (by kernel_rfl) ?_ _
      refine NoPanic.normal ?_
      go_wp2_with fail
      go_ret
      exact ⟨by rw [HD.out]; rfl, hx⟩

/-- What is below nought, from ten on. -/
theorem dec_app' (n : Nat) (h : 10 ≤ n) : (⟨(45 :: Lib.decDigits n).toArray⟩ : ByteArray) = ⟨(45 :: Lib.decDigits (n / 10)).toArray⟩ ++ ⟨#[UInt8.ofNat (48 + n % 10)]⟩ := by
  rw [Lib.decDigits, dif_neg (by omega)]
  apply ByteArray.ext
  simp

set_option maxRecDepth 100000 in
theorem rtext_neg : ∀ (k n : Nat), n ≤ k → 0 < n → n ≤ 9223372036854775808 → ∀ w : World, Calls Tryd.prog 19 #[.int .i64 (-(n : Int))] w fun e w' => e = .returned (.string ⟨(45 :: Lib.decDigits n).toArray⟩) ∧ Below w.heap.size w w' := by
  intro k
  induction k with
  | zero => intro n h h0 _ w; omega
  | succ k ih =>
    intro n h h0 hn w
    by_cases hs : n < 10
    · exact rtext_small' w n hs h0
    · have g0 : -(n : Int) < 0 := by omega
      have g1 : ¬ (-10 : Int) < -(n : Int) := by omega
      have HD := Lib.hid (dec_app' n (by omega))
      obtain ⟨q, hq⟩ : ∃ q, n / 10 = q := ⟨_, rfl⟩
      obtain ⟨r, hr⟩ : ∃ r, n % 10 = r := ⟨_, rfl⟩
      have hql := dec_len21 (n := q) (by omega)
      have e4 : (-(n : Int)).tmod 10 = -(r : Int) := by rw [Int.neg_tmod, Int.tmod_eq_emod_of_nonneg (by omega)]; omega
      have e5 : (-(n : Int)).tdiv 10 = -(q : Int) := by rw [Int.neg_tdiv, Int.tdiv_eq_ediv_of_nonneg (by omega)]; omega
      have ew : IntKind.i64.wrap (-(q : Int)) = -(q : Int) := IntWalk.i64_in _ (by omega)
      have e1 : IntKind.i64.wrap (48 - -(r : Int)) = ((48 + r : Nat) : Int) := by rw [show 48 - -(r : Int) = ((48 + r : Nat) : Int) by omega]; exact IntWalk.i64_in _ (by omega)
      have e1' : IntKind.i64.wrap (48 + (r : Int)) = ((48 + r : Nat) : Int) := by rw [show 48 + (r : Int) = ((48 + r : Nat) : Int) by omega]; exact IntWalk.i64_in _ (by omega)
      rw [hq, hr] at HD
      have hqk : Hid (q ≤ k ∧ 0 < q ∧ q ≤ 9223372036854775808) := Lib.hid (by omega)
      obtain ⟨d, hd⟩ : ∃ d, 48 + r = d := ⟨_, rfl⟩
      rw [hd] at e1 e1' HD
      have e2 : IntKind.u8.wrap (d : Int) = (d : Int) := IntWalk.u8_in _ (by omega)
      clear hd hq hr hs hn h h0
      have HI := Lib.hid ih
      clear ih
      go_enter Tryd.func19, Tryd.ntmps19
      go_wp2_with fail
      refine wp_region_noPanic ?_
      refine ord_begin 10 (fun wx => Below w.heap.size w wx) (by kernel_rfl) ?_
      have hx0 : Below w.heap.size w w.drew := (Below.refl _ _).drew
      refine ord_take (i := 0) (v := ?_) (by kernel_rfl) rfl (by decide) (by kernel_rfl) (by kernel_rfl) (fun _ _ _ h => h) (Or.inl ⟨by rfl, ?_⟩) hx0 ?_
      rotate_left
      · intro wz hz; go_simp; (try with_reducible rfl)
      try simp only [Act.put, List.getElem_toArray, List.getElem_cons_zero, List.getElem_cons_succ, List.setIfInBounds_toArray, List.set_cons_zero, List.set_cons_succ]
      refine ord_take (i := 1) (v := ?_) (by kernel_rfl) rfl (by decide) (by kernel_rfl) (by kernel_rfl) (fun _ _ _ h => h) (Or.inl ⟨by rfl, ?_⟩) hx0 ?_
      rotate_left
      · intro wz hz; go_simp; (try with_reducible rfl)
      try simp only [Act.put, List.getElem_toArray, List.getElem_cons_zero, List.getElem_cons_succ, List.setIfInBounds_toArray, List.set_cons_zero, List.set_cons_succ]
      refine ord_take (i := 3) (v := ?_) (by kernel_rfl) rfl (by decide) (by kernel_rfl) (by kernel_rfl) (fun _ _ _ h => h) (Or.inl ⟨by rfl, ?_⟩) hx0 ?_
      rotate_left
      · intro wz hz; go_simp; (try with_reducible rfl)
      try simp only [Act.put, List.getElem_toArray, List.getElem_cons_zero, List.getElem_cons_succ, List.setIfInBounds_toArray, List.set_cons_zero, List.set_cons_succ]
      refine ord_take (i := 4) (v := ?_) (by kernel_rfl) rfl (by decide) (by kernel_rfl) (by kernel_rfl) (fun _ _ _ h => h) (Or.inl ⟨by rfl, ?_⟩) hx0 ?_
      rotate_left
      · intro wz hz; go_simp; (try with_reducible rfl)
      try simp only [Act.put, List.getElem_toArray, List.getElem_cons_zero, List.getElem_cons_succ, List.setIfInBounds_toArray, List.set_cons_zero, List.set_cons_succ]
      refine ord_take (i := 5) (v := ?_) (by kernel_rfl) rfl (by decide) (by kernel_rfl) (by kernel_rfl) (fun _ _ _ h => h) (Or.inl ⟨by rfl, ?_⟩) hx0 ?_
      rotate_left
      · intro wz hz; go_simp; (try with_reducible rfl)
      try simp only [Act.put, List.getElem_toArray, List.getElem_cons_zero, List.getElem_cons_succ, List.setIfInBounds_toArray, List.set_cons_zero, List.set_cons_succ]
      refine ord_take (i := 6) (v := ?_) (by kernel_rfl) rfl (by decide) (by kernel_rfl) (by kernel_rfl) (fun _ _ _ h => h) (Or.inl ⟨by rfl, ?_⟩) hx0 ?_
      rotate_left
      · intro wz hz; go_simp; (try with_reducible rfl)
      try simp only [Act.put, List.getElem_toArray, List.getElem_cons_zero, List.getElem_cons_succ, List.setIfInBounds_toArray, List.set_cons_zero, List.set_cons_succ]
      refine ord_funnel (F := ?F4) (k := 1) #[true, true, true, true, true, true, true, true, true, true, false] (fun G W => Below w.heap.size w W) ?_ ?_
      rotate_left
      · intro HQ
        refine ord_step2 (i := 2) (k := 7) rfl rfl (by decide) (by decide) (by kernel_rfl) (by rfl) (by rfl) (fun K hK => ?_) (fun K hK => ?_)
        · go_simp
          refine (HI.out q hqk.out.1 hqk.out.2.1 hqk.out.2.2 w.drew).mono ?_
          rintro y X1 ⟨rfl, hb⟩
          have hx1 := bltB hx0 hx0.size hb
          clear hb
          refine hK _ _ hx1 ?_
          clear hK K
          try simp only [Act.put, List.getElem_toArray, List.getElem_cons_zero, List.getElem_cons_succ, List.setIfInBounds_toArray, List.set_cons_zero, List.set_cons_succ]
          refine ord_step (i := 7) rfl (by decide) (by kernel_rfl) (by rfl) (fun K hK => ?_)
          go_simp
          obtain ⟨G, hG⟩ : ∃ G, X1.heap.size = G := ⟨_, rfl⟩
          have hN : Blk (X1.alloc (.cells #[.int .u8 (d : Int)] 5)) G 5 #[.int .u8 (d : Int)] := hG ▸ Blk.new X1 _ _
          rw [hG]
          have hx2 : Below w.heap.size w (X1.alloc (.cells #[.int .u8 (d : Int)] 5)) := hx1.alloc hx1.size _
          refine hK _ _ hx2 ?_
          clear hK K
          try simp only [Act.put, List.getElem_toArray, List.getElem_cons_zero, List.getElem_cons_succ, List.setIfInBounds_toArray, List.set_cons_zero, List.set_cons_succ]
          generalize X1.alloc (.cells #[.int .u8 (d : Int)] 5) = X2 at *
          clear hG
          refine ord_step (i := 8) rfl (by decide) (by kernel_rfl) (by rfl) (fun K hK => ?_)
          have e3 := conv1 X2 G d hN
          go_simp
          clear e3
          refine hK _ _ hx2 ?_
          clear hK K
          try simp only [Act.put, List.getElem_toArray, List.getElem_cons_zero, List.getElem_cons_succ, List.setIfInBounds_toArray, List.set_cons_zero, List.set_cons_succ]
          refine ord_take (i := 9) (v := ?_) (by kernel_rfl) rfl (by decide) (by kernel_rfl) (by kernel_rfl) (fun _ _ _ h => h) (Or.inl ⟨by rfl, ?_⟩) hx2 ?_
          rotate_left
          · intro wz hz; go_simp; rw [if_neg (by omega)]
          try simp only [Act.put, List.getElem_toArray, List.getElem_cons_zero, List.getElem_cons_succ, List.setIfInBounds_toArray, List.set_cons_zero, List.set_cons_succ]
          refine ord_relist #[true, true, true, true, true, true, true, true, true, true, false] (by kernel_rfl) ?_
          exact HQ G _ hx2
        · go_simp
          obtain ⟨G, hG⟩ : ∃ G, w.heap.size = G := ⟨_, rfl⟩
          have hN : Blk ((w.alloc (.cells #[.int .u8 (d : Int)] 5)).drew) G 5 #[.int .u8 (d : Int)] := hG ▸ (Blk.new w _ _).drew
          rw [hG]
          have hx1 : Below w.heap.size w ((w.alloc (.cells #[.int .u8 (d : Int)] 5)).drew) := ((Below.refl _ _).alloc (Nat.le_refl _) _).drew
          refine hK _ _ hx1 ?_
          clear hK K
          try simp only [Act.put, List.getElem_toArray, List.getElem_cons_zero, List.getElem_cons_succ, List.setIfInBounds_toArray, List.set_cons_zero, List.set_cons_succ]
          generalize (w.alloc (.cells #[.int .u8 (d : Int)] 5)).drew = X1 at *
          clear hG
          refine ord_step2 (i := 2) (k := 8) rfl rfl (by decide) (by decide) (by kernel_rfl) (by rfl) (by rfl) (fun K hK => ?_) (fun K hK => ?_)
          · go_simp
            refine (HI.out q hqk.out.1 hqk.out.2.1 hqk.out.2.2 X1).mono ?_
            rintro y X2 ⟨rfl, hb⟩
            have hx2 := bltB hx1 hx1.size hb
            have hN := hN.below hb hN.lt
            clear hb
            refine hK _ _ hx2 ?_
            clear hK K
            try simp only [Act.put, List.getElem_toArray, List.getElem_cons_zero, List.getElem_cons_succ, List.setIfInBounds_toArray, List.set_cons_zero, List.set_cons_succ]
            refine ord_step (i := 8) rfl (by decide) (by kernel_rfl) (by rfl) (fun K hK => ?_)
            have e3 := conv1 X2 G d hN
            go_simp
            clear e3
            refine hK _ _ hx2 ?_
            clear hK K
            try simp only [Act.put, List.getElem_toArray, List.getElem_cons_zero, List.getElem_cons_succ, List.setIfInBounds_toArray, List.set_cons_zero, List.set_cons_succ]
            refine ord_take (i := 9) (v := ?_) (by kernel_rfl) rfl (by decide) (by kernel_rfl) (by kernel_rfl) (fun _ _ _ h => h) (Or.inl ⟨by rfl, ?_⟩) hx2 ?_
            rotate_left
            · intro wz hz; go_simp; rw [if_neg (by omega)]
            try simp only [Act.put, List.getElem_toArray, List.getElem_cons_zero, List.getElem_cons_succ, List.setIfInBounds_toArray, List.set_cons_zero, List.set_cons_succ]
            refine ord_relist #[true, true, true, true, true, true, true, true, true, true, false] (by kernel_rfl) ?_
            exact HQ G _ hx2
          · have e3 := conv1 X1 G d hN
            go_simp
            clear e3
            refine hK _ _ hx1 ?_
            clear hK K
            try simp only [Act.put, List.getElem_toArray, List.getElem_cons_zero, List.getElem_cons_succ, List.setIfInBounds_toArray, List.set_cons_zero, List.set_cons_succ]
            refine ord_step (i := 2) rfl (by decide) (by kernel_rfl) (by rfl) (fun K hK => ?_)
            go_simp
            refine (HI.out q hqk.out.1 hqk.out.2.1 hqk.out.2.2 X1).mono ?_
            rintro y X3 ⟨rfl, hb⟩
            have hx3 := bltB hx1 hx1.size hb
            have hN := hN.below hb hN.lt
            clear hb
            refine hK _ _ hx3 ?_
            clear hK K
            try simp only [Act.put, List.getElem_toArray, List.getElem_cons_zero, List.getElem_cons_succ, List.setIfInBounds_toArray, List.set_cons_zero, List.set_cons_succ]
            refine ord_take (i := 9) (v := ?_) (by kernel_rfl) rfl (by decide) (by kernel_rfl) (by kernel_rfl) (fun _ _ _ h => h) (Or.inl ⟨by rfl, ?_⟩) hx3 ?_
            rotate_left
            · intro wz hz; go_simp; rw [if_neg (by omega)]
            try simp only [Act.put, List.getElem_toArray, List.getElem_cons_zero, List.getElem_cons_succ, List.setIfInBounds_toArray, List.set_cons_zero, List.set_cons_succ]
            refine ord_relist #[true, true, true, true, true, true, true, true, true, true, false] (by kernel_rfl) ?_
            exact HQ G _ hx3
      rintro G W hx
      refine ord_rest (by kernel_rfl) ?_
      refine any_step (i := 10) rfl (by kernel_rfl) (by rfl) (fun K hK => ?_)
      go_simp
      refine hK _ _ ?_
      clear hK K
      try simp only [Act.put, List.getElem_toArray, List.getElem_cons_zero, List.getElem_cons_succ, List.setIfInBounds_toArray, List.set_cons_zero, List.set_cons_succ]
      refine wpAny_done (by kernel_rfl) ?_ _
      refine NoPanic.normal ?_
      go_wp2_with fail
      go_ret
      exact ⟨by rw [HD.out]; rfl, hx⟩

/-- The document's text of a number. -/
theorem rtext_any (w : World) (n : Int) (h0 : -9223372036854775808 ≤ n) (h1 : n ≤ 9223372036854775807) : Calls Tryd.prog 19 #[.int .i64 n] w fun e w' => e = .returned (.string ⟨(Lib.itoa n).toArray⟩) ∧ Below w.heap.size w w' := by
  rcases Int.lt_or_le n 0 with h | h
  · obtain ⟨m, hm⟩ : ∃ m : Nat, n = -(m : Int) := ⟨n.natAbs, by omega⟩
    subst hm
    rw [Lib.itoa_neg m (by omega)]
    exact rtext_neg m m (Nat.le_refl _) (by omega) (by omega) w
  · obtain ⟨m, rfl⟩ := Int.eq_ofNat_of_zero_le h
    rw [Lib.itoa_nonneg]
    exact rtext_nat m m (Nat.le_refl _) (by omega) w

end Go.Proofs.YtoblhbeeimboaaaDoor
