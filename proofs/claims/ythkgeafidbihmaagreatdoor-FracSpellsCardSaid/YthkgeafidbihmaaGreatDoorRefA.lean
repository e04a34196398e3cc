/-
  The document's functions on digits: Right, taken, digit, Low, Of.
-/
import Derived.Test.YthkgeafidbihmaaGreatDoorBd
import Derived.Test.YthkgeafidbihmaaGreatDoorApp
import Derived.Test.YthkgeafidbihmaaGreatDoorSub0
namespace Go.Proofs.YthkgeafidbihmaaGreatDoor
open Go.RowKit
set_option linter.unusedVariables false
set_option linter.unusedSimpArgs false

theorem rright_any (w : World) (B : Nat) (A : Option Addr) (n c : Nat) (l : List Nat) (h : Rd w B A n c l) (hn : n ≤ 1048576) :
    Calls Tryz.prog 47 #[.slice A n c] w fun e w' => e = .returned (.bool (rightB l)) ∧ w = w' := by
  rcases Nat.eq_zero_or_pos n with h0 | h0
  · subst h0
    have hl := h.nil_of
    subst hl
    clear h
    go_enter Tryz.func47, Tryz.ntmps47
    go_wp2
    go_ret
    exact ⟨rfl, rfl⟩
  · obtain ⟨b, off, rfl, hb, hc⟩ := h.at_ h0
    obtain ⟨m, rfl⟩ : ∃ m, n = m + 1 := ⟨n - 1, by omega⟩
    have hcell := hc m (by omega)
    have e : rightB l = (l.getD m 0 != 0) := by
      unfold rightB
      rw [h.len]
      have : l.isEmpty = false := by
        cases l with
        | nil => have := h.len; simp at this
        | cons => rfl
      simp [this]
    obtain ⟨d, hd⟩ : ∃ d, l.getD m 0 = d := ⟨_, rfl⟩
    rw [hd] at hcell e
    clear hd hc h
    have hz : (((m + 1 : Nat) : Int) == 0) = false := by simp; omega
    rcases Nat.eq_zero_or_pos d with hd | hd
    · subst hd
      have HE := Lib.hid e
      clear e
      go_enter Tryz.func47, Tryz.ntmps47
      go_wp2
      go_ret
      exact ⟨by rw [HE.out]; rfl, rfl⟩
    · have hd1 : (0 : Int) < (d : Int) := by omega
      have HE := Lib.hid e
      clear e
      go_enter Tryz.func47, Tryz.ntmps47
      go_wp2
      go_ret
      exact ⟨by rw [HE.out]; simp; omega, rfl⟩

/-- What counts of digits lies where they lie. -/
theorem rtaken_any (w : World) (B : Nat) (A : Option Addr) (n c : Nat) (l : List Nat) (h : Rd w B A n c l) (hn : n ≤ 1048576) :
    Calls Tryz.prog 56 #[.slice A n c] w fun e w' => HasD w B n (tv l) e ∧ w = w' := by
  rcases hr : rightB l with _ | _
  · have hf : HasD w B n (tv l) (.returned (.slice none 0 0)) := by
      refine ⟨none, 0, 0, rfl, Nat.zero_le _, ?_⟩
      rw [← tk_eq h.dig]
      unfold tk
      rw [hr]
      exact Rd.nil w B
    have HF := Lib.hid hf
    have HR := Lib.hid hr
    have HH := Lib.hid h
    clear hf hr h
    go_enter Tryz.func56, Tryz.ntmps56
    go_wp2_with fail
    refine (rright_any _ B A n c l HH.out hn).mono ?_
    rintro e w' ⟨rfl, rfl⟩
    rw [HR.out]
    go_wp2_with fail
    go_ret
    exact ⟨HF.out, rfl⟩
  · have hf : HasD w B n (tv l) (.returned (.slice A n c)) := by
      refine ⟨A, n, c, rfl, Nat.le_refl _, ?_⟩
      rw [← tk_eq h.dig]
      unfold tk
      rw [hr]
      exact h
    have HF := Lib.hid hf
    have HR := Lib.hid hr
    have HH := Lib.hid h
    clear hf hr h
    go_enter Tryz.func56, Tryz.ntmps56
    go_wp2_with fail
    refine (rright_any _ B A n c l HH.out hn).mono ?_
    rintro e w' ⟨rfl, rfl⟩
    rw [HR.out]
    go_wp2_with fail
    go_ret
    exact ⟨HF.out, rfl⟩


/-- The digit at a place; 0 beyond all. -/
theorem rdigit_any (w : World) (B : Nat) (A : Option Addr) (n c : Nat) (l : List Nat) (h : Rd w B A n c l) (hn : n ≤ 1048576) (z : Int) (i : Nat) (hz : z = i) :
    Calls Tryz.prog 58 #[.slice A n c, .int .i64 z] w fun e w' => e = .returned (.int .u64 (l.getD i 0 : Nat)) ∧ w = w' := by
  subst hz
  by_cases hi : i < n
  · obtain ⟨b, off, rfl, hb, hc⟩ := h.at_ (by omega)
    have hcell := hc i hi
    have hdl := h.dig.getD i
    obtain ⟨d, hd⟩ : ∃ d, l.getD i 0 = d := ⟨_, rfl⟩
    rw [hd] at hcell hdl ⊢
    clear hd hc h
    have hlt : (i : Int) < (n : Int) := by omega
    go_enter Tryz.func58, Tryz.ntmps58
    go_wp2_with fail
    go_ret
    exact ⟨rfl, rfl⟩
  · have hd : l.getD i 0 = 0 := getD_zero_of_ge (by rw [h.len]; omega)
    rw [hd]
    clear hd h
    have hlt : ¬ (i : Int) < (n : Int) := by omega
    go_enter Tryz.func58, Tryz.ntmps58
    go_wp2_with fail
    go_ret
    exact ⟨rfl, rfl⟩

theorem rd_of_own_f {w : World} {base n : Nat} {v : Value} {l : List Nat} (hd : Dig l) (hl : l.length = n) (h : w.ownsRow base 38 1 v n (dvs l)) : ∃ A c, v = .slice A n c ∧ Rd w w.heap.size A n c l ∧ ∀ ad, A = some ad → base ≤ ad.block := by
  obtain ⟨A, c, hv, hr⟩ := rd_of_own hd hl h
  refine ⟨A, c, hv, hr, fun ad e => ?_⟩
  subst e
  rcases h.2 with ⟨hv', _⟩ | ⟨g, cap, cur, hv', hg, _⟩
  · rw [hv] at hv'; cases hv'
  · rw [hv] at hv'
    injection hv' with e1
    injection e1 with e2
    rw [e2]
    exact hg

theorem RetF.n {w w' : World} {x : Nat} {e : Ending} (h : RetF w x e w') : RetN w x e w' := by
  obtain ⟨A, n, c, he, hr, hb, _⟩ := h
  exact ⟨A, n, c, he, hr, hb⟩

/-- What Low makes at its end: the digits so far, in new memory. -/
theorem low_end {w w1 : World} {v : Value} {n x : Nat} (own : w1.ownsRow w.heap.size 38 1 v n (dvs (digs x))) (hl : (digs x).length = n) (hb : Below w.heap.size w w1) : RetF w x (.returned v) w1 := by
  obtain ⟨A1, c1, rfl, r1, hf⟩ := rd_of_own_f (dig_digs x) hl own
  exact ⟨A1, n, c1, rfl, r1, hb, hf⟩

theorem rlow_f (w : World) (A : Option Addr) (n c : Nat) (l : List Nat) (h : Rd w w.heap.size A n c l) (hn : n ≤ 1048576) :
    Calls Tryz.prog 68 #[.slice A n c] w (RetF w (val l)) := by
  have hfin : ∀ k : Nat, k ≤ n → (∀ i, k ≤ i → l.getD i 0 = 0) → (k = 0 ∨ l.getD (k - 1) 0 ≠ 0) → Rd w w.heap.size A k c (digs (val l)) := fun k hk hz hr => by
    rw [← take_digs h.dig (by rw [h.len]; exact hk) hz hr]
    exact h.take hk
  have hcn := h.cap
  have hz0 : ∀ i, n ≤ i → l.getD i 0 = 0 := fun i hi => getD_zero_of_ge (by rw [h.len]; exact hi)
  obtain ⟨i0, hi, hz0', hz1, hz2⟩ := info_parts infoD
  have HI := Lib.hid (And.intro hi (And.intro hz0' (And.intro hz1 hz2)))
  clear hi hz0' hz1 hz2
  rcases Nat.eq_zero_or_pos n with h0 | h0
  · subst h0
    have HF := Lib.hid (hfin 0 (Nat.le_refl _) hz0 (.inl rfl))
    clear hfin hz0 h
    go_enter Tryz.func68, Tryz.ntmps68
    go_wp2_with fail
    go_loop [3] (fun t => t = .int .i64 0) (fun _ => 0)
    case atStart => rfl
    case round =>
      subst hrel
      go_wp2_with (at_builtin
                   refine wpList_append_any _ rfl (.tmp 18) (.tmp 21) 22 rfl w.heap.size 38 i0 (.int .u32 0) 1 4 Tryz.underlying22 HI.out.1 HI.out.2.1 HI.out.2.2.1 HI.out.2.2.2 rfl (by decide) (.slice (some ⟨w.heap.size, 0, none⟩) 0 0) 0 [] rfl
                     (World.ownsRow_made w #[] 0 (Nat.le_refl _) (by decide) rfl) w.heap.size A 0 c (dvs (digs (val l))) rfl (HF.out.reads.alloc (Nat.le_refl _) _) (dvs_one _) (by simp only [maxLen]; omega) (by omega) (by simp) ?_
                   intro v1 w1 own1 gr1 at1)
      have hb : Below w.heap.size w w1 := ((Below.refl _ _).alloc (Nat.le_refl _) _).grown gr1 (by simp) (fun k hk => by simp [Value.ownBlock] at hk; omega)
      rw [Nat.zero_add, List.nil_append] at own1
      have HE := Lib.hid (low_end own1 HF.out.len hb)
      clear own1 gr1 at1 hb
      go_wp2_with fail
      go_ret
      exact HE.out
  · obtain ⟨b, off, rfl, hb, hc⟩ := h.at_ h0
    have HF := Lib.hid hfin
    have HC := Lib.hid hc
    have HZ := Lib.hid hz0
    clear hfin hc hz0 h
    go_enter Tryz.func68, Tryz.ntmps68
    go_wp2_with fail
    go_loop [3] (fun t => ∃ k : Nat, k ≤ n ∧ t = .int .i64 k ∧ Hid (∀ i, k ≤ i → l.getD i 0 = 0)) (fun t => (intOf t).toNat)
    case atStart => exact ⟨n, Nat.le_refl _, rfl, HZ⟩
    case round =>
      obtain ⟨k, hk, rfl, HK⟩ := hrel
      rcases Nat.eq_zero_or_pos k with hk0 | hk0
      · subst hk0
        have HG := Lib.hid (HF.out 0 (Nat.zero_le _) HK.out (.inl rfl))
        go_wp2_with (at_builtin
                     refine wpList_append_any _ rfl (.tmp 18) (.tmp 21) 22 rfl w.heap.size 38 i0 (.int .u32 0) 1 4 Tryz.underlying22 HI.out.1 HI.out.2.1 HI.out.2.2.1 HI.out.2.2.2 rfl (by decide) (.slice (some ⟨w.heap.size, 0, none⟩) 0 0) 0 [] rfl
                       (World.ownsRow_made w #[] 0 (Nat.le_refl _) (by decide) rfl) w.heap.size (some ⟨b, off, none⟩) 0 c (dvs (digs (val l))) rfl (HG.out.reads.alloc (Nat.le_refl _) _) (dvs_one _) (by simp only [maxLen]; omega) (by omega) (by simp) ?_
                     intro v1 w1 own1 gr1 at1)
        have hb : Below w.heap.size w w1 := ((Below.refl _ _).alloc (Nat.le_refl _) _).grown gr1 (by simp) (fun k hk => by simp [Value.ownBlock] at hk; omega)
        rw [Nat.zero_add, List.nil_append] at own1
        have HE := Lib.hid (low_end own1 HG.out.len hb)
        clear own1 gr1 at1 hb
        go_wp2_with fail
        go_ret
        exact HE.out
      · obtain ⟨m, rfl⟩ : ∃ m, k = m + 1 := ⟨k - 1, by omega⟩
        have hcell := HC.out m (by omega)
        obtain ⟨d, hd⟩ : ∃ d, l.getD m 0 = d := ⟨_, rfl⟩
        rw [hd] at hcell
        have hpos : (0 : Int) < ((m + 1 : Nat) : Int) := by omega
        rcases Nat.eq_zero_or_pos d with hd0 | hd0
        · subst hd0
          have HN : Hid (∀ i, m ≤ i → l.getD i 0 = 0) := Lib.hid (fun i hi => by
            rcases Nat.eq_or_lt_of_le hi with e | e
            · rw [← e]; exact hd
            · exact HK.out i e)
          clear hd
          go_wp2_with fail
          go_round
          case rel => exact ⟨m, by omega, by go_num, HN⟩
          case measure => first | (simp [intOf]; done) | (simp [intOf]; omega)
        · have hd1 : ((d : Int) == 0) = false := by simp; omega
          have HG := Lib.hid (HF.out (m + 1) hk HK.out (.inr (by simp only [Nat.add_sub_cancel]; rw [hd]; omega)))
          clear hd
          go_wp2_with (at_builtin
                       refine wpList_append_any _ rfl (.tmp 18) (.tmp 21) 22 rfl w.heap.size 38 i0 (.int .u32 0) 1 4 Tryz.underlying22 HI.out.1 HI.out.2.1 HI.out.2.2.1 HI.out.2.2.2 rfl (by decide) (.slice (some ⟨w.heap.size, 0, none⟩) 0 0) 0 [] rfl
                         (World.ownsRow_made w #[] 0 (Nat.le_refl _) (by decide) rfl) w.heap.size (some ⟨b, off, none⟩) (m + 1) c (dvs (digs (val l))) rfl (HG.out.reads.alloc (Nat.le_refl _) _) (dvs_one _) (by simp only [maxLen]; omega) (by omega) (by simp) ?_
                       intro v1 w1 own1 gr1 at1)
          have hb : Below w.heap.size w w1 := ((Below.refl _ _).alloc (Nat.le_refl _) _).grown gr1 (by simp) (fun k hk => by simp [Value.ownBlock] at hk; omega)
          rw [Nat.zero_add, List.nil_append] at own1
          have HE := Lib.hid (low_end own1 HG.out.len hb)
          clear own1 gr1 at1 hb
          go_wp2_with fail
          go_ret
          exact HE.out

theorem rlow_any (w : World) (A : Option Addr) (n c : Nat) (l : List Nat) (h : Rd w w.heap.size A n c l) (hn : n ≤ 1048576) :
    Calls Tryz.prog 68 #[.slice A n c] w (RetN w (val l)) := (rlow_f w A n c l h hn).mono fun _ _ h => h.n

theorem rof_any (w : World) (n : Nat) (h : n < 18446744073709551616) : Calls Tryz.prog 46 #[.int .u64 n] w (RetN w n) := by
  have hd : Dig [n % 4294967296, n / 4294967296] := Dig.cons (Nat.mod_lt _ (by decide)) (Dig.cons (by omega) Dig.nil)
  have hB : Blk (w.alloc (.cells #[.int .u32 ((n : Int) % 4294967296), .int .u32 ((n : Int) / 4294967296)] 38)) w.heap.size 38 (cells [n % 4294967296, n / 4294967296]) := by
    have := Blk.new w 38 (cells [n % 4294967296, n / 4294967296])
    simpa [cells] using this
  have hr := Lib.hid (Rd.of_blk hB hd)
  have hbel : Below w.heap.size w (w.alloc (.cells #[.int .u32 ((n : Int) % 4294967296), .int .u32 ((n : Int) / 4294967296)] 38)) := (Below.refl _ _).alloc (Nat.le_refl _) _
  have HG : Hid (∀ (e : Ending) (w1 : World), RetN (w.alloc (.cells #[.int .u32 ((n : Int) % 4294967296), .int .u32 ((n : Int) / 4294967296)] 38)) (val [n % 4294967296, n / 4294967296]) e w1 → RetN w n e w1) := Lib.hid (fun e w1 hh => by
    rw [digs_two n h] at hh
    obtain ⟨A, m, c, he, hr, hb⟩ := hh
    exact ⟨A, m, c, he, hr, bltB hbel hbel.size hb⟩)
  clear hd hB
  go_enter Tryz.func46, Tryz.ntmps46
  go_wp2_with fail
  refine (rlow_any _ _ _ _ _ hr.out (by simp)).mono ?_
  rintro e w1 ⟨A1, m1, d1, rfl, rr, hb⟩
  have HE := Lib.hid (HG.out _ _ ⟨_, _, _, rfl, rr, hb⟩)
  clear rr hb
  go_wp2_with fail
  go_ret
  exact HE.out

end Go.Proofs.YthkgeafidbihmaaGreatDoor
