/-
  A mind: Older.
-/
import Derived.Test.YtdobpicamibgpaaMid
import Derived.Test.YtdobpicamibgpaaMoved
namespace Go.Proofs.Ytdobpicamibgpaa
open Go.RowKit Go.Maps
set_option linter.unusedVariables false
set_option linter.unusedSimpArgs false
attribute [local go_sem] Oper.semAt_some

theorem lup_int (n d : Int) (w : World) (h0 : 0 ≤ n) (hn : n ≤ 9223372036854775806) (hd : 0 < d) : Calls Try.prog 49 #[.int .i64 n, .int .i64 d] w fun x w' => x = .returned (.int .i64 (upI n d)) ∧ w = w' := by
  obtain ⟨m, rfl⟩ := Int.eq_ofNat_of_zero_le h0
  obtain ⟨k, rfl⟩ := Int.eq_ofNat_of_zero_le (Int.le_of_lt hd)
  refine (lup_any m k w (by omega) (by omega)).mono ?_
  rintro x w' ⟨rfl, rfl⟩
  refine ⟨?_, rfl⟩
  have : upI (m : Int) (k : Int) = (upN m k : Nat) := by
    unfold upI upN
    rw [show (m : Int) % (k : Int) = ((m % k : Nat) : Int) from (Int.natCast_emod m k).symm, show (m : Int) / (k : Int) = ((m / k : Nat) : Int) from (Int.natCast_ediv m k).symm]
    split <;> split <;> omega
  rw [this]

/-- Where a mind stands in Older. -/
structure MidAt (w wr : World) (p b n : Nat) (L : Notes) (parts : Int) (left : Lit → Bool) (cnt : Nat) : Prop where
  rg : ∃ D, wr.ranges Try.prog 75 (noteElem (H := Unit)) b w.heap.size n D left cnt ∧ Says D (midL L parts left)
  gr : w.grownBy wr (some b)

theorem MidAt.box {w wr : World} {p b n : Nat} {L : Notes} {parts : Int} {left : Lit → Bool} {cnt : Nat} (h : MidAt w wr p b n L parts left cnt) (hB : Blk w p 60 #[.map (some b)]) (hne : p ≠ b) : Blk wr p 60 #[.map (some b)] := hB.grown h.gr hne

theorem mid_isI {L : Notes} {p b n : Nat} {w : World} (h : MindAt w p b n L) : ∀ e ∈ L, isI e.1.1 ∧ isI e.1.2 := fun e he => by
  obtain ⟨D, _, hs⟩ := h.own
  exact ⟨(hs.key e he).1, (hs.key e he).2.1⟩

theorem ranges_drew {w : World} {b r n : Nat} {D : DataW Unit} {left : Lit → Bool} {cnt : Nat} (h : w.ranges Try.prog 75 (noteElem (H := Unit)) b r n D left cnt) : w.drew.ranges Try.prog 75 (noteElem (H := Unit)) b r n D left cnt := h

/-- The note that has come is the list's. -/
theorem mid_look {D : DataW Unit} {L : Notes} {parts : Int} {left : Lit → Bool} {f c a b r : Int} (hs : Says D (midL L parts left)) (hok : ∀ e ∈ L, isI e.1.1 ∧ isI e.1.2) (ho : L.Pairwise fun a b => a.1 ≠ b.1) (hf : isI f) (hc : isI c)
    (hl : left (wayL f c) = true) (hat : ∀ zd, D.atKey (wayL f c) zd = noteD a b r) : look L (f, c) = some (a, b, r) := by
  have hh := has_true_of_atKey hat
  rw [hs.has f c hf hc, look_mid hok hf hc ho hl] at hh
  obtain ⟨v, hv⟩ := Option.isSome_iff_exists.1 hh
  obtain ⟨x, y, z⟩ := v
  have h1 := hs.at_ f c x y z (noteD 0 0 0) hf hc (by rw [look_mid hok hf hc ho hl]; exact hv)
  rw [hat] at h1
  obtain ⟨rfl, rfl, rfl⟩ := noteD_inj h1
  exact hv

theorem grown_drew {a w : World} {r : Option Nat} (h : a.grownBy w r) : a.grownBy w.drew r := ⟨h.os, h.tape, h.output, h.size, h.block⟩

theorem put_there {L : Notes} {k : Int × Int} (h : (look L k).isSome = true) (v : Int × Int × Int) : putL L k v = L.map (fun e => if e.1 = k then (k, v) else e) := by
  unfold putL; rw [if_pos h]

theorem del_put (L : Notes) (k : Int × Int) (v : Int × Int × Int) : delL (putL L k v) k = delL L k := by
  unfold putL delL
  split
  · rw [List.filter_map]
    have e1 : L.filter ((fun e : (Int × Int) × (Int × Int × Int) => e.1 != k) ∘ fun e => if e.1 = k then (k, v) else e) = L.filter fun e => e.1 != k := by
      refine List.filter_congr fun e _ => ?_
      have he : (if e.1 = k then (k, v) else e).1 = e.1 := by
        split
        · rename_i h; exact h.symm
        · rfl
      simp only [Function.comp, he]
    rw [e1]
    refine (List.map_congr_left (g := id) fun e he => ?_).trans (List.map_id _)
    have h2 := (List.mem_filter.1 he).2
    rw [if_neg (by simpa using h2)]; rfl
  · rw [List.filter_append]; simp

set_option maxRecDepth 100000 in
set_option maxHeartbeats 4000000 in
theorem older_any (w : World) (p b n : Nat) (L : Notes) (h : MindAt w p b n L) (hgd : Good L) (hn : n < 1000000) (parts : Int) : Calls Try.prog 29 #[.pointer (some ⟨p, 0, none⟩), .int .i64 parts] w fun y w' => y = .returned (.tuple #[]) ∧ MindAt w' p b n (oldL L parts) ∧ w.grownBy w' (some b) := by
  by_cases hp : parts < 1
  · have HB : Hid (oldL L parts = L) := Lib.hid (old_none hp)
    have HM := Lib.hid h
    clear h
    go_enter Try.func29, Try.ntmps29
    go_wp2_with fail
    exact bodyPost_ret (v := .tuple #[]) (by simp [results, Try.f29, go_sem]) rfl ⟨rfl, by rw [HB.out]; exact HM.out, below_grown (Below.refl _ _) _⟩
  · have hp0 : 0 < parts := by omega
    obtain ⟨D0, hown, hs0⟩ := h.own
    have hbox := h.box
    have hne := h.ne
    have hbw : b < w.heap.size := hown.lt
    have hpw : p < w.heap.size := h.box.lt
    have hok := mid_isI h
    have ho := hgd.once
    have hc0 : w.cell? ⟨p, 0, none⟩ = some (.map (some b)) := hbox.cell 0
    have hstart : midL L parts (Maps.has D0) = L := mid_start fun e he => by
      have := hok e he
      rw [hs0.has _ _ this.1 this.2]
      rw [look_isSome]
      exact List.any_eq_true.2 ⟨e, he, by simp⟩
    rw [← hstart] at hs0
    have HG := Lib.hid hgd
    have HH := Lib.hid (And.intro hs0 (And.intro hbox (And.intro hok ho)))
    clear h hgd hs0 hbox hok ho hstart
    go_enter Try.func29, Try.ntmps29
    go_wp2_with (first
      | (at_range; refine wpList_range_own _ rfl _ 58 rfl 75 72 lawWay Try.underlying58 _ b n _ rfl hown ?_; intro w0 hrg0 hg0 hs0)
      | fail)

    try go_frame
    go_loopw [13] (fun _ wr => ∃ (left : Lit → Bool) (cnt : Nat), MidAt w wr p b n L parts left cnt) (fun _ wr => wr.rangeLeft b w.heap.size)
    case atStart => exact ⟨_, _, ⟨⟨D0, hrg0, HH.out.1⟩, hg0.but _⟩⟩
    case round =>
      obtain ⟨left, cnt, hmid⟩ := hrel
      obtain ⟨D, hrg, hsays⟩ := hmid.rg
      have hbx := hmid.box HH.out.2.1 hne
      have hgr := hmid.gr
      go_wp2_with (first
        | (at_next; refine wpList_next_ranges _ rfl _ rfl 75 lawWay (noteElem (H := Unit)) (fun x : Int × Int => wayV x.1 x.2) (fun x : Int × Int × Int => noteV x.1 x.2.1 x.2.2) (fun key kl hk => by obtain ⟨f, c, h, _⟩ := way_of_key hk; exact ⟨(f, c), h⟩) (fun v y hv => by obtain ⟨a, b, r, h, _⟩ := noteElem_inv hv; exact ⟨(a, b, r), h⟩) b w.heap.size n _ _ _ rfl hrg ?_ ?_)
        | fail)
      · intro _ hl0
        go_wp2_with fail
        exact bodyPost_end (v := .tuple #[]) (by simp [results, Try.f29, go_sem]) rfl ⟨rfl, ⟨hbx, ⟨D, hrg.owns, by rw [← mid_end hp0 hl0]; exact hsays⟩, hne⟩, hgr⟩
      · intro f c a b' r' kl d0 ps0 w1 cnt1 hkey hlk hy hat hrg1 hlt hg1 hsz hen
        try simp only at hkey
        try simp only at hy
        try simp only at hen
        obtain ⟨f1, c1, e1, hf, hc, rfl⟩ := way_of_key hkey
        obtain ⟨rfl, rfl⟩ := wayL_eq e1
        rw [noteElem_mk] at hy
        obtain ⟨rfl, rfl⟩ := Prod.mk.inj (Option.some.inj hy)
        try simp only at hat
        have hlook := mid_look hsays HH.out.2.2.1 HH.out.2.2.2 hf hc hlk hat
        have hno : noteOk (a, b', r') := (HG.out.ok _ (look_some hlook)).2
        simp only [noteOk] at hno
        simp only [wayV, noteV] at hen ⊢
        go_wp2_with fail
        obtain ⟨W2, hW2⟩ : ∃ W2, W2 = (w1.alloc (.cells #[.int .i64 f, .int .i64 c] 75)).alloc (.cells #[.int .i64 a, .int .i64 b', .int .i64 r'] 72) := ⟨_, rfl⟩
        have hb2 : Below w1.heap.size w1 W2 := by rw [hW2]; exact ((Below.refl _ _).alloc (Nat.le_refl _) _).alloc (by simp) _
        have hWy : Blk W2 wr.heap.size 75 #[.int .i64 f, .int .i64 c] := by rw [hW2, ← hsz]; exact (Blk.new w1 _ _).alloc _
        have hNt : Blk W2 (wr.heap.size + 1) 72 #[.int .i64 a, .int .i64 b', .int .i64 r'] := by
          rw [hW2, ← hsz]
          have := Blk.new (w1.alloc (.cells #[.int .i64 f, .int .i64 c] 75)) 72 #[.int .i64 a, .int .i64 b', .int .i64 r']
          rw [World.size_alloc] at this
          exact this
        rw [← hW2]
        clear hW2
        obtain ⟨u1, hu1⟩ : ∃ u, upI a parts = u := ⟨_, rfl⟩
        obtain ⟨u2, hu2⟩ : ∃ u, upI (r' + 1 - b') parts = u := ⟨_, rfl⟩
        have hd1 := upI_bd hno.1 hp0
        have hd2 := upI_bd (show 0 ≤ r' + 1 - b' by omega) hp0
        rw [hu1] at hd1
        rw [hu2] at hd2
        have HF : Hid (fade parts (a, b', r') = (a - u1, b' + u2, r')) := Lib.hid (by simp only [fade, hu1, hu2])
        have HU1 := Lib.hid hu1
        have HU2 := Lib.hid hu2
        clear hu1 hu2
        have hw1 : IntKind.i64.wrap (a - u1) = a - u1 := IntWalk.i64_in _ (by omega)
        have hw2 : IntKind.i64.wrap (r' + 1) = r' + 1 := IntWalk.i64_in _ (by omega)
        have hw3 : IntKind.i64.wrap (r' + 1 - b') = r' + 1 - b' := IntWalk.i64_in _ (by omega)
        have hw4 : IntKind.i64.wrap (b' + u2) = b' + u2 := IntWalk.i64_in _ (by omega)
        have HM := Lib.hid (And.intro hrg (And.intro hmid (And.intro hrg1 (And.intro hg1 hen))))
        clear hrg hmid hrg1 hg1 hen
        have hG5 : w1.heap.size ≤ wr.heap.size + 1 := by omega
        refine wp_region_noPanic ?_
        refine ord_begin 8 (fun wx => Below W2.heap.size W2 wx) (by kernel_rfl) ?_
        have hT : Below W2.heap.size W2 W2.drew := (Below.refl _ _).drew
        refine ord_take (i := 0) (v := ?_) (by kernel_rfl) rfl (by decide) (by kernel_rfl) (by kernel_rfl) (fun _ _ _ h => h) (Or.inl ⟨by rfl, ?_⟩) hT ?_
        rotate_left
        · intro wz hz; go_simp; (try with_reducible rfl)
        try simp only [Act.put, List.getElem_toArray, List.getElem_cons_zero, List.getElem_cons_succ, List.setIfInBounds_toArray, List.set_cons_zero, List.set_cons_succ]
        refine ord_take (i := 1) (v := ?_) (by kernel_rfl) rfl (by decide) (by kernel_rfl) (by kernel_rfl) (fun _ _ _ h => h) (Or.inl ⟨by rfl, ?_⟩) hT ?_
        rotate_left
        · intro wz hz; have j := hNt.below hz hNt.lt; have q0 := j.cell 0; have q1 := j.cell 1; have q2 := j.cell 2; go_simp; (try with_reducible rfl)
        try simp only [Act.put, List.getElem_toArray, List.getElem_cons_zero, List.getElem_cons_succ, List.setIfInBounds_toArray, List.set_cons_zero, List.set_cons_succ]
        refine ord_take (i := 2) (v := ?_) (by kernel_rfl) rfl (by decide) (by kernel_rfl) (by kernel_rfl) (fun _ _ _ h => h) (Or.inl ⟨by rfl, ?_⟩) hT ?_
        rotate_left
        · intro wz hz; go_simp; (try with_reducible rfl)
        try simp only [Act.put, List.getElem_toArray, List.getElem_cons_zero, List.getElem_cons_succ, List.setIfInBounds_toArray, List.set_cons_zero, List.set_cons_succ]
        refine ord_take (i := 3) (v := ?_) (by kernel_rfl) rfl (by decide) (by kernel_rfl) (by kernel_rfl) (fun _ _ _ h => h) (Or.inl ⟨by rfl, ?_⟩) hT ?_
        rotate_left
        · intro wz hz; have j := hNt.below hz hNt.lt; have q0 := j.cell 0; have q1 := j.cell 1; have q2 := j.cell 2; go_simp; (try with_reducible rfl)
        try simp only [Act.put, List.getElem_toArray, List.getElem_cons_zero, List.getElem_cons_succ, List.setIfInBounds_toArray, List.set_cons_zero, List.set_cons_succ]
        refine ord_take (i := 4) (v := ?_) (by kernel_rfl) rfl (by decide) (by kernel_rfl) (by kernel_rfl) (fun _ _ _ h => h) (Or.inl ⟨by rfl, ?_⟩) hT ?_
        rotate_left
        · intro wz hz; go_simp; (try with_reducible rfl)
        try simp only [Act.put, List.getElem_toArray, List.getElem_cons_zero, List.getElem_cons_succ, List.setIfInBounds_toArray, List.set_cons_zero, List.set_cons_succ]
        refine ord_step (i := 5) rfl (by decide) (by kernel_rfl) (by rfl) (fun K hK => ?_)
        go_simp
        refine (lup_int a parts _ (by omega) (by omega) hp0).mono ?_
        rintro y W9 ⟨rfl, rfl⟩; rw [HU1.out]
        refine hK _ _ hT ?_
        clear hK K
        try simp only [Act.put, List.getElem_toArray, List.getElem_cons_zero, List.getElem_cons_succ, List.setIfInBounds_toArray, List.set_cons_zero, List.set_cons_succ]
        refine ord_take (i := 6) (v := ?_) (by kernel_rfl) rfl (by decide) (by kernel_rfl) (by kernel_rfl) (fun _ _ _ h => h) (Or.inl ⟨by rfl, ?_⟩) hT ?_
        rotate_left
        · intro wz hz; go_simp; (try with_reducible rfl)
        try simp only [Act.put, List.getElem_toArray, List.getElem_cons_zero, List.getElem_cons_succ, List.setIfInBounds_toArray, List.set_cons_zero, List.set_cons_succ]
        refine ord_take (i := 7) (v := ?_) (by kernel_rfl) rfl (by decide) (by kernel_rfl) (by kernel_rfl) (fun _ _ _ h => h) (Or.inl ⟨by rfl, ?_⟩) hT ?_
        rotate_left
        · intro wz hz; go_simp; (try with_reducible rfl)
        try simp only [Act.put, List.getElem_toArray, List.getElem_cons_zero, List.getElem_cons_succ, List.setIfInBounds_toArray, List.set_cons_zero, List.set_cons_succ]
        refine ord_rest (by kernel_rfl) ?_
        have hNd := hNt.drew
        have hcc := hNd.cell 0
        have hff := hNd.frozen 0
        clear hNd
        refine any_step (i := 8) rfl (by kernel_rfl) (by rfl) (fun K hK => ?_)
        go_simp
        refine hK _ _ ?_
        clear hK K
        try simp only [Act.put, List.getElem_toArray, List.getElem_cons_zero, List.getElem_cons_succ, List.setIfInBounds_toArray, List.set_cons_zero, List.set_cons_succ]
        refine wpAny_done (by kernel_rfl) ?_ _
        refine NoPanic.normal ?_
        have hNt := (hNt.set_ 0 (.int .i64 (a - u1))).drew
        have hWy := (hWy.far (p := ⟨wr.heap.size + 1, 0, none⟩) (by simp) (.int .i64 (a - u1))).drew
        have hb2 := (hb2.setCell (p := ⟨wr.heap.size + 1, 0, none⟩) hG5 (.int .i64 (a - u1))).drew
        clear hcc hff hT
        simp only [List.setIfInBounds_toArray, List.set_cons_zero] at hNt
        generalize (W2.setCell ⟨wr.heap.size + 1, 0, none⟩ (.int .i64 (a - u1))).drew = W3 at *
        go_wp2_with fail
        refine wp_region_noPanic ?_
        refine ord_begin 12 (fun wx => Below W3.heap.size W3 wx) (by kernel_rfl) ?_
        have hT : Below W3.heap.size W3 W3.drew := (Below.refl _ _).drew
        refine ord_take (i := 0) (v := ?_) (by kernel_rfl) rfl (by decide) (by kernel_rfl) (by kernel_rfl) (fun _ _ _ h => h) (Or.inl ⟨by rfl, ?_⟩) hT ?_
        rotate_left
        · intro wz hz; go_simp; (try with_reducible rfl)
        try simp only [Act.put, List.getElem_toArray, List.getElem_cons_zero, List.getElem_cons_succ, List.setIfInBounds_toArray, List.set_cons_zero, List.set_cons_succ]
        refine ord_take (i := 1) (v := ?_) (by kernel_rfl) rfl (by decide) (by kernel_rfl) (by kernel_rfl) (fun _ _ _ h => h) (Or.inl ⟨by rfl, ?_⟩) hT ?_
        rotate_left
        · intro wz hz; have j := hNt.below hz hNt.lt; have q0 := j.cell 0; have q1 := j.cell 1; have q2 := j.cell 2; go_simp; (try with_reducible rfl)
        try simp only [Act.put, List.getElem_toArray, List.getElem_cons_zero, List.getElem_cons_succ, List.setIfInBounds_toArray, List.set_cons_zero, List.set_cons_succ]
        refine ord_take (i := 2) (v := ?_) (by kernel_rfl) rfl (by decide) (by kernel_rfl) (by kernel_rfl) (fun _ _ _ h => h) (Or.inl ⟨by rfl, ?_⟩) hT ?_
        rotate_left
        · intro wz hz; go_simp; (try with_reducible rfl)
        try simp only [Act.put, List.getElem_toArray, List.getElem_cons_zero, List.getElem_cons_succ, List.setIfInBounds_toArray, List.set_cons_zero, List.set_cons_succ]
        refine ord_take (i := 3) (v := ?_) (by kernel_rfl) rfl (by decide) (by kernel_rfl) (by kernel_rfl) (fun _ _ _ h => h) (Or.inl ⟨by rfl, ?_⟩) hT ?_
        rotate_left
        · intro wz hz; have j := hNt.below hz hNt.lt; have q0 := j.cell 0; have q1 := j.cell 1; have q2 := j.cell 2; go_simp; (try with_reducible rfl)
        try simp only [Act.put, List.getElem_toArray, List.getElem_cons_zero, List.getElem_cons_succ, List.setIfInBounds_toArray, List.set_cons_zero, List.set_cons_succ]
        refine ord_take (i := 4) (v := ?_) (by kernel_rfl) rfl (by decide) (by kernel_rfl) (by kernel_rfl) (fun _ _ _ h => h) (Or.inl ⟨by rfl, ?_⟩) hT ?_
        rotate_left
        · intro wz hz; go_simp; (try with_reducible rfl)
        try simp only [Act.put, List.getElem_toArray, List.getElem_cons_zero, List.getElem_cons_succ, List.setIfInBounds_toArray, List.set_cons_zero, List.set_cons_succ]
        refine ord_take (i := 5) (v := ?_) (by kernel_rfl) rfl (by decide) (by kernel_rfl) (by kernel_rfl) (fun _ _ _ h => h) (Or.inl ⟨by rfl, ?_⟩) hT ?_
        rotate_left
        · intro wz hz; go_simp; (try with_reducible rfl)
        try simp only [Act.put, List.getElem_toArray, List.getElem_cons_zero, List.getElem_cons_succ, List.setIfInBounds_toArray, List.set_cons_zero, List.set_cons_succ]
        refine ord_take (i := 6) (v := ?_) (by kernel_rfl) rfl (by decide) (by kernel_rfl) (by kernel_rfl) (fun _ _ _ h => h) (Or.inl ⟨by rfl, ?_⟩) hT ?_
        rotate_left
        · intro wz hz; have j := hNt.below hz hNt.lt; have q0 := j.cell 0; have q1 := j.cell 1; have q2 := j.cell 2; go_simp; (try with_reducible rfl)
        try simp only [Act.put, List.getElem_toArray, List.getElem_cons_zero, List.getElem_cons_succ, List.setIfInBounds_toArray, List.set_cons_zero, List.set_cons_succ]
        refine ord_take (i := 7) (v := ?_) (by kernel_rfl) rfl (by decide) (by kernel_rfl) (by kernel_rfl) (fun _ _ _ h => h) (Or.inl ⟨by rfl, ?_⟩) hT ?_
        rotate_left
        · intro wz hz; go_simp; (try with_reducible rfl)
        try simp only [Act.put, List.getElem_toArray, List.getElem_cons_zero, List.getElem_cons_succ, List.setIfInBounds_toArray, List.set_cons_zero, List.set_cons_succ]
        refine ord_take (i := 8) (v := ?_) (by kernel_rfl) rfl (by decide) (by kernel_rfl) (by kernel_rfl) (fun _ _ _ h => h) (Or.inl ⟨by rfl, ?_⟩) hT ?_
        rotate_left
        · intro wz hz; go_simp; (try with_reducible rfl)
        try simp only [Act.put, List.getElem_toArray, List.getElem_cons_zero, List.getElem_cons_succ, List.setIfInBounds_toArray, List.set_cons_zero, List.set_cons_succ]
        refine ord_step (i := 9) rfl (by decide) (by kernel_rfl) (by rfl) (fun K hK => ?_)
        go_simp
        refine (lup_int (r' + 1 - b') parts _ (by omega) (by omega) hp0).mono ?_
        rintro y W9 ⟨rfl, rfl⟩; rw [HU2.out]
        refine hK _ _ hT ?_
        clear hK K
        try simp only [Act.put, List.getElem_toArray, List.getElem_cons_zero, List.getElem_cons_succ, List.setIfInBounds_toArray, List.set_cons_zero, List.set_cons_succ]
        refine ord_take (i := 10) (v := ?_) (by kernel_rfl) rfl (by decide) (by kernel_rfl) (by kernel_rfl) (fun _ _ _ h => h) (Or.inl ⟨by rfl, ?_⟩) hT ?_
        rotate_left
        · intro wz hz; go_simp; (try with_reducible rfl)
        try simp only [Act.put, List.getElem_toArray, List.getElem_cons_zero, List.getElem_cons_succ, List.setIfInBounds_toArray, List.set_cons_zero, List.set_cons_succ]
        refine ord_take (i := 11) (v := ?_) (by kernel_rfl) rfl (by decide) (by kernel_rfl) (by kernel_rfl) (fun _ _ _ h => h) (Or.inl ⟨by rfl, ?_⟩) hT ?_
        rotate_left
        · intro wz hz; go_simp; (try with_reducible rfl)
        try simp only [Act.put, List.getElem_toArray, List.getElem_cons_zero, List.getElem_cons_succ, List.setIfInBounds_toArray, List.set_cons_zero, List.set_cons_succ]
        refine ord_rest (by kernel_rfl) ?_
        have hNd := hNt.drew
        have hcc := hNd.cell 1
        have hff := hNd.frozen 1
        clear hNd
        refine any_step (i := 12) rfl (by kernel_rfl) (by rfl) (fun K hK => ?_)
        go_simp
        refine hK _ _ ?_
        clear hK K
        try simp only [Act.put, List.getElem_toArray, List.getElem_cons_zero, List.getElem_cons_succ, List.setIfInBounds_toArray, List.set_cons_zero, List.set_cons_succ]
        refine wpAny_done (by kernel_rfl) ?_ _
        refine NoPanic.normal ?_
        have hNt := (hNt.set_ 1 (.int .i64 (b' + u2))).drew
        have hWy := (hWy.far (p := ⟨wr.heap.size + 1, 1, none⟩) (by simp) (.int .i64 (b' + u2))).drew
        have hb2 := (hb2.setCell (p := ⟨wr.heap.size + 1, 1, none⟩) hG5 (.int .i64 (b' + u2))).drew
        clear hcc hff hT
        simp only [List.setIfInBounds_toArray, List.set_cons_zero, List.set_cons_succ] at hNt
        generalize (W3.setCell ⟨wr.heap.size + 1, 1, none⟩ (.int .i64 (b' + u2))).drew = W4 at *
        have hrg4 := HM.out.2.2.1.kept (below_grown hb2 none) (by simp) (by simp)
        obtain ⟨W6, hrun, hrg6, hturn6⟩ := ranges_restore (ranges_drew hrg4) lawWay Try.underlying58 (by unfold maxLen; omega) (keyOf_way hf hc) (noteElem_mk (a - u1) (b' + u2) r') (has_true_of_atKey hat)
        simp only [wayV, noteV] at hrun
        have hp4 : W4.cell? ⟨p, 0, none⟩ = some (.map (some b)) := by
          have h1 : w1.cell? ⟨p, 0, none⟩ = some (.map (some b)) := (World.cell?_of_block (HM.out.2.2.2.1.block p hbx.lt (fun e => by injection e with e; omega))).trans (hbx.cell 0)
          exact (hb2.cell (p := ⟨p, 0, none⟩) (by show p < w1.heap.size; have := hbx.lt; omega)).trans h1
        have hy0 := hWy.cell 0
        have hy1 := hWy.cell 1
        have hn0 := hNt.cell 0
        have hn1 := hNt.cell 1
        have hn2 := hNt.cell 2
        go_wp2_with fail
        go_big_region
        have hg6 := hturn6.grown
        have hbwr : b < wr.heap.size := Nat.lt_of_lt_of_le hbw hgr.size
        have hNt6 := (hNt.drew).grown hg6 (by omega)
        have hWy6 := (hWy.drew).grown hg6 (by omega)
        have hy0 := hWy6.cell 0
        have hy1 := hWy6.cell 1
        have hn0 := hNt6.cell 0
        have hn1 := hNt6.cell 1
        have hn2 := hNt6.cell 2
        have hp6 : W6.cell? ⟨p, 0, none⟩ = some (.map (some b)) := (World.cell?_of_block (hg6.block p (by show p < W4.heap.size; have := hbx.lt; have := hb2.size; omega) (fun e => hne (by injection e)))).trans hp4
        have hput : Says (D.put (wayL f c) (noteD (a - u1) (b' + u2) r')) (putL (midL L parts left) (f, c) (a - u1, b' + u2, r')) := hsays.put (HM.out.1.owns.tidy lawWay) hf hc (by unfold isI; omega) (by unfold isI; omega) (by unfold isI; omega)
        have hstep := mid_step (p := parts) HH.out.2.2.1 HH.out.2.2.2 hf hc hlook hlk
        have hsome : (look (midL L parts left) (f, c)).isSome = true := by rw [look_mid HH.out.2.2.1 hf hc HH.out.2.2.2 hlk, hlook]; rfl
        have hpe := put_there hsome (a - u1, b' + u2, r')
        rw [HF.out] at hstep
        have hfin : w.grownBy W6 (some b) := ((hgr.andThen HM.out.2.2.2.1 (fun j hj => by cases hj; exact Or.inl (Nat.le_refl _))).andThen (below_grown hb2.drew none) (fun j hj => by cases hj)).andThen hg6 (fun j hj => .inr (by rw [← hj]))
        have HX := Lib.hid (And.intro hput (And.intro hstep (And.intro hpe (And.intro hrg6 hfin))))
        have HY := Lib.hid (And.intro hf hc)
        clear hput hstep hpe hrg6 hfin hrun hturn6 hrg4 hb2 hNt6 hWy6 hNt hWy hsome hsays hf hc hp4
        by_cases h1 : a - u1 = 0
        · by_cases h2 : r' < b' + u2
          · have hg : gone (a - u1, b' + u2, r') = true := by simp only [gone, Bool.and_eq_true, decide_eq_true_eq]; exact ⟨h1, h2⟩
            obtain ⟨W8, cnt8, hrun8, hrg8, hle8, hturn8⟩ := (ranges_drew HX.out.2.2.2.1).drop lawWay Try.underlying58 (keyOf_way HY.out.1 HY.out.2) 0
            rw [strike_twice] at hrg8
            simp only [wayV] at hrun8
            go_wp2_with fail
            go_big_region
            go_wp2_with fail
            go_roundw
            case rel => exact ⟨_, cnt8, ⟨⟨_, hrg8, by rw [HX.out.2.1, if_pos hg, ← del_put]; exact HX.out.1.del (HX.out.2.2.2.1.owns.tidy lawWay) HY.out.1 HY.out.2⟩, (grown_drew HX.out.2.2.2.2).andThen hturn8.grown (fun j hj => .inr (by rw [← hj]))⟩⟩
            case measure => rw [hrg8.left_eq, HM.out.1.left_eq]; omega
          · have hg : gone (a - u1, b' + u2, r') = false := by simp only [gone, decide_eq_false h2, Bool.and_false]
            go_wp2_with fail
            go_roundw
            case rel => exact ⟨_, cnt1, ⟨⟨_, HX.out.2.2.2.1, by rw [HX.out.2.1, if_neg (by rw [hg]; decide), ← HX.out.2.2.1]; exact HX.out.1⟩, HX.out.2.2.2.2⟩⟩
            case measure => rw [HX.out.2.2.2.1.left_eq, HM.out.1.left_eq]; exact hlt
        · have hg : gone (a - u1, b' + u2, r') = false := by simp only [gone, decide_eq_false h1, Bool.false_and]
          go_wp2_with fail
          go_roundw
          case rel => exact ⟨_, cnt1, ⟨⟨_, HX.out.2.2.2.1, by rw [HX.out.2.1, if_neg (by rw [hg]; decide), ← HX.out.2.2.1]; exact HX.out.1⟩, HX.out.2.2.2.2⟩⟩
          case measure => rw [HX.out.2.2.2.1.left_eq, HM.out.1.left_eq]; exact hlt

end Go.Proofs.Ytdobpicamibgpaa
