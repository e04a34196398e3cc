/-
  How the arguments of these laws read: bounds as three numbers, steps as a list; and how they read behind the call.
-/
import Derived.Test.YtolapebihnipdaaSame
import Derived.Test.YtolapebihnipdaaRows
import Derived.ProofKit
import Derived.Deep.Slices
import Derived.Deep.Fields
import Derived.ChangeSame
import Derived.SizedLaws
import Derived.Lib.SmallJoins
namespace Go.Proofs.Ytolapebihnipdaa
open Go.ChangeShapes Go.WideShapes Go.ChangeAt Go.RowKit Go.Deep
set_option linter.unusedVariables false

theorem own : ownKnob Try.prog.godebug = none := by kernel_rfl
theorem laidOut : laidOutB Try.prog = true := by kernel_rfl
theorem cells23 : Try.prog.cellsOf 23 = 3 := by kernel_rfl
theorem cells43 : Try.prog.cellsOf 43 = 3 := by kernel_rfl
theorem cells4 : Try.prog.cellsOf 4 = 1 := by kernel_rfl
theorem bytes4 : Try.prog.bytesOf 4 = 1 := by kernel_rfl
theorem bytes43 : Try.prog.bytesOf 43 = 40 := by kernel_rfl

section
variable {H : Type} {enc : TypeId × Value → H} {P : Program} {w : World} {base : Nat} {spare : Nat → Bool} {held : Bool}
theorem open_slice_fields {t e : TypeId} {fs : Array Field} {fuel : Nat} {cs : List Value} {x : DataW H × List MemPlace} (ht : P.underlying t = some (.slice e)) (he : P.underlying e = some (.struct fs))
    (hone : oneCellFields P fs = true) (hC : P.cellsOf e = fs.size) (h : DataW.trod enc P w base spare held fuel t cs = some x) :
    (cs = [.slice none 0 0] ∧ x = (.nil, [])) ∨
    ∃ (a : Addr) (len cap m : Nat) (D : Nat → DataW H) (Pl : Nat → List MemPlace), cs = [.slice (some a) len cap] ∧ base ≤ a.block ∧ len ≤ cap ∧ cap ≤ maxLen ∧ m = (if spare a.block then cap else len) ∧
      x = (.slice ((List.range len).map D) ((List.range (m - len)).map fun j => D (len + j)), MemPlace.row a (m * fs.size) ++ (List.range m).flatMap Pl) ∧
      ∀ i, i < m → ∃ (ys : List (DataW H × List MemPlace)) (n : Nat), D i = .agg (ys.map (·.1)) ∧ Pl i = ys.flatMap (·.2) ∧ ys.length = fs.size ∧
        ∀ (j : Nat) (f : Field), fs[j]? = some f → ∃ (v : Value) (y : DataW H × List MemPlace), w.cell? (a.add (i * fs.size + j)) = some v ∧ ys[j]? = some y ∧ DataW.trod enc P w base spare held n f.type [v] = some y := by
  rcases open_slice ht h with h0 | ⟨a, len, cap, m, n, D, Pl, hcs, hb, hl, hm, hmm, hx, hi⟩
  · exact .inl h0
  · refine .inr ⟨a, len, cap, m, D, Pl, hcs, hb, hl, hm, hmm, by rw [hC] at hx; exact hx, fun i him => ?_⟩
    obtain ⟨cs', hc, ht'⟩ := hi i him
    rw [hC] at hc
    obtain ⟨ys, n', hn', hy, hlen, hyl, hf⟩ := DataW.trod_struct he ht'
    obtain ⟨_, hcl, hat⟩ := World.cells?_some hc
    simp only [Prod.mk.injEq] at hy
    refine ⟨ys, n', hy.1, hy.2, hyl, fun j f hj => ?_⟩
    obtain ⟨ho, hk⟩ := hone_of hone j f hj
    have hjl : j < fs.size := (Array.getElem?_eq_some_iff.1 hj).1
    have hcell := hat j hjl
    have hv : cs'[j]? = some (cs'[j]'(by omega)) := List.getElem?_eq_getElem (by omega)
    have h1 := hf j f hj
    rw [ho, hk] at h1
    have hone' : (cs'.drop j).take 1 = [cs'[j]'(by omega)] := by
      rw [List.drop_eq_getElem_cons (by omega)]
      rfl
    rw [hone'] at h1
    have hys : ys[j]? = some (ys[j]'(by omega)) := List.getElem?_eq_getElem (by omega)
    refine ⟨_, _, ?_, hys, h1.trans hys⟩
    rw [← Go.Deep.add_add, hcell, hv]
end

section
variable {H : Type} {enc : TypeId × Value → H} {P : Program}
theorem post_of_below {f : Func} {s : ChangeSpec} {apart fresh handsOn again : Bool} {W W' : World} {args : Array Value} {v : Value} {ds gs : List (DataW H)} {before pa pv : List MemPlace}
    (hW : DataW.Whole enc P f.params.toList s.vars apart W args.toList ds gs before)
    (hres : ∀ (b : Nat) (sp : Nat → Bool) (hd : Bool), DataW.TrodAll enc P W' b sp hd f.resultTypes.toList (v.resultList f.resultTypes.size) (s.fn H (ds ++ gs)).results [])
    (hargs : ∀ sp : Nat → Bool, (∀ p ∈ before, sp p.block = true) → DataW.TrodAll enc P W' 0 sp true f.params.toList args.toList (s.fn H (ds ++ gs)).args pa)
    (hvars : ∀ sp : Nat → Bool, (∀ p ∈ before, sp p.block = true) → DataW.TrodVars enc P W' sp s.vars (s.fn H (ds ++ gs)).vars pv)
    (hps : before = pa ++ pv) (hb : Below W.heap.size W W')
    (hok : ∀ (j : Nat) (t : TypeId) (r : Value), f.resultTypes[j]? = some t → (v.resultList f.resultTypes.size)[j]? = some r → Value.okWide P W' .any 0 t r) :
    s.post enc P f apart fresh handsOn again W args v W' := by
  have hlt : ∀ p ∈ before, p.block < W.heap.size := fun p hp => hW.lt p hp
  have hold : ∀ p ∈ before, (fun b => decide (b < W.heap.size)) p.block = true := fun p hp => by simpa using hlt p hp
  refine ⟨ds, gs, before, [], pa, pv, hW, hres _ _ _, hargs _ hold, hvars _ hold, World.keptBut_mono (fun p hp => ⟨hp, ?_⟩) (hb.frame (· ∈ before)), fun _ => ?_⟩
  · rw [hps, List.mem_append] at hp
    exact Or.inr hp
  · obtain ⟨_, _, _, _, _, hz, hn⟩ := hW
    refine ⟨hok, _, _, ([] ++ pa) ++ pv, ⟨[] ++ pa, pv, trodAll_append (hargs _ (fun _ _ => rfl)) (hres _ _ _), hvars _ (fun _ _ => rfl), rfl, ?_, ?_⟩, ?_⟩
    · intro b off hp
      have hin : MemPlace.cell b off ∈ before := by rw [hps]; simpa using hp
      rw [hb.frozen (hlt _ hin)]
      exact hz b off hin
    · intro ha
      have := hn ha
      rw [hps] at this
      simpa using this
    · intro p hp _
      rw [hps]
      simpa using hp
end

theorem weights_all {H : Type} {P : Program} {e : TypeId} {x : Nat} : ∀ {l : List (DataW H)} {d : DataW H}, d ∈ l → x ∈ d.weights P e → x ∈ DataW.weightsAll P e l
  | d0 :: r, d, hd, hx => by
    simp only [DataW.weightsAll, List.mem_append]
    rcases List.mem_cons.1 hd with rfl | h
    · exact Or.inl hx
    · exact Or.inr (weights_all h hx)

section
variable {H : Type} {enc : TypeId × Value → H}

/-- A slice of bools, as it reads. -/
theorem open_bools {w : World} {n : Nat} {v : Value} {y : DataW H × List MemPlace} (h : DataW.trod enc Try.prog w 0 (fun _ => true) true n 41 [v] = some y) (hz : ∀ q ∈ y.1.weights Try.prog 41, q ≤ reachBytes) :
    ∃ A m c l, v = .slice A m c ∧ Bools w w.heap.size A m l := by
  rcases open_slice1 Try.underlying41 cells4 h with ⟨hv, hx⟩ | ⟨a, len, cap, m, n', V, D, Pl, hv, hb, hl, hm, hmm, rfl, hi⟩
  · simp only [List.cons.injEq, and_true] at hv
    subst hv
    exact ⟨none, 0, 0, [], rfl, rfl, by omega, fun h => by omega⟩
  · simp only [List.cons.injEq, and_true] at hv
    subst hv
    simp only [if_true] at hmm
    subst hmm
    have hlen : len ≤ 140737488355328 := by
      have := hz ((len + (m - len)) * Try.prog.bytesOf 4) (by simp [DataW.weights, Try.underlying41])
      rw [bytes4] at this
      have h2 := reachBytes_lt
      omega
    have hbool : ∀ i, i < len → ∃ b : Bool, w.cell? (a.add i) = some (.bool b) := fun i hi' => by
      obtain ⟨h1, h2⟩ := hi i (by omega)
      obtain ⟨b, h3, _⟩ := DataW.trod_bool Try.underlying4 h2
      simp at h3
      exact ⟨b, by rw [h1, h3]⟩
    obtain ⟨f, hf⟩ := choose_lt hbool
    refine ⟨some a, len, m, (List.range len).map f, rfl, by simp, hlen, fun hpos => ?_⟩
    obtain ⟨b, off, vw⟩ := a
    have hc0 := hf 0 hpos
    have hvw : vw = none := by
      cases vw with
      | none => rfl
      | some q =>
        exfalso
        simp [Addr.add, World.cell?] at hc0
        split at hc0 <;> simp at hc0
    subst hvw
    refine ⟨b, off, rfl, World.block_lt_of_cell? w _ hc0 |> fun h => by simpa [Addr.add] using h, fun k x hx => ?_⟩
    have hk : k < len := by
      have := (List.getElem?_eq_some_iff.1 hx).1
      simpa using this
    have : x = f k := by simpa [hk] using hx.symm
    rw [this, ← hf k hk]
    congr 1
    unfold Addr.add
    split <;> simp_all

/-- The address of a cell that is there. -/
theorem addr_plain {w : World} {a : Addr} {v : Value} (h : w.cell? (a.add 0) = some v) : ∃ b off, a = ⟨b, off, none⟩ ∧ b < w.heap.size := by
  obtain ⟨b, off, vw⟩ := a
  cases vw with
  | some q =>
    exfalso
    simp [Addr.add, World.cell?] at h
    split at h <;> simp at h
  | none =>
    refine ⟨b, off, rfl, ?_⟩
    exact World.block_lt_of_cell? w ⟨b, off, none⟩ (by simpa [Addr.add] using h)

theorem add_at (b off i : Nat) : (⟨b, off, none⟩ : Addr).add i = ⟨b, off + i, none⟩ := by
  unfold Addr.add
  split <;> simp_all

/-- A slice of steps, as it reads. -/
theorem open_steps {w : World} {v : Value} {d : DataW H} {p : List MemPlace} (hv : ∃ A n c, v = .slice A n c) (h : DataW.Trod enc Try.prog w 0 (fun _ => true) true 29 v d p) (hz : ∀ q ∈ d.weights Try.prog 29, q ≤ reachBytes) :
    ∃ A n c l, v = .slice A n c ∧ Steps w w.heap.size A n l := by
  obtain ⟨A0, n0, c0, rfl⟩ := hv
  obtain ⟨fuel, hf⟩ := h
  simp only [Value.cells] at hf
  rcases open_slice_fields Try.underlying29 Try.underlying43 (by kernel_rfl) cells43 hf with ⟨hv, hx⟩ | ⟨a, len, cap, m, D, Pl, hv, hb, hl, hm, hmm, hx, hi⟩
  · simp at hv
    exact ⟨none, 0, 0, [], by simp [hv], rfl, by omega, fun h => by omega⟩
  · simp only [if_true] at hmm
    subst hmm
    have hd : d = .slice ((List.range len).map D) ((List.range (m - len)).map fun j => D (len + j)) := by
      have := congrArg Prod.fst hx
      exact this
    have hlen : len ≤ 140737488355328 := by
      have := hz ((len + (m - len)) * Try.prog.bytesOf 43) (by rw [hd]; simp [DataW.weights, Try.underlying29])
      rw [bytes43] at this
      have h2 := reachBytes_lt
      omega
    have hone : ∀ i, i < len → ∃ x : Int × Bool × List Bool × (Option Addr × Nat × Nat), (-9223372036854775808 ≤ x.1 ∧ x.1 ≤ 9223372036854775807) ∧ w.cell? (a.add (i * 3)) = some (.int .i64 x.1) ∧ w.cell? (a.add (i * 3 + 2)) = some (.bool x.2.1) ∧
        w.cell? (a.add (i * 3 + 1)) = some (.slice x.2.2.2.1 x.2.2.2.2.1 x.2.2.2.2.2) ∧ Bools w w.heap.size x.2.2.2.1 x.2.2.2.2.1 x.2.2.1 := fun i hi' => by
      obtain ⟨ys, n, hD, _, hys, hfl⟩ := hi i (by omega)
      obtain ⟨v0, y0, e0, z0, u0⟩ := hfl 0 _ rfl
      obtain ⟨v1, y1, e1, z1, u1⟩ := hfl 1 _ rfl
      obtain ⟨v2, y2, e2, z2, u2⟩ := hfl 2 _ rfl
      obtain ⟨k, q0, _, wf⟩ := DataW.trod_int Try.underlying3 u0
      obtain ⟨b, q2, _⟩ := DataW.trod_bool Try.underlying4 u2
      have hw1 : ∀ q ∈ y1.1.weights Try.prog 41, q ≤ reachBytes := fun q hq => hz q (by
        rw [hd]
        simp only [DataW.weights, Try.underlying29, List.mem_cons, List.mem_append]
        refine Or.inr (Or.inl (weights_all (List.mem_map.2 ⟨i, List.mem_range.2 hi', rfl⟩) ?_))
        rw [hD]
        simp only [DataW.weights, Try.underlying43]
        exact DataW.weights_mem_each (j := 1) (t := 41) rfl (by rw [List.getElem?_map, z1]; rfl) q hq)
      obtain ⟨A1, m1, c1, l1, hs1, hb1⟩ := open_bools u1 hw1
      simp at q0 q2
      have hwf := wf
      simp [Lit.wf] at hwf
      refine ⟨(k, b, l1, A1, m1, c1), ?_, ?_, ?_, ?_, hb1⟩
      · exact hwf
      · simpa [q0] using e0
      · simpa [q2] using e2
      · simpa [hs1] using e1
    obtain ⟨f, hf'⟩ := choose_lt (α := Int × Bool × List Bool × (Option Addr × Nat × Nat)) hone
    refine ⟨some a, len, m, (List.range len).map fun i => ⟨(f i).1, (f i).2.2.1, (f i).2.1⟩, ?_, by simp, hlen, fun hpos => ?_⟩
    · simp at hv
      simp [hv]
    · obtain ⟨b, off, rfl, hbl⟩ := addr_plain (show w.cell? (a.add 0) = _ from by simpa using (hf' 0 hpos).2.1)
      refine ⟨b, off, rfl, hbl, fun k x hx => ?_⟩
      have hk : k < len := by
        have := (List.getElem?_eq_some_iff.1 hx).1
        simpa using this
      have hxk : x = ⟨(f k).1, (f k).2.2.1, (f k).2.1⟩ := by simpa [hk] using hx.symm
      obtain ⟨g0, g1, g2, g3, g4⟩ := hf' k hk
      rw [add_at] at g1 g2 g3
      subst hxk
      exact ⟨g0.1, g0.2, g1, g2, _, _, _, g3, g4⟩

/-- Bounds are three numbers. -/
theorem open_bounds {r : Reach} {b0 : Nat} {w : World} {v : Value} {d : DataW H} {p : List MemPlace} (hv : Value.okWide Try.prog w r b0 23 v) (h : DataW.Trod enc Try.prog w 0 (fun _ => true) true 23 v d p) :
    ∃ j b n, v = .agg #[.int .i64 j, .int .i64 b, .int .i64 n] := by
  obtain ⟨x0, x1, x2, y0, y1, y2, m, rfl, _, _, hy0, hy1, hy2⟩ := Joins.open_agg3 Try.underlying23 (by kernel_rfl) cells23 hv h
  obtain ⟨j, e0, _, _⟩ := DataW.trod_int Try.underlying3 hy0
  obtain ⟨b, e1, _, _⟩ := DataW.trod_int Try.underlying3 hy1
  obtain ⟨n, e2, _, _⟩ := DataW.trod_int Try.underlying3 hy2
  simp at e0 e1 e2
  exact ⟨j, b, n, by rw [e0, e1, e2]⟩

theorem int_bds {x : Int} (h : (Lit.int .i64 x).wf = true) : -9223372036854775808 ≤ x ∧ x ≤ 9223372036854775807 := by
  simp [Lit.wf] at h
  exact h

section
variable {W W' : World} {v : Value} {d : DataW H} {ps : List MemPlace} {sp : Nat → Bool}
theorem stays3 (h : DataW.Trod enc Try.prog W 0 (fun _ => true) true 3 v d ps) (hb : Below W.heap.size W W') (hlt : ∀ x ∈ ps, x.block < W.heap.size) (hsp : ∀ x ∈ ps, sp x.block = true) : DataW.Trod enc Try.prog W' 0 sp true 3 v d ps :=
  WideElems.Trod_stays laidOut (by kernel_rfl) (of_decide_eq_true (by kernel_rfl)) h (fun x hx => hb.same (hlt x hx)) hsp
theorem stays23 (h : DataW.Trod enc Try.prog W 0 (fun _ => true) true 23 v d ps) (hb : Below W.heap.size W W') (hlt : ∀ x ∈ ps, x.block < W.heap.size) (hsp : ∀ x ∈ ps, sp x.block = true) : DataW.Trod enc Try.prog W' 0 sp true 23 v d ps :=
  WideElems.Trod_stays laidOut (by kernel_rfl) (of_decide_eq_true (by kernel_rfl)) h (fun x hx => hb.same (hlt x hx)) hsp
theorem stays29 (h : DataW.Trod enc Try.prog W 0 (fun _ => true) true 29 v d ps) (hb : Below W.heap.size W W') (hlt : ∀ x ∈ ps, x.block < W.heap.size) (hsp : ∀ x ∈ ps, sp x.block = true) : DataW.Trod enc Try.prog W' 0 sp true 29 v d ps :=
  WideElems.Trod_stays laidOut (by kernel_rfl) (of_decide_eq_true (by kernel_rfl)) h (fun x hx => hb.same (hlt x hx)) hsp
end

end
end Go.Proofs.Ytolapebihnipdaa
