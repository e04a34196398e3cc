/-
  How the arguments of these laws read: acts as a list, an edge as nine numbers; how they read behind the call.
  (open_slice and what it leans on: the library; post_of_below: after the guide's page of lemmas to copy.)
-/
import Derived.Test.YtdobpicamibgpaaActs
import Derived.Test.YtdobpicamibgpaaRows
import Derived.ProofKit
import Derived.Deep.Slices
import Derived.Deep.Fields
import Derived.ChangeSame
import Derived.SizedLaws
import Derived.Lib.SmallJoins
namespace Go.Proofs.Ytdobpicamibgpaa
open Go.ChangeShapes Go.WideShapes Go.ChangeAt Go.RowKit Go.Deep
set_option linter.unusedVariables false
set_option linter.unusedSimpArgs false

theorem own : ownKnob Try.prog.godebug = none := by kernel_rfl
theorem laidOut : laidOutB Try.prog = true := by kernel_rfl
theorem cellsPol : Try.prog.cellsOf 24 = 5 := by kernel_rfl
theorem cellsEdge : Try.prog.cellsOf 26 = 9 := by kernel_rfl
theorem cellsAct : Try.prog.cellsOf 33 = 11 := by kernel_rfl
theorem bytesAct : Try.prog.bytesOf 33 = 88 := by kernel_rfl

section
variable {H : Type} {enc : TypeId × Value → H} {P : Program}
theorem post_of_below {f : Func} {s : ChangeSpec} {apart fresh handsOn again : Bool} {W W' : World} {args : Array Value} {v : Value} {ds gs : List (DataW H)} {before pa pv : List MemPlace}
    (hW : DataW.Whole enc P f.params.toList s.vars apart W args.toList ds gs before)
    (hres : ∀ (b : Nat) (sp : Nat → Bool) (hd : Bool), DataW.TrodAll enc P W' b sp hd f.resultTypes.toList (v.resultList f.resultTypes.size) (s.fn H (ds ++ gs)).results [])
    (hargs : ∀ sp : Nat → Bool, (∀ p ∈ before, sp p.block = true) → DataW.TrodAll enc P W' 0 sp true f.params.toList args.toList (s.fn H (ds ++ gs)).args pa)
    (hvars : ∀ sp : Nat → Bool, (∀ p ∈ before, sp p.block = true) → DataW.TrodVars enc P W' sp s.vars (s.fn H (ds ++ gs)).vars pv)
    (hps : before = pa ++ pv) (hb : Below W.heap.size W W')
    (hok : ∀ (j : Nat) (t : TypeId) (r : Value), f.resultTypes[j]? = some t → (v.resultList f.resultTypes.size)[j]? = some r → Value.okWide P W' .any 0 t r) :
    s.post enc P f apart fresh handsOn again W args v W' := by
  have hlt : ∀ p ∈ before, p.block < W.heap.size := fun p hp => hW.lt p hp
  have hold : ∀ p ∈ before, (fun b => decide (b < W.heap.size)) p.block = true := fun p hp => by simpa using hlt p hp
  refine ⟨ds, gs, before, [], pa, pv, hW, hres _ _ _, hargs _ hold, hvars _ hold, World.keptBut_mono (fun p hp => ⟨hp, ?_⟩) (hb.frame (· ∈ before)), fun _ => ?_⟩
  · rw [hps, List.mem_append] at hp
    exact Or.inr hp
  · obtain ⟨_, _, _, _, _, hz, hn⟩ := hW
    refine ⟨hok, _, _, ([] ++ pa) ++ pv, ⟨[] ++ pa, pv, trodAll_append (hargs _ (fun _ _ => rfl)) (hres _ _ _), hvars _ (fun _ _ => rfl), rfl, ?_, ?_⟩, ?_⟩
    · intro b off hp
      have hin : MemPlace.cell b off ∈ before := by rw [hps]; simpa using hp
      rw [hb.frozen (hlt _ hin)]
      exact hz b off hin
    · intro ha
      have := hn ha
      rw [hps] at this
      simpa using this
    · intro p hp _
      rw [hps]
      simpa using hp
end

section
variable {H : Type} {enc : TypeId × Value → H} {w : World} {base : Nat} {spare : Nat → Bool} {held : Bool} {n : Nat} {x : DataW H × List MemPlace}

theorem trod_i {v : Value} (h : DataW.trod enc Try.prog w base spare held n 3 [v] = some x) : ∃ a, v = .int .i64 a := by
  obtain ⟨k, q, _, _⟩ := DataW.trod_int Try.underlying3 h
  simp at q
  exact ⟨k, q⟩

set_option maxRecDepth 100000 in
theorem open_pol {cs : List Value} (h : DataW.trod enc Try.prog w base spare held n 24 cs = some x) : ∃ a0 a1 a2 a3 a4, cs = [.int .i64 a0, .int .i64 a1, .int .i64 a2, .int .i64 a3, .int .i64 a4] := by
  obtain ⟨xs, m, _, rfl, hl, hlen, hf⟩ := DataW.trod_struct Try.underlying24 h
  rw [cellsPol] at hl
  match cs, hl with
  | [b0, b1, b2, b3, b4], _ =>
    match xs, hlen with
    | [x0, x1, x2, x3, x4], _ =>
      have h0 := hf 0 _ rfl
      have h1 := hf 1 _ rfl
      have h2 := hf 2 _ rfl
      have h3 := hf 3 _ rfl
      have h4 := hf 4 _ rfl
      simp [cellsInt] at h0 h1 h2 h3 h4
      obtain ⟨a0, rfl⟩ := trod_i h0
      obtain ⟨a1, rfl⟩ := trod_i h1
      obtain ⟨a2, rfl⟩ := trod_i h2
      obtain ⟨a3, rfl⟩ := trod_i h3
      obtain ⟨a4, rfl⟩ := trod_i h4
      exact ⟨a0, a1, a2, a3, a4, rfl⟩

set_option maxRecDepth 100000 in
theorem open_edgeL {cs : List Value} (h : DataW.trod enc Try.prog w base spare held n 26 cs = some x) : ∃ e : Ed, cs = e.cs.toList := by
  obtain ⟨xs, m, _, rfl, hl, hlen, hf⟩ := DataW.trod_struct Try.underlying26 h
  rw [cellsEdge] at hl
  match cs, hl with
  | [b0, b1, b2, b3, b4, b5, b6, b7, b8], _ =>
    match xs, hlen with
    | [x0, x1, x2, x3, x4], _ =>
      have h0 := hf 0 _ rfl
      have h1 := hf 1 _ rfl
      have h2 := hf 2 _ rfl
      have h3 := hf 3 _ rfl
      have h4 := hf 4 _ rfl
      simp [cellsInt, cellsPol] at h0 h1 h2 h3 h4
      obtain ⟨a0, rfl⟩ := trod_i h0
      obtain ⟨a1, rfl⟩ := trod_i h1
      obtain ⟨a2, rfl⟩ := trod_i h2
      obtain ⟨a3, rfl⟩ := trod_i h3
      obtain ⟨a4, a5, a6, a7, a8, he⟩ := open_pol h4
      simp at he
      obtain ⟨rfl, rfl, rfl, rfl, rfl⟩ := he
      exact ⟨⟨a0, a1, a2, a3, a4, a5, a6, a7, a8⟩, rfl⟩

set_option maxRecDepth 100000 in
theorem open_actL {cs : List Value} (h : DataW.trod enc Try.prog w base spare held n 33 cs = some x) : ∃ a : Av, cs = a.cs.toList := by
  obtain ⟨xs, m, _, rfl, hl, hlen, hf⟩ := DataW.trod_struct Try.underlying33 h
  rw [cellsAct] at hl
  match cs, hl with
  | [b0, b1, b2, b3, b4, b5, b6, b7, b8, b9, b10], _ =>
    match xs, hlen with
    | [x0, x1, x2], _ =>
      have h0 := hf 0 _ rfl
      have h1 := hf 1 _ rfl
      have h2 := hf 2 _ rfl
      simp [cellsInt, cellsEdge] at h0 h1 h2
      obtain ⟨a0, rfl⟩ := trod_i h0
      obtain ⟨e, he⟩ := open_edgeL h1
      obtain ⟨a2, rfl⟩ := trod_i h2
      simp [Ed.cs] at he
      obtain ⟨rfl, rfl, rfl, rfl, rfl, rfl, rfl, rfl, rfl⟩ := he
      exact ⟨⟨a0, e, a2⟩, rfl⟩
end

section
variable {H : Type} {enc : TypeId × Value → H}

set_option maxRecDepth 100000 in
theorem open_edge {r : Reach} {b0 : Nat} {w : World} {v : Value} {d : DataW H} {p : List MemPlace} (hv : Value.okWide Try.prog w r b0 26 v) (h : DataW.Trod enc Try.prog w 0 (fun _ => true) true 26 v d p) : ∃ e : Ed, v = e.v := by
  obtain ⟨fuel, hf⟩ := h
  obtain ⟨cs, rfl, _⟩ := okWide_struct Try.underlying26 hv
  obtain ⟨e, he⟩ := open_edgeL (cs := cs.toList) hf
  refine ⟨e, ?_⟩
  unfold Ed.v
  congr 1
  exact Array.toList_inj.1 he

/-- The address of a cell that is there. -/
theorem addr_plain {w : World} {a : Addr} {v : Value} (h : w.cell? (a.add 0) = some v) : ∃ b off, a = ⟨b, off, none⟩ ∧ b < w.heap.size := by
  obtain ⟨b, off, vw⟩ := a
  cases vw with
  | some q =>
    exfalso
    simp [Addr.add, World.cell?] at h
    split at h <;> simp at h
  | none =>
    refine ⟨b, off, rfl, ?_⟩
    exact World.block_lt_of_cell? w ⟨b, off, none⟩ (by simpa [Addr.add] using h)

theorem add_at (b off i : Nat) : (⟨b, off, none⟩ : Addr).add i = ⟨b, off + i, none⟩ := by
  unfold Addr.add
  split <;> simp_all

instance : Inhabited Av := ⟨⟨0, ⟨0, 0, 0, 0, 0, 0, 0, 0, 0⟩, 0⟩⟩

/-- A slice of acts, as it reads. -/
theorem open_acts {w : World} {v : Value} {d : DataW H} {p : List MemPlace} (hv : ∃ A n c, v = .slice A n c) (h : DataW.Trod enc Try.prog w 0 (fun _ => true) true 22 v d p) (hz : ∀ q ∈ d.weights Try.prog 22, q ≤ reachBytes) :
    ∃ A n c l, v = .slice A n c ∧ Acts w w.heap.size A n l := by
  obtain ⟨A0, n0, c0, rfl⟩ := hv
  obtain ⟨fuel, hf⟩ := h
  simp only [Value.cells] at hf
  rcases open_slice Try.underlying22 hf with ⟨hv, hx⟩ | ⟨a, len, cap, m, n', D, Pl, hv, hb, hl, hm, hmm, hx, hi⟩
  · simp at hv
    exact ⟨none, 0, 0, [], by simp [hv], rfl, by omega, fun h => by omega⟩
  · simp only [if_true] at hmm
    subst hmm
    have hd : d = .slice ((List.range len).map D) ((List.range (m - len)).map fun j => D (len + j)) := by
      have := congrArg Prod.fst hx
      exact this
    have hlen : len ≤ 140737488355328 := by
      have := hz ((len + (m - len)) * Try.prog.bytesOf 33) (by rw [hd]; simp [DataW.weights, Try.underlying22])
      rw [bytesAct] at this
      have h2 := reachBytes_lt
      omega
    have hone : ∀ i, i < len → ∃ a0 : Av, ∀ j u, a0.cs[j]? = some u → w.cell? (a.add (i * 11 + j)) = some u := fun i hi' => by
      obtain ⟨cs', hc, ht'⟩ := hi i (by omega)
      rw [cellsAct] at hc
      obtain ⟨a0, rfl⟩ := open_actL ht'
      obtain ⟨_, hcl, hat⟩ := World.cells?_some hc
      refine ⟨a0, fun j u hu => ?_⟩
      have hj : j < 11 := by
        have := (Array.getElem?_eq_some_iff.1 hu).1
        simpa [Av.cs] using this
      rw [← Go.Deep.add_add, hat j hj]
      simpa using hu
    obtain ⟨f, hf'⟩ := choose_lt (α := Av) hone
    refine ⟨some a, len, m, (List.range len).map f, ?_, by simp, hlen, fun hpos => ?_⟩
    · simp at hv
      simp [hv]
    · obtain ⟨b, off, rfl, hbl⟩ := addr_plain (show w.cell? (a.add 0) = _ from by simpa using hf' 0 hpos 0 _ rfl)
      refine ⟨b, off, rfl, hbl, fun k x hx => ?_⟩
      have hk : k < len := by
        have := (List.getElem?_eq_some_iff.1 hx).1
        simpa using this
      have hxk : x = f k := by simpa [hk] using hx.symm
      intro i u hu
      have h1 := hf' k hk i u (by rw [← hxk]; exact hu)
      rw [add_at] at h1
      rw [show off + k * 11 + i = off + (k * 11 + i) by omega]
      exact h1

section
variable {W W' : World} {v : Value} {d : DataW H} {ps : List MemPlace} {sp : Nat → Bool}
theorem stays_i (h : DataW.Trod enc Try.prog W 0 (fun _ => true) true 3 v d ps) (hb : Below W.heap.size W W') (hlt : ∀ x ∈ ps, x.block < W.heap.size) (hsp : ∀ x ∈ ps, sp x.block = true) : DataW.Trod enc Try.prog W' 0 sp true 3 v d ps :=
  WideElems.Trod_stays laidOut (by kernel_rfl) (of_decide_eq_true (by kernel_rfl)) h (fun x hx => hb.same (hlt x hx)) hsp
theorem stays_e (h : DataW.Trod enc Try.prog W 0 (fun _ => true) true 26 v d ps) (hb : Below W.heap.size W W') (hlt : ∀ x ∈ ps, x.block < W.heap.size) (hsp : ∀ x ∈ ps, sp x.block = true) : DataW.Trod enc Try.prog W' 0 sp true 26 v d ps :=
  WideElems.Trod_stays laidOut (by kernel_rfl) (of_decide_eq_true (by kernel_rfl)) h (fun x hx => hb.same (hlt x hx)) hsp
theorem stays_a (h : DataW.Trod enc Try.prog W 0 (fun _ => true) true 22 v d ps) (hb : Below W.heap.size W W') (hlt : ∀ x ∈ ps, x.block < W.heap.size) (hsp : ∀ x ∈ ps, sp x.block = true) : DataW.Trod enc Try.prog W' 0 sp true 22 v d ps :=
  WideElems.Trod_stays laidOut (by kernel_rfl) (of_decide_eq_true (by kernel_rfl)) h (fun x hx => hb.same (hlt x hx)) hsp
end
end
end Go.Proofs.Ytdobpicamibgpaa
