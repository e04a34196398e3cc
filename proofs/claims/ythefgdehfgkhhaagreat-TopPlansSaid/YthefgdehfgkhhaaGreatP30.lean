/-
  How the arguments of these laws read: links and payments as lists; how they read behind the call.
-/
import Derived.Test.YthefgdehfgkhhaaGreatK01
import Derived.Test.YthefgdehfgkhhaaGreatP26
import Derived.Test.YthefgdehfgkhhaaGreatRows
import Derived.ProofKit
import Derived.Deep.Slices
import Derived.Deep.Fields
import Derived.ChangeSame
import Derived.OpenShut
import Derived.SizedLaws
import Derived.Lib.SmallJoins
import Derived.Test.YthefgdehfgkhhaaGreatP29
namespace Go.Proofs.YthefgdehfgkhhaaGreat
open Go.ChangeShapes Go.WideShapes Go.ChangeAt Go.RowKit Go.Deep
set_option linter.unusedVariables false
set_option linter.unusedSimpArgs false
theorem own : ownKnob Tryz.prog.godebug = none := by kernel_rfl
theorem laidOut : laidOutB Tryz.prog = true := by kernel_rfl
theorem cellsU8 : Tryz.prog.cellsOf 5 = 1 := by kernel_rfl
theorem cellsU16 : Tryz.prog.cellsOf 38 = 1 := by kernel_rfl
theorem cells2U8 : Tryz.prog.cellsOf 74 = 2 := by kernel_rfl
theorem cells2U16 : Tryz.prog.cellsOf 73 = 2 := by kernel_rfl
theorem cells3U16 : Tryz.prog.cellsOf 39 = 3 := by kernel_rfl
theorem bytes3U16 : Tryz.prog.bytesOf 39 = 6 := by kernel_rfl
theorem cellsLk : Tryz.prog.cellsOf 76 = 8 := by kernel_rfl
section
variable {H : Type} {enc : TypeId × Value → H} {P : Program}
theorem post_of_below {f : Func} {s : ChangeSpec} {apart fresh handsOn again : Bool} {W W' : World} {args : Array Value} {v : Value} {ds gs : List (DataW H)} {before pa pv : List MemPlace}
 (hW : DataW.Whole enc P f.params.toList s.vars apart W args.toList ds gs before)
 (hres : ∀ (b : Nat) (sp : Nat → Bool) (hd : Bool), DataW.TrodAll enc P W' b sp hd f.resultTypes.toList (v.resultList f.resultTypes.size) (s.fn H (ds ++ gs)).results [])
 (hargs : ∀ sp : Nat → Bool, (∀ p ∈ before, sp p.block = true) → DataW.TrodAll enc P W' 0 sp true f.params.toList args.toList (s.fn H (ds ++ gs)).args pa)
 (hvars : ∀ sp : Nat → Bool, (∀ p ∈ before, sp p.block = true) → DataW.TrodVars enc P W' sp s.vars (s.fn H (ds ++ gs)).vars pv)
 (hps : before = pa ++ pv) (hb : Below W.heap.size W W')
 (hok : ∀ (j : Nat) (t : TypeId) (r : Value), f.resultTypes[j]? = some t → (v.resultList f.resultTypes.size)[j]? = some r → Value.okWide P W' .any 0 t r) :
 s.post enc P f apart fresh handsOn again W args v W' := by
 have hlt : ∀ p ∈ before, p.block < W.heap.size := fun p hp => hW.lt p hp
 have hold : ∀ p ∈ before, (fun b => decide (b < W.heap.size)) p.block = true := fun p hp => by simpa using hlt p hp
 refine ⟨ds, gs, before, [], pa, pv, hW, hres _ _ _, hargs _ hold, hvars _ hold, World.keptBut_mono (fun p hp => ⟨hp, ?_⟩) (hb.frame (· ∈ before)), fun _ => ?_⟩
 ·rw [hps, List.mem_append] at hp
  exact Or.inr hp
 ·obtain ⟨_, _, _, _, _, hz, hn⟩ := hW
  refine ⟨hok, _, _, ([] ++ pa) ++ pv, ⟨[] ++ pa, pv, trodAll_append (hargs _ (fun _ _ => rfl)) (hres _ _ _), hvars _ (fun _ _ => rfl), rfl, ?_, ?_⟩, ?_⟩
  ·intro b off hp
   have hin : MemPlace.cell b off ∈ before := by rw [hps]; simpa using hp
   rw [hb.frozen (hlt _ hin)]
   exact hz b off hin
  ·intro ha
   have := hn ha
   rw [hps] at this
   simpa using this
  ·intro p hp _
   rw [hps]
   simpa using hp
end
theorem wf_u8 {n : Int} (h : (Lit.int .u8 n).wf = true) : ∃ m : Nat, n = (m : Int) ∧ m < 256 := by
 simp [Lit.wf, IntKind.min, IntKind.max, IntKind.signed, IntKind.bits] at h
 exact ⟨n.toNat, by omega, by omega⟩
theorem wf_u16 {n : Int} (h : (Lit.int .u16 n).wf = true) : ∃ m : Nat, n = (m : Int) ∧ m < 65536 := by
 simp [Lit.wf, IntKind.min, IntKind.max, IntKind.signed, IntKind.bits] at h
 exact ⟨n.toNat, by omega, by omega⟩
section
variable {H : Type} {enc : TypeId × Value → H} {w : World} {base : Nat} {spare : Nat → Bool} {held : Bool} {n : Nat} {x : DataW H × List MemPlace}
theorem trod_u8 {cs : List Value} (h : DataW.trod enc Tryz.prog w base spare held n 5 cs = some x) : ∃ a : Nat, cs = [.int .u8 (a : Int)] ∧ a < 256 := by
 obtain ⟨k, q, _, hw⟩ := DataW.trod_int Tryz.underlying5 h
 obtain ⟨m, rfl, hm⟩ := wf_u8 hw
 exact ⟨m, q, hm⟩
theorem trod_u16 {cs : List Value} (h : DataW.trod enc Tryz.prog w base spare held n 38 cs = some x) : ∃ a : Nat, cs = [.int .u16 (a : Int)] ∧ a < 65536 := by
 obtain ⟨k, q, _, hw⟩ := DataW.trod_int Tryz.underlying38 h
 obtain ⟨m, rfl, hm⟩ := wf_u16 hw
 exact ⟨m, q, hm⟩
set_option maxRecDepth 100000 in
theorem trod_2u8 {cs : List Value} (h : DataW.trod enc Tryz.prog w base spare held n 74 cs = some x) : ∃ a b : Nat, cs = [.int .u8 (a : Int), .int .u8 (b : Int)] ∧ a < 256 ∧ b < 256 := by
 obtain ⟨xs, m, _, rfl, hl, hlen, hf⟩ := DataW.trod_array Tryz.underlying74 h
 rw [cells2U8] at hl
 match cs, hl with
 | [b0, b1], _ =>
  match xs, hlen with
  | [x0, x1], _ =>
   have h0 := hf 0 (by omega)
   have h1 := hf 1 (by omega)
   simp [cellsU8] at h0 h1
   obtain ⟨a0, e0, l0⟩ := trod_u8 h0
   obtain ⟨a1, e1, l1⟩ := trod_u8 h1
   simp at e0 e1
   exact ⟨a0, a1, by rw [e0, e1], l0, l1⟩
set_option maxRecDepth 100000 in
theorem trod_2u16 {cs : List Value} (h : DataW.trod enc Tryz.prog w base spare held n 73 cs = some x) : ∃ a b : Nat, cs = [.int .u16 (a : Int), .int .u16 (b : Int)] ∧ a < 65536 ∧ b < 65536 := by
 obtain ⟨xs, m, _, rfl, hl, hlen, hf⟩ := DataW.trod_array Tryz.underlying73 h
 rw [cells2U16] at hl
 match cs, hl with
 | [b0, b1], _ =>
  match xs, hlen with
  | [x0, x1], _ =>
   have h0 := hf 0 (by omega)
   have h1 := hf 1 (by omega)
   simp [cellsU16] at h0 h1
   obtain ⟨a0, e0, l0⟩ := trod_u16 h0
   obtain ⟨a1, e1, l1⟩ := trod_u16 h1
   simp at e0 e1
   exact ⟨a0, a1, by rw [e0, e1], l0, l1⟩
set_option maxRecDepth 100000 in
theorem trod_3u16 {cs : List Value} (h : DataW.trod enc Tryz.prog w base spare held n 39 cs = some x) : ∃ a b c : Nat, cs = [.int .u16 (a : Int), .int .u16 (b : Int), .int .u16 (c : Int)] ∧ a < 65536 ∧ b < 65536 ∧ c < 65536 := by
 obtain ⟨xs, m, _, rfl, hl, hlen, hf⟩ := DataW.trod_array Tryz.underlying39 h
 rw [cells3U16] at hl
 match cs, hl with
 | [b0, b1, b2], _ =>
  match xs, hlen with
  | [x0, x1, x2], _ =>
   have h0 := hf 0 (by omega)
   have h1 := hf 1 (by omega)
   have h2 := hf 2 (by omega)
   simp [cellsU16] at h0 h1 h2
   obtain ⟨a0, e0, l0⟩ := trod_u16 h0
   obtain ⟨a1, e1, l1⟩ := trod_u16 h1
   obtain ⟨a2, e2, l2⟩ := trod_u16 h2
   simp at e0 e1 e2
   exact ⟨a0, a1, a2, by rw [e0, e1, e2], l0, l1, l2⟩
set_option maxRecDepth 100000 in
theorem open_lkL {cs : List Value} (h : DataW.trod enc Tryz.prog w base spare held n 76 cs = some x) : ∃ l : Lk, cs = l.cs.toList ∧ l.ok := by
 obtain ⟨xs, m, _, rfl, hl, hlen, hf⟩ := DataW.trod_struct Tryz.underlying76 h
 rw [cellsLk] at hl
 match cs, hl with
 | [b0, b1, b2, b3, b4, b5, b6, b7], _ =>
  match xs, hlen with
  | [x0, x1, x2, x3, x4], _ =>
   have h0 := hf 0 _ rfl
   have h1 := hf 1 _ rfl
   have h2 := hf 2 _ rfl
   have h3 := hf 3 _ rfl
   have h4 := hf 4 _ rfl
   simp [cellsU8, cellsU16, cells2U8, cells2U16] at h0 h1 h2 h3 h4
   obtain ⟨a0, e0, l0⟩ := trod_u8 h0
   obtain ⟨a1, e1, l1⟩ := trod_u8 h1
   obtain ⟨a2, a3, e2, l2, l3⟩ := trod_2u16 h2
   obtain ⟨a4, a5, e4, l4, l5⟩ := trod_2u8 h3
   obtain ⟨a6, a7, e6, l6, l7⟩ := trod_2u16 h4
   simp at e0 e1 e2 e4 e6
   obtain ⟨rfl, rfl⟩ := e2
   obtain ⟨rfl, rfl⟩ := e4
   obtain ⟨rfl, rfl⟩ := e6
   subst e0 e1
   exact ⟨⟨a0, a1, a2, a3, a4, a5, a6, a7⟩, rfl, ⟨l0, l1⟩, ⟨l2, l3⟩, ⟨l4, l5⟩, l6, l7⟩
end
section
variable {H : Type} {enc : TypeId × Value → H}
/-- The address of a cell that is there. -/
theorem addr_plain {w : World} {a : Addr} {v : Value} (h : w.cell? (a.add 0) = some v) : ∃ b off, a = ⟨b, off, none⟩ ∧ b < w.heap.size := by
 obtain ⟨b, off, vw⟩ := a
 cases vw with
 | some q =>
  exfalso
  simp [Addr.add, World.cell?] at h
  split at h <;> simp at h
 | none =>
  refine ⟨b, off, rfl, ?_⟩
  exact World.block_lt_of_cell? w ⟨b, off, none⟩ (by simpa [Addr.add] using h)
theorem add_at (b off i : Nat) : (⟨b, off, none⟩ : Addr).add i = ⟨b, off + i, none⟩ := by
 unfold Addr.add
 split <;> simp_all
instance : Inhabited Lk := ⟨⟨0, 0, 0, 0, 0, 0, 0, 0⟩⟩
/-- A slice of links, as it reads. -/
theorem open_links {w : World} {v : Value} {d : DataW H} {p : List MemPlace} (hv : ∃ A n c, v = .slice A n c) (h : DataW.Trod enc Tryz.prog w 0 (fun _ => true) true 22 v d p) :
 ∃ A n c l, v = .slice A n c ∧ RK w A n l ∧ ∀ x ∈ l, Lk.ok x := by
 obtain ⟨A0, n0, c0, rfl⟩ := hv
 obtain ⟨fuel, hf⟩ := h
 simp only [Value.cells] at hf
 rcases open_slice Tryz.underlying22 hf with ⟨hv, hx⟩ | ⟨a, len, cap, m, n', D, Pl, hv, hb, hl, hm, hmm, hx, hi⟩
 ·simp at hv
  exact ⟨none, 0, 0, [], by simp [hv], ⟨rfl, fun h => by omega⟩, fun x hx => by simp at hx⟩
 ·simp only [if_true] at hmm
  subst hmm
  have hone : ∀ i, i < len → ∃ l : Lk, l.ok ∧ ∀ j u, l.cs[j]? = some u → w.cell? (a.add (i * 8 + j)) = some u := fun i hi' => by
   obtain ⟨cs', hc, ht'⟩ := hi i (by omega)
   rw [cellsLk] at hc
   obtain ⟨l, rfl, hok⟩ := open_lkL ht'
   obtain ⟨_, hcl, hat⟩ := World.cells?_some hc
   refine ⟨l, hok, fun j u hu => ?_⟩
   have hj : j < 8 := by
    have := (Array.getElem?_eq_some_iff.1 hu).1
    simpa [Lk.cs] using this
   rw [← Go.Deep.add_add, hat j hj]
   simpa using hu
  obtain ⟨f, hf'⟩ := choose_lt (α := Lk) hone
  refine ⟨some a, len, m, (List.range len).map f, ?_, ⟨by simp, fun hpos => ?_⟩, fun x hx => ?_⟩
  ·simp at hv
   simp [hv]
  ·obtain ⟨b, off, rfl, hbl⟩ := addr_plain (show w.cell? (a.add 0) = _ from by simpa using (hf' 0 hpos).2 0 _ rfl)
   refine ⟨b, off, rfl, hbl, fun k l hl2 j u hu => ?_⟩
   have hk : k < len := by
    have := (List.getElem?_eq_some_iff.1 hl2).1
    simpa using this
   have hlk : l = f k := by simpa [hk] using hl2.symm
   have h1 := (hf' k hk).2 j u (by rw [← hlk]; exact hu)
   rw [add_at] at h1
   rw [show off + k * 8 + j = off + (k * 8 + j) by omega]
   exact h1
  ·simp at hx
   obtain ⟨k, hk, rfl⟩ := hx
   exact (hf' k hk).1
section
variable {W W' : World} {v : Value} {d : DataW H} {ps : List MemPlace} {sp : Nat → Bool}
theorem stays_8 (h : DataW.Trod enc Tryz.prog W 0 (fun _ => true) true 5 v d ps) (hb : Below W.heap.size W W') (hlt : ∀ x ∈ ps, x.block < W.heap.size) (hsp : ∀ x ∈ ps, sp x.block = true) : DataW.Trod enc Tryz.prog W' 0 sp true 5 v d ps :=
 WideElems.Trod_stays laidOut (by kernel_rfl) (of_decide_eq_true (by kernel_rfl)) h (fun x hx => hb.same (hlt x hx)) hsp
theorem stays_16 (h : DataW.Trod enc Tryz.prog W 0 (fun _ => true) true 38 v d ps) (hb : Below W.heap.size W W') (hlt : ∀ x ∈ ps, x.block < W.heap.size) (hsp : ∀ x ∈ ps, sp x.block = true) : DataW.Trod enc Tryz.prog W' 0 sp true 38 v d ps :=
 WideElems.Trod_stays laidOut (by kernel_rfl) (of_decide_eq_true (by kernel_rfl)) h (fun x hx => hb.same (hlt x hx)) hsp
theorem stays_l (h : DataW.Trod enc Tryz.prog W 0 (fun _ => true) true 22 v d ps) (hb : Below W.heap.size W W') (hlt : ∀ x ∈ ps, x.block < W.heap.size) (hsp : ∀ x ∈ ps, sp x.block = true) : DataW.Trod enc Tryz.prog W' 0 sp true 22 v d ps :=
 WideElems.Trod_stays laidOut (by kernel_rfl) (of_decide_eq_true (by kernel_rfl)) h (fun x hx => hb.same (hlt x hx)) hsp
end
end
end Go.Proofs.YthefgdehfgkhhaaGreat
namespace Go.Proofs.YthefgdehfgkhhaaGreat.topPlansP
open Go.ChangeShapes Go.WideShapes Go.ChangeAt Go.RowKit Go.Deep
set_option linter.unusedVariables false
set_option linter.unusedSimpArgs false
set_option maxRecDepth 100000 in
theorem lifted (os : Os) (started : os.Started) (H : Type) (enc : TypeId × Value → H) :
 ReturnsInHanded {} Tryz.checked os 5 .any (Rows.topPlansSpec.pre6 enc Tryz.prog Tryz.f5 Rows.topPlansRow.domain false) (Rows.topPlansSpec.post enc Tryz.prog Tryz.f5 false true false false) := by
 refine returnsInHanded_of_change_sized (C := Tryz.checked) own started (by kernel_rfl) Tryz.func5
  (ChangeSpec.witness6 (enc := enc) (C := Tryz.checked) false ⟨#[], #[.slice none 0 0, .int .u8 0, .int .u8 0, .int .u16 0, .int .u8 0], []⟩ 8 (by kernel_rfl) (by kernel_rfl) (by kernel_rfl) (by kernel_rfl)) ?_
 intro W base args ds gs before hval0 hW hcnd hsz _
 have hval : ∀ (j : Nat) t v, Tryz.f5.params[j]? = some t → args[j]? = some v → Value.okWide Tryz.prog W .any base t v := hval0
 have hW' := hW
 obtain ⟨p, q, hA0, hV, rfl, hfz, hnd⟩ := hW
 have hA : DataW.TrodAll enc Tryz.prog W 0 (fun _ => true) true Tryz.f5.params.toList args.toList ds p := hA0
 rw [Tryz.params5] at hA hval hsz
 obtain ⟨v0, vs0, d0, ds0, p0, q0, hargs, rfl, rfl, h0, r0⟩ := trodAll_cons hA
 obtain ⟨v1, vs1, d1, ds1, p1, q1, rfl, rfl, rfl, h1, r1⟩ := trodAll_cons r0
 obtain ⟨v2, vs2, d2, ds2, p2, q2, rfl, rfl, rfl, h2, r2⟩ := trodAll_cons r1
 obtain ⟨v3, vs3, d3, ds3, p3, q3, rfl, rfl, rfl, h3, r3⟩ := trodAll_cons r2
 obtain ⟨v4, vs4, d4, ds4, p4, q4, rfl, rfl, rfl, h4, r4⟩ := trodAll_cons r3
 obtain ⟨rfl, rfl, rfl⟩ := trodAll_nil r4
 obtain rfl : args = #[v0, v1, v2, v3, v4] := by cases args; simp_all
 obtain ⟨rfl, rfl⟩ := trodVars_none hV
 clear hA0 hval0
 have hlt : ∀ x, x ∈ p0 ++ (p1 ++ (p2 ++ (p3 ++ (p4 ++ ([] : List MemPlace))))) → x.block < W.heap.size := fun x hx => by simpa using hW'.lt x (by simpa using hx)
 obtain ⟨A0, m0, c0, l0, e0, s0, k0⟩ := open_links (by obtain ⟨A, n, c, h⟩ := okWide_slice Tryz.underlying22 (hval 0 22 v0 rfl rfl); exact ⟨A, n, c, h⟩) h0
 obtain ⟨a1, e1, _, _, w1⟩ := open_int Tryz.underlying5 (hval 1 5 v1 rfl rfl) h1
 obtain ⟨a2, e2, _, _, w2⟩ := open_int Tryz.underlying5 (hval 2 5 v2 rfl rfl) h2
 obtain ⟨a3, e3, _, _, w3⟩ := open_int Tryz.underlying38 (hval 3 38 v3 rfl rfl) h3
 obtain ⟨a4, e4, _, _, w4⟩ := open_int Tryz.underlying5 (hval 4 5 v4 rfl rfl) h4
 obtain ⟨n1, g1, b1⟩ := wf_u8 w1
 obtain ⟨n2, g2, b2⟩ := wf_u8 w2
 obtain ⟨n3, g3, b3⟩ := wf_u16 w3
 obtain ⟨n4, g4, b4⟩ := wf_u8 w4
 have hwalk : Calls Tryz.prog 5 #[v0, v1, v2, v3, v4] W fun e w' => e = .returned (.bool true) ∧ Below W.heap.size W w' := by
  rw [e0, e1, e2, e3, e4, g1, g2, g3, g4]
  exact tplans_any W A0 m0 c0 l0 s0 k0 n1 n2 n3 n4 b1 b2 b3 b4
 refine hwalk.mono fun e W' ⟨he, hb⟩ => ?_
 subst he
 refine ⟨_, rfl, post_of_below (pa := p0 ++ (p1 ++ (p2 ++ (p3 ++ (p4 ++ []))))) (pv := []) hW' (fun _ _ _ => trodAll_cons_mk (shut_bool Tryz.underlying4 _) trodAll_mk0) (fun sp hsp => ?_) (fun _ _ => rfl) (by simp) hb (ok_one (by kernel_rfl) rfl (okWide_bool_mk Tryz.underlying4 _))⟩
 exact trodAll_cons_mk (stays_l h0 hb (fun x hx => hlt x (by simp [hx])) (fun x hx => hsp x (by simp [hx]))) (trodAll_cons_mk (stays_8 h1 hb (fun x hx => hlt x (by simp [hx])) (fun x hx => hsp x (by simp [hx]))) (trodAll_cons_mk (stays_8 h2 hb (fun x hx => hlt x (by simp [hx])) (fun x hx => hsp x (by simp [hx]))) (trodAll_cons_mk (stays_16 h3 hb (fun x hx => hlt x (by simp [hx])) (fun x hx => hsp x (by simp [hx]))) (trodAll_cons_mk (stays_8 h4 hb (fun x hx => hlt x (by simp [hx])) (fun x hx => hsp x (by simp [hx]))) (trodAll_mk0)))))
theorem proved : Rows.TopPlansSaid :=
 OpenClaim.holds_of_wide 5 Tryz.f5 rfl rfl rfl rfl rfl rfl rfl ⟨rfl, rfl, rfl, rfl, rfl⟩ rfl rfl rfl rfl rfl (by kernel_rfl) Tryz.func5 (by kernel_rfl)
  (of_decide_eq_true (by kernel_rfl)) (by unfold Func.isWrapper; first | (rw [if_pos (by decide +kernel)]; kernel_rfl) | (rw [if_neg (by decide +kernel)]; exact ⟨rfl, rfl⟩))
  (fun os started H enc _ => lifted os started H enc)
#print axioms proved
end Go.Proofs.YthefgdehfgkhhaaGreat.topPlansP
