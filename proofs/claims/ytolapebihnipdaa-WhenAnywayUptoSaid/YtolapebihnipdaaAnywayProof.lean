/-
  The law WhenAnyway is proved where what comes in is of bulk at most 1048576: the call returns true and its arguments read behind it as they read before.
-/
import Derived.Test.YtolapebihnipdaaAnyway
import Derived.Test.YtolapebihnipdaaOpen
import Derived.JoinedCond
import Derived.Deep.CondSized
namespace Go.Proofs.Ytolapebihnipdaa.whenAnywayP
open Go.ChangeShapes Go.WideShapes Go.ChangeAt Go.RowKit Go.Deep
set_option linter.unusedVariables false

theorem one_le {H : Type} (d : DataW H) : 1 ≤ Rows.uptoBulk d := by
  cases d with
  | lit l => cases l <;> simp [Rows.uptoBulk]
  | nil => simp [Rows.uptoBulk]
  | ptr d => simp [Rows.uptoBulk]
  | slice elems spare => simp [Rows.uptoBulk]
  | agg parts => simp [Rows.uptoBulk]
  | iface t d => simp [Rows.uptoBulk]
  | map entries => simp [Rows.uptoBulk]
  | held h => simp [Rows.uptoBulk]
theorem length_le {H : Type} (l : List (DataW H)) : l.length ≤ Rows.uptoBulkAll l := by
  induction l with
  | nil => simp [Rows.uptoBulkAll]
  | cons x r ih => have := one_le x; simp only [Rows.uptoBulkAll, List.length_cons]; omega

/-- A slice of steps is no longer than its reading's bulk. -/
theorem steps_len {H : Type} {enc : TypeId × Value → H} {w : World} {A : Option Addr} {n c : Nat} {d : DataW H} {p : List MemPlace} (h : DataW.Trod enc Try.prog w 0 (fun _ => true) true 29 (.slice A n c) d p) : n ≤ Rows.uptoBulk d := by
  obtain ⟨fuel, hf⟩ := h
  simp only [Value.cells] at hf
  rcases open_slice_fields Try.underlying29 Try.underlying43 (by kernel_rfl) cells43 hf with ⟨hv, hx⟩ | ⟨a, len, cap, m, D, Pl, hv, hb, hl, hm, hmm, hx, hi⟩
  · simp at hv
    omega
  · have hn : n = len := by simp at hv; exact hv.2.1
    have hd : d = .slice ((List.range len).map D) ((List.range (m - len)).map fun j => D (len + j)) := congrArg Prod.fst hx
    subst hn
    rw [hd]
    have := length_le ((List.range n).map D)
    simp only [List.length_map, List.length_range] at this
    simp only [Rows.uptoBulk]
    omega

set_option maxRecDepth 100000 in
theorem lifted (os : Os) (started : os.Started) (H : Type) (enc : TypeId × Value → H) (F : Stop.Interp) :
    ReturnsInHanded {} Try.checked os 6 .any ((Rows.OpenSpec.upto Rows.whenAnywaySpec).pre6 enc Try.prog Try.f6 Rows.whenAnywayUptoRow.domain false) (((Rows.OpenSpec.upto Rows.whenAnywaySpec).at F).post enc Try.prog Try.f6 false true false false) := by
  refine returnsInHanded_of_cond_sized (C := Try.checked) (s := Rows.OpenSpec.upto Rows.whenAnywaySpec) (k := Rows.uptoSmall) rfl own started (by kernel_rfl) Try.func6
    (OpenSpec.witness (enc := enc) (C := Try.checked) (s := Rows.OpenSpec.upto Rows.whenAnywaySpec) (k := Rows.uptoSmall) rfl false ⟨#[], #[.agg #[.int .i64 0, .int .i64 0, .int .i64 0], .int .i64 0, .int .i64 0, .slice none 0 0, .slice none 0 0, .slice none 0 0], []⟩ 8 (by kernel_rfl) (by kernel_rfl) (by kernel_rfl)
      (x := ([.agg [.lit (.int .i64 0), .lit (.int .i64 0), .lit (.int .i64 0)], .lit (.int .i64 0), .lit (.int .i64 0), .nil, .nil, .nil], [], [])) (by kernel_rfl) rfl (by kernel_rfl)) ?_
  intro W base args ds gs before hval0 hW hcnd hk hsz _
  have hval : ∀ (j : Nat) t v, Try.f6.params[j]? = some t → args[j]? = some v → Value.okWide Try.prog W .any base t v := hval0
  have hW' := hW
  obtain ⟨p, q, hA0, hV, rfl, hfz, hnd⟩ := hW
  have hA : DataW.TrodAll enc Try.prog W 0 (fun _ => true) true Try.f6.params.toList args.toList ds p := hA0
  rw [Try.params6] at hA hval hsz
  obtain ⟨v0, vs0, d0, ds0, p0, q0, hargs, rfl, rfl, h0, r0⟩ := trodAll_cons hA
  obtain ⟨v1, vs1, d1, ds1, p1, q1, rfl, rfl, rfl, h1, r1⟩ := trodAll_cons r0
  obtain ⟨v2, vs2, d2, ds2, p2, q2, rfl, rfl, rfl, h2, r2⟩ := trodAll_cons r1
  obtain ⟨v3, vs3, d3, ds3, p3, q3, rfl, rfl, rfl, h3, r3⟩ := trodAll_cons r2
  obtain ⟨v4, vs4, d4, ds4, p4, q4, rfl, rfl, rfl, h4, r4⟩ := trodAll_cons r3
  obtain ⟨v5, vs5, d5, ds5, p5, q5, rfl, rfl, rfl, h5, r5⟩ := trodAll_cons r4
  obtain ⟨rfl, rfl, rfl⟩ := trodAll_nil r5
  obtain rfl : args = #[v0, v1, v2, v3, v4, v5] := by cases args; simp_all
  obtain ⟨rfl, rfl⟩ := trodVars_none hV
  clear hA0 hval0
  have hlt : ∀ x, x ∈ p0 ++ (p1 ++ (p2 ++ (p3 ++ (p4 ++ (p5 ++ ([] : List MemPlace)))))) → x.block < W.heap.size := fun x hx => by simpa using hW'.lt x (by simpa using hx)
  have hbulk : Rows.uptoBulkAll ([d0, d1, d2, d3, d4, d5] ++ ([] : List (DataW H))) ≤ 1048576 := of_decide_eq_true hk
  simp only [List.append_nil, Rows.uptoBulkAll] at hbulk
  obtain ⟨j0, b0, n0, e0⟩ := open_bounds (hval 0 23 v0 rfl rfl) h0
  obtain ⟨a1, e1, _, _, w1⟩ := open_int Try.underlying3 (hval 1 3 v1 rfl rfl) h1
  obtain ⟨a2, e2, _, _, w2⟩ := open_int Try.underlying3 (hval 2 3 v2 rfl rfl) h2
  obtain ⟨A3, m3, c3, l3, e3, s3⟩ := open_steps (by obtain ⟨A, n, c, h⟩ := okWide_slice Try.underlying29 (hval 3 29 v3 rfl rfl); exact ⟨A, n, c, h⟩) h3 (fun q hq => by simpa using List.all_eq_true.1 hsz q (DataW.weights_mem_each (j := 3) (t := 29) rfl rfl q hq))
  obtain ⟨A4, m4, c4, l4, e4, s4⟩ := open_steps (by obtain ⟨A, n, c, h⟩ := okWide_slice Try.underlying29 (hval 4 29 v4 rfl rfl); exact ⟨A, n, c, h⟩) h4 (fun q hq => by simpa using List.all_eq_true.1 hsz q (DataW.weights_mem_each (j := 4) (t := 29) rfl rfl q hq))
  obtain ⟨A5, m5, c5, l5, e5, s5⟩ := open_steps (by obtain ⟨A, n, c, h⟩ := okWide_slice Try.underlying29 (hval 5 29 v5 rfl rfl); exact ⟨A, n, c, h⟩) h5 (fun q hq => by simpa using List.all_eq_true.1 hsz q (DataW.weights_mem_each (j := 5) (t := 29) rfl rfl q hq))
  have z3 : m3 ≤ Rows.uptoBulk d3 := steps_len (e3 ▸ h3)
  have z4 : m4 ≤ Rows.uptoBulk d4 := steps_len (e4 ▸ h4)
  have z5 : m5 ≤ Rows.uptoBulk d5 := steps_len (e5 ▸ h5)
  have hwalk : Calls Try.prog 6 #[v0, v1, v2, v3, v4, v5] W fun e w' => e = .returned (.bool true) ∧ Below W.heap.size W w' := by
    rw [e0, e1, e2, e3, e4, e5]
    exact anyway_any j0 b0 n0 a1 a2 A3 A4 A5 m3 c3 m4 c4 m5 c5 l3 l4 l5 W s3 s4 s5 (by omega) (by omega) (by omega) (int_bds w2).1
  refine hwalk.mono fun e W' ⟨he, hb⟩ => ?_
  subst he
  refine ⟨_, rfl, post_of_below (s := Rows.whenAnywaySpec) (pa := p0 ++ (p1 ++ (p2 ++ (p3 ++ (p4 ++ (p5 ++ [])))))) (pv := []) hW' (fun _ _ _ => trodAll_cons_mk (shut_bool Try.underlying4 _) trodAll_mk0) (fun sp hsp => ?_) (fun _ _ => rfl) (by simp) hb (ok_one (by kernel_rfl) rfl (okWide_bool_mk Try.underlying4 _))⟩
  exact trodAll_cons_mk (stays23 h0 hb (fun x hx => hlt x (by simp [hx])) (fun x hx => hsp x (by simp [hx]))) (trodAll_cons_mk (stays3 h1 hb (fun x hx => hlt x (by simp [hx])) (fun x hx => hsp x (by simp [hx]))) (trodAll_cons_mk (stays3 h2 hb (fun x hx => hlt x (by simp [hx])) (fun x hx => hsp x (by simp [hx]))) (trodAll_cons_mk (stays29 h3 hb (fun x hx => hlt x (by simp [hx])) (fun x hx => hsp x (by simp [hx]))) (trodAll_cons_mk (stays29 h4 hb (fun x hx => hlt x (by simp [hx])) (fun x hx => hsp x (by simp [hx]))) (trodAll_cons_mk (stays29 h5 hb (fun x hx => hlt x (by simp [hx])) (fun x hx => hsp x (by simp [hx]))) (trodAll_mk0))))))

theorem proved : Rows.WhenAnywayUptoSaid :=
  OpenClaim.holds_of_cond 6 Try.f6 rfl rfl rfl rfl rfl rfl rfl ⟨rfl, rfl, rfl, rfl, rfl⟩ rfl rfl rfl rfl rfl (by kernel_rfl) Try.func6 (by kernel_rfl)
    (of_decide_eq_true (by kernel_rfl)) (by unfold Func.isWrapper; first | (rw [if_pos (by decide +kernel)]; kernel_rfl) | (rw [if_neg (by decide +kernel)]; exact ⟨rfl, rfl⟩))
    (fun os started H enc _ F => lifted os started H enc F)
#print axioms proved
end Go.Proofs.Ytolapebihnipdaa.whenAnywayP
