/-
  What is noted: what the laws say of lists of notes, plain.
-/
import Derived.Test.YtdobpicamibgpaaNote
namespace Go.Proofs.Ytdobpicamibgpaa
set_option linter.unusedVariables false
set_option linter.unusedSimpArgs false

def cnt1 (v : Int × Int × Int) (r : Int) : Int × Int := (min v.1 r, max (min v.2.1 (r + 1)) (min v.1 r + 1))

theorem cnt_eq (L : Notes) (k : Int × Int) (r : Int) : cnt L k r = match look L k with | none => (0, r + 1) | some v => cnt1 v r := by
  unfold cnt cnt1
  cases look L k <;> rfl

theorem cnt_put (L : Notes) (k k' : Int × Int) (v : Int × Int × Int) (r : Int) : cnt (putL L k v) k' r = if k' = k then cnt1 v r else cnt L k' r := by
  rw [cnt_eq, look_put]
  by_cases h : k' = k
  · rw [if_pos h, if_pos h]
  · rw [if_neg h, if_neg h, cnt_eq]

theorem look_old {L : Notes} (h : L.Pairwise fun a b => a.1 ≠ b.1) (p : Int) (k : Int × Int) : look (oldL L p) k = if p < 1 then look L k else (look L k).bind fun v => if gone (fade p v) then none else some (fade p v) := by
  unfold oldL
  by_cases hp : p < 1
  · rw [if_pos hp, if_pos hp]
  · rw [if_neg hp, if_neg hp]
    induction L with
    | nil => rfl
    | cons e L ih =>
      rw [List.pairwise_cons] at h
      rw [List.filterMap_cons, look_cons]
      by_cases hk : e.1 = k
      · rw [if_pos hk]
        simp only [older1, Option.bind_some]
        by_cases hg : gone (fade p e.2) = true
        · rw [if_pos hg, if_pos hg]
          simp only
          rw [ih h.2]
          have hn : look L k = none := by
            cases hl : look L k with
            | none => rfl
            | some v => exact absurd hk (fun e2 => h.1 _ (look_some hl) (by rw [e2]))
          rw [hn]; rfl
        · rw [if_neg hg, if_neg hg]
          simp only
          rw [look_cons, if_pos hk]
      · rw [if_neg hk, ← ih h.2]
        simp only [older1]
        by_cases hg : gone (fade p e.2) = true
        · rw [if_pos hg]
        · rw [if_neg hg]
          simp only
          rw [look_cons, if_neg hk]

theorem cnt_old {L : Notes} (h : Good L) (p : Int) (k : Int × Int) {r : Int} (hr : 0 < r) : (cnt (oldL L p) k r).1 ≤ (cnt L k r).1 ∧ (cnt L k r).2 ≤ (cnt (oldL L p) k r).2 := by
  rw [cnt_eq, cnt_eq, look_old h.once]
  by_cases hp : p < 1
  · rw [if_pos hp]; exact ⟨Int.le_refl _, Int.le_refl _⟩
  · rw [if_neg hp]
    cases hl : look L k with
    | none => exact ⟨Int.le_refl _, Int.le_refl _⟩
    | some v =>
      have hv : noteOk v := (h.ok _ (look_some hl)).2
      have hf := fade_ok hv (show 0 < p by omega)
      have h1 := upI_bd hv.1 (show 0 < p by omega)
      have h2 := upI_bd (show 0 ≤ v.2.2 + 1 - v.2.1 by simp only [noteOk] at hv; omega) (show 0 < p by omega)
      simp only [Option.bind_some]
      by_cases hg : gone (fade p v) = true
      · rw [if_pos hg]
        simp only [cnt1]
        simp only [noteOk] at hv
        omega
      · rw [if_neg hg]
        simp only [cnt1, fade]
        simp only [noteOk, fade] at hv hf
        omega

theorem old_one {L : Notes} (h : Good L) : oldL L 1 = [] := by
  unfold oldL
  rw [if_neg (by decide), List.filterMap_eq_nil_iff]
  intro e he
  have hv := (h.ok e he).2
  simp only [noteOk] at hv
  simp only [older1]
  rw [if_pos]
  simp only [gone, fade, upI_one, Bool.and_eq_true, decide_eq_true_eq]
  omega

theorem length_old (L : Notes) (p : Int) : (oldL L p).length ≤ L.length := by
  unfold oldL
  split
  · exact Nat.le_refl _
  · exact List.length_filterMap_le _ _

theorem old_none {L : Notes} {p : Int} (hp : p < 1) : oldL L p = L := if_pos hp

/-! The acts of a law. -/

structure Ac where
  d : Int
  e : E4
  x : Int

def doL (L : Notes) (a : Ac) : Notes := if a.d = 1 then failL L a.e a.x else if a.d = 2 then passL L a.e a.x else if a.d = 3 then moveL L a.e a.x else oldL L a.x

theorem Good.do_ {L : Notes} (h : Good L) (a : Ac) : Good (doL L a) := by
  unfold doL
  split
  · exact h.fail _ _
  · split
    · exact h.pass _ _
    · split
      · exact h.move _ _
      · exact h.old _

theorem Good.fold {L : Notes} (h : Good L) (l : List Ac) : Good (l.foldl doL L) := by
  induction l generalizing L with
  | nil => exact h
  | cons a l ih => exact ih (h.do_ a)

theorem do_len (L : Notes) (a : Ac) : (doL L a).length ≤ L.length + 2 := by
  have hp : ∀ (L : Notes) k v, (putL L k v).length ≤ L.length + 1 := fun L k v => by rw [length_put]; split <;> omega
  unfold doL failL passL moveL
  split
  · split
    · have := hp L (a.e.f, a.e.c) (min (cnt L (a.e.f, a.e.c) a.e.r).1 (a.x - 1), min (cnt L (a.e.f, a.e.c) a.e.r).2 a.x, a.e.r); omega
    · omega
  · split
    · split
      · have := hp L (a.e.f, a.e.c) (max (cnt L (a.e.f, a.e.c) a.e.r).1 a.x, max (cnt L (a.e.f, a.e.c) a.e.r).2 (a.x + 1), a.e.r); omega
      · omega
    · split
      · split
        · refine Nat.le_trans (hp _ _ _) (Nat.succ_le_succ (hp _ _ _))
        · omega
      · have := length_old L a.x; omega

theorem fold_len (L : Notes) (l : List Ac) : (l.foldl doL L).length ≤ L.length + 2 * l.length := by
  induction l generalizing L with
  | nil => simp
  | cons a l ih =>
    rw [List.foldl_cons, List.length_cons]
    have := ih (doL L a)
    have := do_len L a
    omega

/-! The odds of an amount: above, and below. -/

def oddN (L : Notes) (e : E4) (x : Int) : Int := (cnt L (e.f, e.c) e.r).2 - min (max x (cnt L (e.f, e.c) e.r).1) (cnt L (e.f, e.c) e.r).2
def oddD (L : Notes) (e : E4) : Int := (cnt L (e.f, e.c) e.r).2 - (cnt L (e.f, e.c) e.r).1
def oddOk (e : E4) (x : Int) : Bool := e.ok && (decide (0 ≤ x) && decide (x ≤ e.r))

theorem odd_bd {L : Notes} (h : Good L) {e : E4} {x : Int} (he : 0 < e.r) : 0 ≤ oddN L e x ∧ oddN L e x ≤ oddD L e ∧ 0 < oddD L e ∧ oddD L e ≤ e.r + 1 := by
  have := cnt_ok h (e.f, e.c) he
  unfold oddN oddD
  omega

theorem odd_ref (L : Notes) (e : E4) (x : Int) (h : Good L) (he : 0 < e.r) : (cnt L (e.f, e.c) e.r).2 - max (cnt L (e.f, e.c) e.r).1 (min x (cnt L (e.f, e.c) e.r).2) = oddN L e x := by
  have := cnt_ok h (e.f, e.c) he
  unfold oddN
  omega

theorem may_spec {e : E4} {x : Int} : e.may x = true ↔ ((0 ≤ e.f ∧ e.f < 12) ∧ (0 ≤ e.t ∧ e.t < 12) ∧ e.f ≠ e.t ∧ (0 ≤ e.c ∧ e.c < 1048576) ∧ 0 < e.r ∧ e.r ≤ 1125899906842624) ∧ 0 < x ∧ x ≤ e.r := by
  simp only [E4.may, E4.ok, Bool.and_eq_true, decide_eq_true_eq, mayB_iff]

theorem oddOk_spec {e : E4} {x : Int} : oddOk e x = true ↔ ((0 ≤ e.f ∧ e.f < 12) ∧ (0 ≤ e.t ∧ e.t < 12) ∧ e.f ≠ e.t ∧ (0 ≤ e.c ∧ e.c < 1048576) ∧ 0 < e.r ∧ e.r ≤ 1125899906842624) ∧ 0 ≤ x ∧ x ≤ e.r := by
  simp only [oddOk, E4.ok, Bool.and_eq_true, decide_eq_true_eq, mayB_iff]

theorem cnt_fail {L : Notes} {e : E4} {x : Int} (h : Good L) (hm : e.may x = true) (k : Int × Int) (r : Int) (hk : k ≠ (e.f, e.c)) : cnt (failL L e x) k r = cnt L k r := by
  unfold failL; rw [if_pos hm, cnt_put, if_neg hk]
theorem cnt_pass {L : Notes} {e : E4} {x : Int} (h : Good L) (hm : e.may x = true) (k : Int × Int) (r : Int) (hk : k ≠ (e.f, e.c)) : cnt (passL L e x) k r = cnt L k r := by
  unfold passL; rw [if_pos hm, cnt_put, if_neg hk]

theorem cnt_fail_self {L : Notes} {e : E4} {x : Int} (h : Good L) (hm : e.may x = true) : cnt (failL L e x) (e.f, e.c) e.r = (min (cnt L (e.f, e.c) e.r).1 (x - 1), min (cnt L (e.f, e.c) e.r).2 x) := by
  have hs := may_spec.1 hm
  have hc := cnt_ok h (e.f, e.c) hs.1.2.2.2.2.1
  unfold failL
  rw [if_pos hm, cnt_put, if_pos rfl]
  simp only [cnt1, Prod.mk.injEq]
  omega

theorem cnt_pass_self {L : Notes} {e : E4} {x : Int} (h : Good L) (hm : e.may x = true) : cnt (passL L e x) (e.f, e.c) e.r = (max (cnt L (e.f, e.c) e.r).1 x, max (cnt L (e.f, e.c) e.r).2 (x + 1)) := by
  have hs := may_spec.1 hm
  have hc := cnt_ok h (e.f, e.c) hs.1.2.2.2.2.1
  unfold passL
  rw [if_pos hm, cnt_put, if_pos rfl]
  simp only [cnt1, Prod.mk.injEq]
  omega

/-- What failed has no odds. -/
theorem fail_odds {L : Notes} {e : E4} {x : Int} (h : Good L) (hm : e.may x = true) : oddN (failL L e x) e x = 0 := by
  have hs := may_spec.1 hm
  have hc := cnt_ok h (e.f, e.c) hs.1.2.2.2.2.1
  unfold oddN
  rw [cnt_fail_self h hm]
  simp only
  omega

/-- What passed has all. -/
theorem pass_odds {L : Notes} {e : E4} {x : Int} (h : Good L) (hm : e.may x = true) : oddN (passL L e x) e x = oddD (passL L e x) e := by
  have hs := may_spec.1 hm
  have hc := cnt_ok h (e.f, e.c) hs.1.2.2.2.2.1
  unfold oddN oddD
  rw [cnt_pass_self h hm]
  simp only
  omega

theorem nought_odds {L : Notes} {e : E4} (h : Good L) (he : 0 < e.r) : oddN L e 0 = oddD L e := by
  have hc := cnt_ok h (e.f, e.c) he
  unfold oddN oddD
  omega

/-- The odds of more are those of less, times what they are once that has passed. -/
theorem chain {L : Notes} {e : E4} {a b : Int} (h : Good L) (ha : oddOk e a = true) (hb : oddOk e b = true) (hab : a ≤ b) :
    oddN L e a * oddN (passL L e a) e b * oddD L e = oddN L e b * (oddD L e * oddD (passL L e a) e) ∧ oddN L e b ≤ oddN L e a ∧ oddN (passL L e a) e a = oddD (passL L e a) e := by
  have hs := oddOk_spec.1 ha
  have hs2 := oddOk_spec.1 hb
  have hr := hs.1.2.2.2.2.1
  have hc := cnt_ok h (e.f, e.c) hr
  by_cases h0 : a = 0
  · subst h0
    have hp : passL L e 0 = L := by
      unfold passL
      rw [if_neg]
      intro hh
      have := (may_spec.1 hh).2.1
      omega
    rw [hp, nought_odds h hr]
    refine ⟨by rw [Int.mul_comm (oddD L e) (oddN L e b), Int.mul_assoc], ?_, rfl⟩
    exact (odd_bd h hr).2.1
  · have hm : e.may a = true := may_spec.2 ⟨hs.1, by omega, hs.2.2⟩
    refine ⟨?_, ?_, pass_odds h hm⟩
    · by_cases h1 : a < (cnt L (e.f, e.c) e.r).2
      · have e1 : oddN (passL L e a) e b = oddN L e b := by
          unfold oddN; rw [cnt_pass_self h hm]; simp only; omega
        have e2 : oddD (passL L e a) e = oddN L e a := by
          unfold oddN oddD; rw [cnt_pass_self h hm]; simp only; omega
        rw [e1, e2, Int.mul_comm (oddN L e a) (oddN L e b), Int.mul_assoc, Int.mul_comm (oddN L e a) (oddD L e)]
      · have e1 : oddN L e a = 0 := by unfold oddN; omega
        have e2 : oddN L e b = 0 := by unfold oddN; omega
        rw [e1, e2]; simp
    · unfold oddN; omega

/-! What is noted is true, if what was told was. -/

def eT (room : Int) : E4 := ⟨1, 2, 3, room⟩
def bT (room : Int) : E4 := ⟨2, 1, 3, room⟩
/-- A round: what is noted, and how much lies on the first side. -/
def trueS (room : Int) (s : Notes × Int) (a : Int × Int) : Notes × Int :=
  if a.1 = 1 ∨ a.1 = 2 then (if a.2 ≤ s.2 then passL s.1 (eT room) a.2 else failL s.1 (eT room) a.2, s.2)
  else if a.1 = 3 then (if 1 ≤ a.2 ∧ a.2 ≤ s.2 then (moveL s.1 (eT room) a.2, s.2 - a.2) else s)
  else if a.1 = 4 then (if 1 ≤ a.2 ∧ a.2 ≤ room - s.2 then (moveL s.1 (bT room) a.2, s.2 + a.2) else s)
  else (oldL s.1 a.2, s.2)

structure TrueI (room : Int) (s : Notes × Int) : Prop where
  good : Good s.1
  has0 : 0 ≤ s.2
  has1 : s.2 ≤ room
  fwd : (cnt s.1 (1, 3) room).1 ≤ s.2 ∧ s.2 < (cnt s.1 (1, 3) room).2
  bck : (cnt s.1 (2, 3) room).1 ≤ room - s.2 ∧ room - s.2 < (cnt s.1 (2, 3) room).2

theorem TrueI.start {room has : Int} (h0 : 0 ≤ has) (h1 : has ≤ room) : TrueI room ([], has) :=
  ⟨Good.nil, h0, h1, by simp only [cnt, look, List.find?_nil, Option.map_none]; omega, by simp only [cnt, look, List.find?_nil, Option.map_none]; omega⟩

theorem TrueI.step {room : Int} {s : Notes × Int} (h : TrueI room s) (hr : 0 < room) (hr2 : room ≤ 1125899906842624) (a : Int × Int) : TrueI room (trueS room s a) := by
  obtain ⟨L, has⟩ := s
  obtain ⟨d, x⟩ := a
  obtain ⟨hg, h0, h1, hf, hb⟩ := h
  simp only at *
  have hc := cnt_ok hg (1, 3) hr
  have hd := cnt_ok hg (2, 3) hr
  have hne : ((2, 3) : Int × Int) ≠ ((eT room).f, (eT room).c) := by simp [eT]
  have q1 : ((1, 3) : Int × Int) = ((eT room).f, (eT room).c) := rfl
  have q2 : ((2, 3) : Int × Int) = ((eT room).t, (eT room).c) := rfl
  have q3 : ((2, 3) : Int × Int) = ((bT room).f, (bT room).c) := rfl
  have q4 : ((1, 3) : Int × Int) = ((bT room).t, (bT room).c) := rfl
  unfold trueS
  simp only
  by_cases c1 : d = 1 ∨ d = 2
  · rw [if_pos c1]
    by_cases c2 : x ≤ has
    · rw [if_pos c2]
      by_cases hm : (eT room).may x = true
      · have hx := (may_spec.1 hm).2
        have e1 : cnt (passL L (eT room) x) (1, 3) room = _ := cnt_pass_self hg hm
        refine ⟨hg.pass _ _, h0, h1, ?_, ?_⟩
        · rw [e1]; simp only [eT]; omega
        · show (cnt (passL L (eT room) x) (2, 3) room).1 ≤ _ ∧ _
          rw [cnt_pass hg hm _ _ hne]; exact hb
      · have e1 : passL L (eT room) x = L := by unfold passL; rw [if_neg hm]
        rw [e1]; exact ⟨hg, h0, h1, hf, hb⟩
    · rw [if_neg c2]
      by_cases hm : (eT room).may x = true
      · have hx := (may_spec.1 hm).2
        have e1 : cnt (failL L (eT room) x) (1, 3) room = _ := cnt_fail_self hg hm
        refine ⟨hg.fail _ _, h0, h1, ?_, ?_⟩
        · rw [e1]; simp only [eT]; omega
        · show (cnt (failL L (eT room) x) (2, 3) room).1 ≤ _ ∧ _
          rw [cnt_fail hg hm _ _ hne]; exact hb
      · have e1 : failL L (eT room) x = L := by unfold failL; rw [if_neg hm]
        rw [e1]; exact ⟨hg, h0, h1, hf, hb⟩
  · rw [if_neg c1]
    by_cases c3 : d = 3
    · rw [if_pos c3]
      by_cases c4 : 1 ≤ x ∧ x ≤ has
      · rw [if_pos c4]
        have hm : (eT room).may x = true := may_spec.2 (by simp only [eT]; omega)
        refine ⟨hg.move _ _, by simp only; omega, by simp only; omega, ?_, ?_⟩
        · unfold moveL
          rw [if_pos hm, cnt_put, if_neg (by simp [eT]), cnt_put, if_pos q1]
          simp only [eT, cnt1]
          omega
        · unfold moveL
          rw [if_pos hm, cnt_put, if_pos q2]
          simp only [eT, cnt1]
          omega
      · rw [if_neg c4]; exact ⟨hg, h0, h1, hf, hb⟩
    · rw [if_neg c3]
      by_cases c5 : d = 4
      · rw [if_pos c5]
        by_cases c4 : 1 ≤ x ∧ x ≤ room - has
        · rw [if_pos c4]
          have hm : (bT room).may x = true := may_spec.2 (by simp only [bT]; omega)
          refine ⟨hg.move _ _, by simp only; omega, by simp only; omega, ?_, ?_⟩
          · unfold moveL
            rw [if_pos hm, cnt_put, if_pos q4]
            simp only [bT, cnt1]
            omega
          · unfold moveL
            rw [if_pos hm, cnt_put, if_neg (by simp [bT]), cnt_put, if_pos q3]
            simp only [bT, cnt1]
            omega
        · rw [if_neg c4]; exact ⟨hg, h0, h1, hf, hb⟩
      · rw [if_neg c5]
        have h2 := cnt_old hg x (1, 3) hr
        have h3 := cnt_old hg x (2, 3) hr
        exact ⟨hg.old _, h0, h1, by simp only; omega, by simp only; omega⟩

theorem TrueI.odds {room : Int} {s : Notes × Int} (h : TrueI room s) : oddN s.1 (eT room) s.2 ≠ 0 := by
  have hf := h.fwd
  simp only [oddN, eT]
  omega

end Go.Proofs.Ytdobpicamibgpaa
