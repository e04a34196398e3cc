/-
  What is noted, as a list of entries, one a way: plain, no program in sight.
-/
import Derived.PlainAid
namespace Go.Proofs.Ytdobpicamibgpaa
set_option linter.unusedVariables false
set_option linter.unusedSimpArgs false

/-- What is noted: of each way once, in the order in which it came. -/
abbrev Notes := List ((Int × Int) × (Int × Int × Int))
def look (L : Notes) (k : Int × Int) : Option (Int × Int × Int) := (L.find? fun e => e.1 == k).map (·.2)
/-- The list with an entry put: in its place, or at the end. -/
def putL (L : Notes) (k : Int × Int) (v : Int × Int × Int) : Notes := if (look L k).isSome then L.map (fun e => if e.1 = k then (k, v) else e) else L ++ [(k, v)]
def delL (L : Notes) (k : Int × Int) : Notes := L.filter fun e => e.1 != k
def Once (L : Notes) : Prop := L.Pairwise fun a b => a.1 ≠ b.1

theorem look_some {L : Notes} {k : Int × Int} {v : Int × Int × Int} (h : look L k = some v) : (k, v) ∈ L := by
  unfold look at h
  obtain ⟨e, he, hv⟩ := Option.map_eq_some_iff.1 h
  have h1 := List.find?_some he
  have h2 := List.mem_of_find?_eq_some he
  simp at h1
  rw [← h1, ← hv]
  exact h2

theorem look_none {L : Notes} {k : Int × Int} (h : look L k = none) : ∀ e ∈ L, e.1 ≠ k := by
  unfold look at h
  rw [Option.map_eq_none_iff, List.find?_eq_none] at h
  intro e he hk
  exact h e he (by simp [hk])

theorem look_isSome {L : Notes} {k : Int × Int} : (look L k).isSome = L.any fun e => e.1 == k := by
  unfold look
  rw [Option.isSome_map]
  induction L with
  | nil => rfl
  | cons e L ih =>
    rw [List.find?_cons, List.any_cons]
    by_cases h : (e.1 == k) = true
    · rw [h]; rfl
    · have h' : (e.1 == k) = false := by simpa using h
      rw [h']; simpa using ih

theorem look_cons (e : (Int × Int) × (Int × Int × Int)) (L : Notes) (k : Int × Int) : look (e :: L) k = if e.1 = k then some e.2 else look L k := by
  unfold look
  rw [List.find?_cons]
  by_cases h : e.1 = k
  · simp [h]
  · have h' : (e.1 == k) = false := by simpa using h
    rw [h', if_neg h]

theorem look_append (L M : Notes) (k : Int × Int) : look (L ++ M) k = (look L k).or (look M k) := by
  induction L with
  | nil => rfl
  | cons e L ih =>
    rw [List.cons_append, look_cons, look_cons, ih]
    by_cases h : e.1 = k
    · simp [h]
    · simp [h]

theorem look_map_put (L : Notes) (k k' : Int × Int) (v : Int × Int × Int) : look (L.map (fun e => if e.1 = k then (k, v) else e)) k' = if k' = k then (look L k).map (fun _ => v) else look L k' := by
  induction L with
  | nil => simp [look]
  | cons e L ih =>
    rw [List.map_cons, look_cons, ih]
    by_cases h : e.1 = k
    · rw [if_pos h]
      by_cases h2 : k' = k
      · subst h2; simp [look_cons, h]
      · have h3 : ¬ k = k' := fun e => h2 e.symm
        have h4 : ¬ e.1 = k' := by rw [h]; exact h3
        simp [look_cons, h2, h3, h4]
    · rw [if_neg h]
      by_cases h2 : k' = k
      · subst h2; simp [look_cons, h]
      · simp [look_cons, h2]

theorem look_put (L : Notes) (k k' : Int × Int) (v : Int × Int × Int) : look (putL L k v) k' = if k' = k then some v else look L k' := by
  unfold putL
  by_cases h : (look L k).isSome = true
  · rw [if_pos h, look_map_put]
    by_cases h2 : k' = k
    · rw [if_pos h2, if_pos h2]
      cases hl : look L k with
      | none => rw [hl] at h; cases h
      | some x => rfl
    · rw [if_neg h2, if_neg h2]
  · rw [if_neg h, look_append]
    have hn : look L k = none := by cases hl : look L k with
      | none => rfl
      | some x => rw [hl] at h; simp at h
    by_cases h2 : k' = k
    · subst h2; rw [hn, if_pos rfl]; simp [look]
    · rw [if_neg h2, look_cons, if_neg (fun e => h2 e.symm)]
      simp [look]

theorem length_put (L : Notes) (k : Int × Int) (v : Int × Int × Int) : (putL L k v).length = if (look L k).isSome then L.length else L.length + 1 := by
  unfold putL
  split <;> simp

theorem once_put {L : Notes} (h : L.Pairwise fun a b => a.1 ≠ b.1) (k : Int × Int) (v : Int × Int × Int) : (putL L k v).Pairwise fun a b => a.1 ≠ b.1 := by
  unfold putL
  split
  · rw [List.pairwise_map]
    refine h.imp ?_
    intro a b hab
    by_cases ha : a.1 = k <;> by_cases hb : b.1 = k
    · exact absurd (ha.trans hb.symm) hab
    · simp only [ha, hb, if_true, if_false]; exact fun e => hb e.symm
    · simp only [ha, hb, if_true, if_false]; exact ha
    · simp only [ha, hb, if_false]; exact hab
  · rename_i hn
    rw [List.pairwise_append]
    refine ⟨h, List.pairwise_singleton _ _, fun a ha b hb => ?_⟩
    rw [List.mem_singleton.1 hb]
    refine look_none ?_ a ha
    cases hl : look L k with
    | none => rfl
    | some x => rw [hl] at hn; simp at hn

theorem mem_put {L : Notes} {k : Int × Int} {v : Int × Int × Int} {e : (Int × Int) × (Int × Int × Int)} (h : e ∈ putL L k v) : e ∈ L ∨ e = (k, v) := by
  unfold putL at h
  split at h
  · obtain ⟨a, ha, rfl⟩ := List.mem_map.1 h
    split
    · exact .inr rfl
    · exact .inl ha
  · rcases List.mem_append.1 h with h | h
    · exact .inl h
    · exact .inr (List.mem_singleton.1 h)

theorem look_del (L : Notes) (k k' : Int × Int) : look (delL L k) k' = if k' = k then none else look L k' := by
  unfold delL
  induction L with
  | nil => simp [look]
  | cons e L ih =>
    rw [List.filter_cons]
    by_cases h : e.1 = k
    · have h1 : (e.1 != k) = false := by simp [h]
      rw [h1]
      simp only [Bool.false_eq_true, if_false]
      rw [ih, look_cons]
      by_cases h2 : k' = k
      · rw [if_pos h2, if_pos h2]
      · rw [if_neg h2, if_neg h2, if_neg (by rw [h]; exact fun e => h2 e.symm)]
    · have h1 : (e.1 != k) = true := by simp [h]
      rw [h1, if_pos rfl, look_cons, look_cons, ih]
      by_cases h2 : k' = k
      · subst h2; rw [if_neg h, if_pos rfl, if_pos rfl]
      · rw [if_neg h2, if_neg h2]

theorem once_len {L : Notes} (h : L.Pairwise fun a b => a.1 ≠ b.1) (k : Int × Int) : (delL L k).length + (if (look L k).isSome then 1 else 0) = L.length := by
  unfold delL
  induction L with
  | nil => rfl
  | cons e L ih =>
    rw [List.pairwise_cons] at h
    rw [List.filter_cons, look_cons]
    by_cases hk : e.1 = k
    · have h1 : (e.1 != k) = false := by simp [hk]
      rw [h1, if_pos hk]
      have h2 : L.filter (fun e => e.1 != k) = L := by
        rw [List.filter_eq_self]
        intro a ha
        have := h.1 a ha
        rw [hk] at this
        simpa using fun e => this e.symm
      simp [h2]
    · have h1 : (e.1 != k) = true := by simp [hk]
      rw [h1, if_neg hk, if_pos rfl, List.length_cons, List.length_cons, ← ih h.2]
      omega

/-! What an edge may be; what counts of a room; the acts. -/

def partyB (n : Int) : Bool := decide (0 ≤ n) && decide (n < 12)
def mayB (f t c r : Int) : Bool := partyB f && (partyB t && (decide (f ≠ t) && (decide (0 ≤ c) && (decide (c < 1048576) && (decide (0 < r) && decide (r ≤ 1125899906842624))))))

theorem mayB_iff {f t c r : Int} : mayB f t c r = true ↔ (0 ≤ f ∧ f < 12) ∧ (0 ≤ t ∧ t < 12) ∧ f ≠ t ∧ (0 ≤ c ∧ c < 1048576) ∧ 0 < r ∧ r ≤ 1125899906842624 := by
  simp [mayB, partyB]
  omega

/-- The parts of an edge that matter here. -/
structure E4 where
  f : Int
  t : Int
  c : Int
  r : Int

def E4.ok (e : E4) : Bool := mayB e.f e.t e.c e.r
def E4.back (e : E4) : E4 := ⟨e.t, e.f, e.c, e.r⟩
def E4.may (e : E4) (x : Int) : Bool := e.ok && (decide (0 < x) && decide (x ≤ e.r))

/-- Low and high of a way, as they count of a room. -/
def cnt (L : Notes) (k : Int × Int) (r : Int) : Int × Int := match look L k with
  | none => (0, r + 1)
  | some (a, b, _) => (min a r, max (min b (r + 1)) (min a r + 1))

def failL (L : Notes) (e : E4) (x : Int) : Notes := if e.may x then putL L (e.f, e.c) (min (cnt L (e.f, e.c) e.r).1 (x - 1), min (cnt L (e.f, e.c) e.r).2 x, e.r) else L
def passL (L : Notes) (e : E4) (x : Int) : Notes := if e.may x then putL L (e.f, e.c) (max (cnt L (e.f, e.c) e.r).1 x, max (cnt L (e.f, e.c) e.r).2 (x + 1), e.r) else L
def moveL (L : Notes) (e : E4) (x : Int) : Notes := if e.may x then
    putL (putL L (e.f, e.c) (max ((cnt L (e.f, e.c) e.r).1 - x) 0, max ((cnt L (e.f, e.c) e.r).2 - x) (max ((cnt L (e.f, e.c) e.r).1 - x) 0 + 1), e.r))
      (e.t, e.c) (min ((cnt L (e.t, e.c) e.r).1 + x) e.r, min ((cnt L (e.t, e.c) e.r).2 + x) (e.r + 1), e.r) else L

/-- A number divided upwards. -/
def upI (n d : Int) : Int := if 0 < n % d then n / d + 1 else n / d
def fade (p : Int) (v : Int × Int × Int) : Int × Int × Int := (v.1 - upI v.1 p, v.2.1 + upI (v.2.2 + 1 - v.2.1) p, v.2.2)
def gone (v : Int × Int × Int) : Bool := decide (v.1 = 0) && decide (v.2.2 < v.2.1)
def older1 (p : Int) (e : (Int × Int) × (Int × Int × Int)) : Option ((Int × Int) × (Int × Int × Int)) := if gone (fade p e.2) then none else some (e.1, fade p e.2)
def oldL (L : Notes) (p : Int) : Notes := if p < 1 then L else L.filterMap (older1 p)

/-- What every note keeps to. -/
def noteOk (v : Int × Int × Int) : Prop := 0 ≤ v.1 ∧ v.1 < v.2.1 ∧ v.2.1 ≤ v.2.2 + 1 ∧ v.2.2 ≤ 1125899906842624
def wayOk (k : Int × Int) : Prop := (0 ≤ k.1 ∧ k.1 < 12) ∧ (0 ≤ k.2 ∧ k.2 < 1048576)
structure Good (L : Notes) : Prop where
  once : L.Pairwise fun a b => a.1 ≠ b.1
  ok : ∀ e ∈ L, wayOk e.1 ∧ noteOk e.2

theorem Good.nil : Good [] := ⟨List.Pairwise.nil, fun _ h => by cases h⟩
theorem Good.put {L : Notes} (h : Good L) {k : Int × Int} {v : Int × Int × Int} (hk : wayOk k) (hv : noteOk v) : Good (putL L k v) :=
  ⟨once_put h.once _ _, fun e he => by
    rcases mem_put he with h1 | h1
    · exact h.ok e h1
    · subst h1; exact ⟨hk, hv⟩⟩

theorem cnt_ok {L : Notes} (h : Good L) (k : Int × Int) {r : Int} (hr : 0 < r) : 0 ≤ (cnt L k r).1 ∧ (cnt L k r).1 < (cnt L k r).2 ∧ (cnt L k r).2 ≤ r + 1 := by
  unfold cnt
  split
  · simp only; omega
  · rename_i a b z hl
    have := (h.ok _ (look_some hl)).2
    simp only [noteOk] at this
    simp only
    omega

theorem Good.fail {L : Notes} (h : Good L) (e : E4) (x : Int) : Good (failL L e x) := by
  unfold failL
  split
  · rename_i hm
    simp only [E4.may, E4.ok, Bool.and_eq_true, decide_eq_true_eq] at hm
    obtain ⟨hm, hx, hxr⟩ := hm
    rw [mayB_iff] at hm
    have hc := cnt_ok h (e.f, e.c) hm.2.2.2.2.1
    refine h.put ⟨hm.1, hm.2.2.2.1⟩ ?_
    simp only [noteOk]
    omega
  · exact h

theorem Good.pass {L : Notes} (h : Good L) (e : E4) (x : Int) : Good (passL L e x) := by
  unfold passL
  split
  · rename_i hm
    simp only [E4.may, E4.ok, Bool.and_eq_true, decide_eq_true_eq] at hm
    obtain ⟨hm, hx, hxr⟩ := hm
    rw [mayB_iff] at hm
    have hc := cnt_ok h (e.f, e.c) hm.2.2.2.2.1
    refine h.put ⟨hm.1, hm.2.2.2.1⟩ ?_
    simp only [noteOk]
    omega
  · exact h

theorem Good.move {L : Notes} (h : Good L) (e : E4) (x : Int) : Good (moveL L e x) := by
  unfold moveL
  split
  · rename_i hm
    simp only [E4.may, E4.ok, Bool.and_eq_true, decide_eq_true_eq] at hm
    obtain ⟨hm, hx, hxr⟩ := hm
    rw [mayB_iff] at hm
    have hc := cnt_ok h (e.f, e.c) hm.2.2.2.2.1
    have hd := cnt_ok h (e.t, e.c) hm.2.2.2.2.1
    refine (h.put ⟨hm.1, hm.2.2.2.1⟩ ?_).put ⟨hm.2.1, hm.2.2.2.1⟩ ?_
    · simp only [noteOk]; omega
    · simp only [noteOk]; omega
  · exact h

theorem upI_bd {n d : Int} (hn : 0 ≤ n) (hd : 0 < d) : 0 ≤ upI n d ∧ upI n d ≤ n := by
  unfold upI
  have h1 := Int.emod_add_mul_ediv n d
  have h2 := Int.emod_nonneg n (by omega : d ≠ 0)
  have h3 : 0 ≤ n / d := Int.ediv_nonneg hn (by omega)
  have h4 : n / d ≤ d * (n / d) := by
    have := Int.mul_le_mul_of_nonneg_right (show 1 ≤ d by omega) h3
    omega
  split <;> omega

theorem upI_one (n : Int) : upI n 1 = n := by unfold upI; simp

theorem fade_ok {p : Int} {v : Int × Int × Int} (h : noteOk v) (hp : 0 < p) : noteOk (fade p v) := by
  simp only [noteOk, fade] at *
  have h1 := upI_bd h.1 hp
  have h2 := upI_bd (show 0 ≤ v.2.2 + 1 - v.2.1 by omega) hp
  omega

theorem Good.old {L : Notes} (h : Good L) (p : Int) : Good (oldL L p) := by
  unfold oldL
  split
  · exact h
  · rename_i hp
    refine ⟨?_, fun e he => ?_⟩
    · rw [List.pairwise_filterMap]
      refine h.once.imp ?_
      intro a b hab x hx y hy
      simp only [older1] at hx hy
      split at hx
      · cases hx
      · split at hy
        · cases hy
        · cases hx; cases hy; exact hab
    · obtain ⟨a, ha, hx⟩ := List.mem_filterMap.1 he
      simp only [older1] at hx
      split at hx
      · cases hx
      · cases hx
        exact ⟨(h.ok a ha).1, fade_ok (h.ok a ha).2 (by omega)⟩

end Go.Proofs.Ytdobpicamibgpaa
