/-
  A mind half-way through Older: each note is as it was where its way is still to come, else faded.
-/
import Derived.Test.YtdobpicamibgpaaWayk
namespace Go.Proofs.Ytdobpicamibgpaa
open Go.RowKit Go.Maps
set_option linter.unusedVariables false
set_option linter.unusedSimpArgs false

def mid1 (p : Int) (left : Lit → Bool) (e : (Int × Int) × (Int × Int × Int)) : Option ((Int × Int) × (Int × Int × Int)) := if left (wayL e.1.1 e.1.2) then some e else older1 p e
def midL (L : Notes) (p : Int) (left : Lit → Bool) : Notes := L.filterMap (mid1 p left)

theorem fm_congr {α β : Type} {l : List α} {f g : α → Option β} (h : ∀ a ∈ l, f a = g a) : l.filterMap f = l.filterMap g := by
  induction l with
  | nil => rfl
  | cons a l ih =>
    rw [List.filterMap_cons, List.filterMap_cons, h a (by simp), ih fun b hb => h b (by simp [hb])]

theorem mid_start {L : Notes} {p : Int} {left : Lit → Bool} (h : ∀ e ∈ L, left (wayL e.1.1 e.1.2) = true) : midL L p left = L := by
  unfold midL
  induction L with
  | nil => rfl
  | cons e L ih =>
    rw [List.filterMap_cons]
    simp only [mid1]
    rw [if_pos (h e (by simp))]
    simp only
    rw [ih fun a ha => h a (by simp [ha])]

theorem mid_end {L : Notes} {p : Int} {left : Lit → Bool} (hp : 0 < p) (h : ∀ kl, left kl = false) : midL L p left = oldL L p := by
  unfold midL oldL
  rw [if_neg (by omega)]
  refine fm_congr fun e _ => ?_
  unfold mid1
  rw [h]; rfl

theorem sameKey_way {f c f' c' : Int} (hf : isI f) (hc : isI c) (hf' : isI f') (hc' : isI c') : (wayL f c).sameKey (wayL f' c') = decide ((f, c) = (f', c')) := by
  by_cases h : (f, c) = (f', c')
  · rw [decide_eq_true h]
    injection h with h1 h2
    subst h1 h2
    exact WideAt.sameKey_self (lawWay.key (keyOf_way hf hc))
  · rw [decide_eq_false h]
    cases hs : (wayL f c).sameKey (wayL f' c') with
    | false => rfl
    | true =>
      obtain ⟨h1, h2⟩ := way_inj hf hc hf' hc' (WideAt.sameKey_eq hs)
      exact absurd (by rw [h1, h2]) h

section
variable {L : Notes} {p : Int} {left : Lit → Bool} {f c : Int} {v : Int × Int × Int}
/-- A way comes: its note is put faded, and struck if it is gone. -/
theorem mid_step (hok : ∀ e ∈ L, isI e.1.1 ∧ isI e.1.2) (ho : L.Pairwise fun a b => a.1 ≠ b.1) (hf : isI f) (hc : isI c) (hv : look L (f, c) = some v) (hl : left (wayL f c) = true) :
    midL L p (fun z => left z && !z.sameKey (wayL f c)) = if gone (fade p v) then delL (midL L p left) (f, c) else (midL L p left).map (fun e => if e.1 = (f, c) then ((f, c), fade p v) else e) := by
  unfold midL delL
  induction L with
  | nil => simp [look] at hv
  | cons e L ih =>
    have hke := hok e (by simp)
    rw [List.pairwise_cons] at ho
    have hL : ∀ {f' c' : Int}, (∀ a ∈ L, a.1 ≠ (f', c')) → True := fun _ => trivial
    rw [look_cons] at hv
    rw [List.filterMap_cons, List.filterMap_cons]
    by_cases hk : e.1 = (f, c)
    · rw [if_pos hk] at hv
      injection hv with hv
      have hke2 : wayL e.1.1 e.1.2 = wayL f c := by rw [hk]
      have hrest : ∀ a ∈ L, a.1 ≠ (f, c) := fun a ha e2 => ho.1 a ha (by rw [hk, e2])
      have hsame : L.filterMap (mid1 p (fun z => left z && !z.sameKey (wayL f c))) = L.filterMap (mid1 p left) := by
        refine fm_congr fun a ha => ?_
        unfold mid1
        have h1 := hok a (by simp [ha])
        show (if (_ && !Lit.sameKey _ _) = true then _ else _) = _
        rw [sameKey_way h1.1 h1.2 hf hc, decide_eq_false (show ¬ (a.1.1, a.1.2) = (f, c) from hrest a ha)]
        simp
      have hmem : ∀ a ∈ L.filterMap (mid1 p left), a.1 ≠ (f, c) := by
        intro a ha
        obtain ⟨b, hb, hx⟩ := List.mem_filterMap.1 ha
        have := hrest b hb
        unfold mid1 at hx
        split at hx
        · cases hx; exact this
        · unfold older1 at hx
          split at hx
          · cases hx
          · cases hx; exact this
      have h1 : mid1 p (fun z => left z && !z.sameKey (wayL f c)) e = older1 p e := by
        unfold mid1
        show (if (_ && !Lit.sameKey _ _) = true then _ else _) = _
        rw [sameKey_way hke.1 hke.2 hf hc, decide_eq_true (show (e.1.1, e.1.2) = (f, c) from hk)]
        simp
      have h2 : mid1 p left e = some e := by
        unfold mid1
        rw [hke2, hl]; rfl
      rw [h1, h2, hsame]
      simp only [older1]
      rw [hv]
      by_cases hg : gone (fade p v) = true
      · rw [if_pos hg, if_pos hg]
        simp only
        rw [List.filter_cons, if_neg (by simp [hk])]
        exact (List.filter_eq_self.2 fun a ha => by simpa using hmem a ha).symm
      · rw [if_neg hg, if_neg hg]
        simp only
        rw [List.map_cons, if_pos hk, hk]
        congr 1
        exact ((List.map_congr_left (g := id) fun a ha => by rw [if_neg (hmem a ha)]; rfl).trans (List.map_id _)).symm
    · rw [if_neg hk] at hv
      have ih := ih (fun a ha => hok a (by simp [ha])) ho.2 hv
      have h1 : mid1 p (fun z => left z && !z.sameKey (wayL f c)) e = mid1 p left e := by
        unfold mid1
        show (if (_ && !Lit.sameKey _ _) = true then _ else _) = _
        rw [sameKey_way hke.1 hke.2 hf hc, decide_eq_false (show ¬ (e.1.1, e.1.2) = (f, c) from hk)]
        simp
      rw [h1, ih]
      have hm : ∀ a, mid1 p left e = some a → a.1 ≠ (f, c) := by
        intro a ha
        unfold mid1 at ha
        split at ha
        · cases ha; exact hk
        · unfold older1 at ha
          split at ha
          · cases ha
          · cases ha; exact hk
      cases hq : mid1 p left e with
      | none => rfl
      | some a =>
        have := hm a hq
        simp only
        by_cases hg : gone (fade p v) = true
        · rw [if_pos hg, if_pos hg, List.filter_cons, if_pos (by simpa using this)]
        · rw [if_neg hg, if_neg hg, List.map_cons, if_neg this]

theorem look_mid (hok : ∀ e ∈ L, isI e.1.1 ∧ isI e.1.2) (hf : isI f) (hc : isI c) (ho : L.Pairwise fun a b => a.1 ≠ b.1) (hl : left (wayL f c) = true) : look (midL L p left) (f, c) = look L (f, c) := by
  unfold midL
  induction L with
  | nil => rfl
  | cons e L ih =>
    have hke := hok e (by simp)
    rw [List.pairwise_cons] at ho
    have ih := ih (fun a ha => hok a (by simp [ha])) ho.2
    rw [List.filterMap_cons, look_cons]
    by_cases hk : e.1 = (f, c)
    · have h2 : mid1 p left e = some e := by
        unfold mid1
        rw [hk, hl]; rfl
      rw [h2, if_pos hk]
      simp only
      rw [look_cons, if_pos hk]
    · rw [if_neg hk, ← ih]
      cases hq : mid1 p left e with
      | none => rfl
      | some a =>
        have : a.1 ≠ (f, c) := by
          unfold mid1 at hq
          split at hq
          · cases hq; exact hk
          · unfold older1 at hq
            split at hq
            · cases hq
            · cases hq; exact hk
        simp only
        rw [look_cons, if_neg this]
end

end Go.Proofs.Ytdobpicamibgpaa
