/-
  What is noted: notes of unlike channels may come in either order, plain.
-/
import Derived.Test.YtdobpicamibgpaaNote2
namespace Go.Proofs.Ytdobpicamibgpaa
set_option linter.unusedVariables false
set_option linter.unusedSimpArgs false

def filt (o : Int) (L : Notes) : Notes := L.filter fun e => decide (e.1.2 % 2 = o)

theorem look_filt (o : Int) (L : Notes) (k : Int × Int) : look (filt o L) k = if k.2 % 2 = o then look L k else none := by
  unfold filt
  induction L with
  | nil => simp [look]
  | cons e L ih =>
    rw [List.filter_cons]
    by_cases he : e.1.2 % 2 = o
    · rw [if_pos (by simpa using he), look_cons, look_cons, ih]
      by_cases hk : e.1 = k
      · rw [if_pos hk, if_pos hk, if_pos (by rw [← hk]; exact he)]
      · rw [if_neg hk, if_neg hk]
    · rw [if_neg (by simpa using he), ih, look_cons]
      by_cases hk : e.1 = k
      · rw [if_neg (by rw [← hk]; exact he), if_neg (by rw [← hk]; exact he)]
      · rw [if_neg hk]

theorem filt_put (o : Int) (L : Notes) (k : Int × Int) (v : Int × Int × Int) : filt o (putL L k v) = if k.2 % 2 = o then putL (filt o L) k v else filt o L := by
  unfold putL
  rw [look_filt]
  by_cases hk : k.2 % 2 = o
  · rw [if_pos hk, if_pos hk]
    by_cases hl : (look L k).isSome = true
    · rw [if_pos hl, if_pos hl]
      unfold filt
      rw [List.filter_map]
      congr 1
      refine List.filter_congr fun e _ => ?_
      have he : (if e.1 = k then (k, v) else e).1 = e.1 := by
        split
        · rename_i h; exact h.symm
        · rfl
      simp only [Function.comp, he]
    · rw [if_neg hl, if_neg hl]
      unfold filt
      rw [List.filter_append]
      congr 1
      simp [hk]
  · rw [if_neg hk]
    by_cases hl : (look L k).isSome = true
    · rw [if_pos hl]
      unfold filt
      rw [List.filter_map]
      have : L.filter ((fun e : (Int × Int) × (Int × Int × Int) => decide (e.1.2 % 2 = o)) ∘ fun e => if e.1 = k then (k, v) else e) = L.filter fun e => decide (e.1.2 % 2 = o) := by
        refine List.filter_congr fun e _ => ?_
        have he : (if e.1 = k then (k, v) else e).1 = e.1 := by
          split
          · rename_i h; exact h.symm
          · rfl
        simp only [Function.comp, he]
      rw [this]
      refine (List.map_congr_left (g := id) fun e he => ?_).trans (List.map_id _)
      have h2 := (List.mem_filter.1 he).2
      simp only [decide_eq_true_eq] at h2
      rw [if_neg (fun e2 => hk (by rw [← e2]; exact h2))]
      rfl
    · rw [if_neg hl]
      unfold filt
      rw [List.filter_append]
      simp [hk]

theorem cnt_filt {o : Int} (L : Notes) {k : Int × Int} (r : Int) (h : k.2 % 2 = o) : cnt (filt o L) k r = cnt L k r := by
  rw [cnt_eq, cnt_eq, look_filt, if_pos h]

def isAct (a : Ac) : Bool := decide (1 ≤ a.d) && decide (a.d ≤ 3)
def doA (L : Notes) (a : Ac) : Notes := if isAct a then doL L a else L
def doO (o : Int) (L : Notes) (a : Ac) : Notes := if isAct a && decide (a.e.c % 2 = o) then doL L a else L

theorem filt_do (o : Int) (L : Notes) (a : Ac) (ha : isAct a = true) : filt o (doL L a) = if a.e.c % 2 = o then doL (filt o L) a else filt o L := by
  simp only [isAct, Bool.and_eq_true, decide_eq_true_eq] at ha
  by_cases hc : a.e.c % 2 = o
  · rw [if_pos hc]
    have h1 : cnt (filt o L) (a.e.f, a.e.c) a.e.r = cnt L (a.e.f, a.e.c) a.e.r := cnt_filt L _ hc
    have h2 : cnt (filt o L) (a.e.t, a.e.c) a.e.r = cnt L (a.e.t, a.e.c) a.e.r := cnt_filt L _ hc
    unfold doL
    split
    · unfold failL; rw [h1]; split
      · rw [filt_put, if_pos hc]
      · rfl
    · split
      · unfold passL; rw [h1]; split
        · rw [filt_put, if_pos hc]
        · rfl
      · split
        · unfold moveL; rw [h1, h2]; split
          · rw [filt_put, if_pos hc, filt_put, if_pos hc]
          · rfl
        · omega
  · rw [if_neg hc]
    unfold doL
    split
    · unfold failL; split
      · rw [filt_put, if_neg hc]
      · rfl
    · split
      · unfold passL; split
        · rw [filt_put, if_neg hc]
        · rfl
      · split
        · unfold moveL; split
          · rw [filt_put, if_neg hc, filt_put, if_neg hc]
          · rfl
        · omega

theorem filt_foldA (o : Int) (l : List Ac) (L : Notes) : filt o (l.foldl doA L) = l.foldl (doO o) (filt o L) := by
  induction l generalizing L with
  | nil => rfl
  | cons a l ih =>
    rw [List.foldl_cons, List.foldl_cons, ih]
    congr 1
    unfold doA doO
    by_cases ha : isAct a = true
    · rw [if_pos ha, filt_do o L a ha]
      by_cases hc : a.e.c % 2 = o
      · rw [if_pos hc, if_pos (by simp [ha, hc])]
      · rw [if_neg hc, if_neg (by simp [hc])]
    · rw [if_neg ha, if_neg (by simp [ha])]

theorem filt_foldO (o p : Int) (l : List Ac) (L : Notes) : filt o (l.foldl (doO p) L) = if o = p then l.foldl (doO o) (filt o L) else filt o L := by
  induction l generalizing L with
  | nil => split <;> rfl
  | cons a l ih =>
    rw [List.foldl_cons, ih]
    by_cases ho : o = p
    · subst ho
      rw [if_pos rfl, if_pos rfl, List.foldl_cons]
      congr 1
      unfold doO
      by_cases ha : (isAct a && decide (a.e.c % 2 = o)) = true
      · rw [if_pos ha, if_pos ha]
        simp only [Bool.and_eq_true, decide_eq_true_eq] at ha
        rw [filt_do o L a ha.1, if_pos ha.2]
      · rw [if_neg ha, if_neg ha]
    · rw [if_neg ho, if_neg ho]
      unfold doO
      by_cases ha : (isAct a && decide (a.e.c % 2 = p)) = true
      · rw [if_pos ha]
        simp only [Bool.and_eq_true, decide_eq_true_eq] at ha
        rw [filt_do o L a ha.1, if_neg (by omega)]
      · rw [if_neg ha]

theorem apart_filt (o : Int) (ho : o = 0 ∨ o = 1) (l : List Ac) : filt o (l.foldl doA []) = filt o (l.foldl (doO 1) (l.foldl (doO 0) [])) := by
  rw [filt_foldA, filt_foldO, filt_foldO]
  rcases ho with rfl | rfl
  · rw [if_neg (by decide), if_pos rfl]
  · rw [if_pos rfl, if_neg (by decide)]

theorem apart_cnt (l : List Ac) (k : Int × Int) (r : Int) : cnt (l.foldl doA []) k r = cnt (l.foldl (doO 1) (l.foldl (doO 0) [])) k r := by
  have h : k.2 % 2 = 0 ∨ k.2 % 2 = 1 := by omega
  rw [← cnt_filt (o := k.2 % 2) _ r rfl, apart_filt _ h, cnt_filt _ r rfl]

theorem filt_len (L : Notes) : L.length = (filt 0 L).length + (filt 1 L).length := by
  unfold filt
  induction L with
  | nil => rfl
  | cons e L ih =>
    rw [List.filter_cons, List.filter_cons, List.length_cons, ih]
    have h : e.1.2 % 2 = 0 ∨ e.1.2 % 2 = 1 := by omega
    rcases h with h | h
    · rw [if_pos (by simpa using h), if_neg (by simp; omega), List.length_cons]; omega
    · rw [if_neg (by simp; omega), if_pos (by simpa using h), List.length_cons]; omega

theorem apart_len (l : List Ac) : (l.foldl doA []).length = (l.foldl (doO 1) (l.foldl (doO 0) [])).length := by
  rw [filt_len, apart_filt 0 (.inl rfl), apart_filt 1 (.inr rfl), ← filt_len]

theorem Good.foldA {L : Notes} (h : Good L) (l : List Ac) : Good (l.foldl doA L) := by
  induction l generalizing L with
  | nil => exact h
  | cons a l ih => exact ih (by unfold doA; split; exact h.do_ a; exact h)
theorem Good.foldO {L : Notes} (h : Good L) (o : Int) (l : List Ac) : Good (l.foldl (doO o) L) := by
  induction l generalizing L with
  | nil => exact h
  | cons a l ih => exact ih (by unfold doO; split; exact h.do_ a; exact h)

end Go.Proofs.Ytdobpicamibgpaa
