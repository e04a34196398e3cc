/-
  Digits in base 2^32 as lists of numbers: plain, no program in sight.
-/
import Derived.PlainAid
namespace Go.Proofs.YthkgeafidbihmaaGreatDoor

/-- What digits are worth, the low ones first. -/
def val : List Nat → Nat
  | [] => 0
  | d :: ds => d + 4294967296 * val ds

/-- Each is a digit. -/
def Dig (l : List Nat) : Prop := ∀ d ∈ l, d < 4294967296

/-- No nought on top. -/
def rightB (l : List Nat) : Bool := l.isEmpty || l.getD (l.length - 1) 0 != 0

/-- A number's digits. -/
def digs (n : Nat) : List Nat := if n = 0 then [] else (n % 4294967296) :: digs (n / 4294967296)
termination_by n
decreasing_by omega

theorem digs_zero : digs 0 = [] := by rw [digs]; rfl
theorem digs_pos {n : Nat} (h : n ≠ 0) : digs n = (n % 4294967296) :: digs (n / 4294967296) := by rw [digs, if_neg h]
theorem digs_nil_iff {n : Nat} : digs n = [] ↔ n = 0 := by
  constructor
  · intro h
    rcases Nat.eq_zero_or_pos n with h0 | h0
    · exact h0
    · rw [digs_pos (by omega)] at h; cases h
  · rintro rfl; exact digs_zero

theorem val_digs (n : Nat) : val (digs n) = n := by
  induction n using Nat.strongRecOn with
  | _ n ih =>
    rcases Nat.eq_zero_or_pos n with h0 | h0
    · subst h0; rw [digs_zero]; rfl
    · rw [digs_pos (by omega), val, ih _ (by omega)]; omega

theorem dig_digs (n : Nat) : Dig (digs n) := by
  induction n using Nat.strongRecOn with
  | _ n ih =>
    rcases Nat.eq_zero_or_pos n with h0 | h0
    · subst h0; rw [digs_zero]; intro d hd; cases hd
    · rw [digs_pos (by omega)]
      intro d hd
      rcases List.mem_cons.1 hd with rfl | hd
      · omega
      · exact ih _ (by omega) d hd

theorem Dig.tail {d : Nat} {l : List Nat} (h : Dig (d :: l)) : Dig l := fun x hx => h x (List.mem_cons_of_mem _ hx)
theorem Dig.head {d : Nat} {l : List Nat} (h : Dig (d :: l)) : d < 4294967296 := h d (List.mem_cons_self ..)
theorem Dig.take {l : List Nat} (h : Dig l) (k : Nat) : Dig (l.take k) := fun x hx => h x (List.mem_of_mem_take hx)
theorem Dig.append {l m : List Nat} (h : Dig l) (k : Dig m) : Dig (l ++ m) := fun x hx => (List.mem_append.1 hx).elim (h x) (k x)
theorem Dig.nil : Dig [] := fun _ h => by cases h
theorem Dig.cons {d : Nat} {l : List Nat} (h : d < 4294967296) (k : Dig l) : Dig (d :: l) := fun x hx => (List.mem_cons.1 hx).elim (fun e => e ▸ h) (k x)
theorem Dig.getD {l : List Nat} (h : Dig l) (i : Nat) : l.getD i 0 < 4294967296 := by
  rw [List.getD_eq_getElem?_getD]
  rcases hg : l[i]? with _ | d
  · simp
  · simp; exact h d (List.mem_of_getElem? hg)

theorem getD_zero_of_ge {l : List Nat} {i : Nat} (h : l.length ≤ i) : l.getD i 0 = 0 := by
  rw [List.getD_eq_getElem?_getD, List.getElem?_eq_none h]; rfl

theorem rightB_cons {d : Nat} {l : List Nat} (hl : l ≠ []) : rightB (d :: l) = rightB l := by
  cases l with
  | nil => exact absurd rfl hl
  | cons e l => simp [rightB]

theorem rightB_digs (n : Nat) : rightB (digs n) = true := by
  induction n using Nat.strongRecOn with
  | _ n ih =>
    rcases Nat.eq_zero_or_pos n with h0 | h0
    · subst h0; rw [digs_zero]; rfl
    · rw [digs_pos (by omega)]
      by_cases hq : n / 4294967296 = 0
      · rw [hq, digs_zero]
        have : n % 4294967296 ≠ 0 := by omega
        simp [rightB, this]
      · rw [rightB_cons (fun h => hq (digs_nil_iff.1 h))]
        exact ih _ (by omega)

theorem val_eq_zero {l : List Nat} (h : val l = 0) (hr : rightB l = true) : l = [] := by
  induction l with
  | nil => rfl
  | cons d l ih =>
    simp only [val] at h
    have hl : l = [] := by
      cases l with
      | nil => rfl
      | cons e l =>
        rw [rightB_cons (by simp)] at hr
        exact ih (by omega) hr
    subst hl
    simp [rightB] at hr
    simp [val] at h
    omega

/-- Digits without a nought on top are their number's. -/
theorem digs_val {l : List Nat} (hd : Dig l) (hr : rightB l = true) : digs (val l) = l := by
  induction l with
  | nil => exact digs_zero
  | cons d l ih =>
    have h1 := hd.head
    have hl : rightB l = true := by
      cases l with
      | nil => rfl
      | cons e l => rwa [rightB_cons (by simp)] at hr
    have h0 : val (d :: l) ≠ 0 := fun h => by have := val_eq_zero h hr; cases this
    rw [digs_pos h0]
    simp only [val]
    rw [show (d + 4294967296 * val l) % 4294967296 = d by omega, show (d + 4294967296 * val l) / 4294967296 = val l by omega, ih hd.tail hl]

theorem val_inj {a b : List Nat} (ha : Dig a) (hb : Dig b) (ra : rightB a = true) (rb : rightB b = true) (h : val a = val b) : a = b := by
  rw [← digs_val ha ra, ← digs_val hb rb, h]

theorem digs_inj {m n : Nat} (h : digs m = digs n) : m = n := by rw [← val_digs m, ← val_digs n, h]

theorem val_append (a b : List Nat) : val (a ++ b) = val a + 4294967296 ^ a.length * val b := by
  induction a with
  | nil => simp [val]
  | cons d a ih => simp only [List.cons_append, val, ih, List.length_cons, Nat.pow_succ]; grind

theorem val_snoc (a : List Nat) (d : Nat) : val (a ++ [d]) = val a + 4294967296 ^ a.length * d := by
  rw [val_append]; simp [val]

theorem val_zeros (n : Nat) : val (List.replicate n 0) = 0 := by
  induction n with
  | zero => rfl
  | succ n ih => rw [List.replicate_succ, val, ih]

theorem val_lt {l : List Nat} (hd : Dig l) : val l < 4294967296 ^ l.length := by
  induction l with
  | nil => simp [val]
  | cons d l ih =>
    have h1 := hd.head
    have h2 := ih hd.tail
    simp only [val, List.length_cons, Nat.pow_succ]
    omega

theorem pow_pos' (k : Nat) : 0 < 4294967296 ^ k := Nat.pow_pos (by decide)

theorem val_ge {l : List Nat} (hr : rightB l = true) (hl : l ≠ []) : 4294967296 ^ (l.length - 1) ≤ val l := by
  induction l with
  | nil => exact absurd rfl hl
  | cons d l ih =>
    cases l with
    | nil => simp [rightB] at hr; simp [val]; omega
    | cons e l =>
      rw [rightB_cons (by simp)] at hr
      have := ih hr (by simp)
      simp only [List.length_cons, Nat.add_sub_cancel] at this ⊢
      rw [Nat.pow_succ, val]
      omega

/-- Fewer digits: less. -/
theorem val_lt_of_len {a b : List Nat} (ha : Dig a) (rb : rightB b = true) (h : a.length < b.length) : val a < val b := by
  have h1 := val_lt ha
  have h2 := val_ge rb (by intro e; subst e; simp at h)
  have h3 : 4294967296 ^ a.length ≤ 4294967296 ^ (b.length - 1) := Nat.pow_le_pow_right (by decide) (by omega)
  omega

theorem take_succ_getD {l : List Nat} {k : Nat} (h : k < l.length) : l.take (k + 1) = l.take k ++ [l.getD k 0] := by
  rw [List.take_succ_eq_append_getElem h]
  congr 2
  rw [List.getD_eq_getElem?_getD, List.getElem?_eq_getElem h]; rfl

theorem val_take_succ {l : List Nat} (k : Nat) : val (l.take (k + 1)) = val (l.take k) + 4294967296 ^ k * l.getD k 0 := by
  by_cases h : k < l.length
  · rw [take_succ_getD h, val_snoc, List.length_take_of_le (by omega)]
  · rw [List.take_of_length_le (by omega), List.take_of_length_le (by omega), getD_zero_of_ge (by omega)]; simp

theorem val_split (l : List Nat) (k : Nat) : val l = val (l.take k) + 4294967296 ^ k * val (l.drop k) := by
  by_cases h : k ≤ l.length
  · have := val_append (l.take k) (l.drop k)
    rw [List.take_append_drop, List.length_take_of_le h] at this
    exact this
  · rw [List.take_of_length_le (by omega), List.drop_eq_nil_of_le (by omega)]; simp [val]

/-- The digit at a place decides where all above are alike. -/
theorem val_lt_of_top {a b : List Nat} (ha : Dig a) (k : Nat) (hd : a.drop (k + 1) = b.drop (k + 1)) (h : a.getD k 0 < b.getD k 0) : val a < val b := by
  rw [val_split a (k + 1), val_split b (k + 1), hd, val_take_succ, val_take_succ]
  have h1 : val (a.take k) < 4294967296 ^ k := by
    have := val_lt (ha.take k)
    have h2 : 4294967296 ^ (a.take k).length ≤ 4294967296 ^ k := Nat.pow_le_pow_right (by decide) (by rw [List.length_take]; omega)
    omega
  have h2 : 4294967296 ^ k * (a.getD k 0 + 1) ≤ 4294967296 ^ k * b.getD k 0 := Nat.mul_le_mul_left _ h
  rw [Nat.mul_add] at h2
  omega

/-- What is cut off on top is noughts. -/
theorem val_take_zeros {l : List Nat} {k : Nat} (h : ∀ i, k ≤ i → l.getD i 0 = 0) : val (l.take k) = val l := by
  rw [val_split l k]
  have : val (l.drop k) = 0 := by
    have h' : ∀ i, (l.drop k).getD i 0 = 0 := fun i => by
      have := h (k + i) (by omega)
      simpa [List.getD_eq_getElem?_getD, List.getElem?_drop] using this
    generalize l.drop k = m at h'
    clear h
    induction m with
    | nil => rfl
    | cons d m ih =>
      have h0 := h' 0
      simp at h0
      subst h0
      rw [val, ih (fun i => by have := h' (i + 1); simpa using this)]
  rw [this]; simp

theorem take_digs {l : List Nat} {k : Nat} (hd : Dig l) (hk : k ≤ l.length) (h : ∀ i, k ≤ i → l.getD i 0 = 0) (hr : k = 0 ∨ l.getD (k - 1) 0 ≠ 0) : l.take k = digs (val l) := by
  rw [← val_take_zeros h]
  refine (digs_val (hd.take k) ?_).symm
  rcases hr with rfl | hr
  · simp [rightB]
  · have hl : (l.take k).length = k := List.length_take_of_le hk
    unfold rightB
    rw [hl, List.getD_eq_getElem?_getD, List.getElem?_take]
    have h0 : 0 < k := by
      rcases Nat.eq_zero_or_pos k with h0 | h0
      · subst h0
        exact absurd (h 0 (by omega)) (by simpa using hr)
      · exact h0
    rw [if_pos (by omega)]
    rw [List.getD_eq_getElem?_getD] at hr
    simp [hr]

/-- What counts of digits: none, if they are not right. -/
def tk (l : List Nat) : List Nat := if rightB l then l else []
def tv (l : List Nat) : Nat := val (tk l)

theorem tk_dig {l : List Nat} (h : Dig l) : Dig (tk l) := by unfold tk; split; exact h; exact Dig.nil
theorem tk_right (l : List Nat) : rightB (tk l) = true := by unfold tk; split; assumption; rfl
theorem tk_eq {l : List Nat} (h : Dig l) : tk l = digs (tv l) := (digs_val (tk_dig h) (tk_right l)).symm
theorem tk_digs (n : Nat) : tk (digs n) = digs n := by unfold tk; rw [if_pos (rightB_digs n)]
theorem tv_digs (n : Nat) : tv (digs n) = n := by unfold tv; rw [tk_digs, val_digs]
theorem tv_right {l : List Nat} (h : rightB l = true) : tv l = val l := by unfold tv tk; rw [if_pos h]
theorem tk_len (l : List Nat) : (tk l).length ≤ l.length := by unfold tk; split <;> simp

theorem digs_len_le {n k : Nat} (h : n < 4294967296 ^ k) : (digs n).length ≤ k := by
  rcases Nat.eq_zero_or_pos (digs n).length with h0 | h0
  · omega
  · have h1 := val_ge (rightB_digs n) (by intro e; rw [e] at h0; simp at h0)
    rw [val_digs] at h1
    have h2 : 4294967296 ^ ((digs n).length - 1) < 4294967296 ^ k := by omega
    have := (Nat.pow_lt_pow_iff_right (by decide : 1 < 4294967296)).1 h2
    omega

theorem lt_of_digs_len (n : Nat) : n < 4294967296 ^ (digs n).length := by
  have := val_lt (dig_digs n)
  rwa [val_digs] at this

theorem digs_mul_len {Y d n : Nat} (h : (digs Y).length = n) (hn : n ≤ 65536) (hd : d < 4294967296) : (digs (Y * d)).length ≤ 1048576 := by
  have h1 := lt_of_digs_len Y
  rw [h] at h1
  have h2 : Y * d < 4294967296 ^ (n + 1) := by
    rw [Nat.pow_succ]
    rcases Nat.eq_zero_or_pos d with h0 | h0
    · subst h0; simp; exact Nat.pow_pos (by decide)
    · exact Nat.lt_of_lt_of_le ((Nat.mul_lt_mul_right h0).2 h1) (Nat.mul_le_mul_left _ (by omega))
  have := digs_len_le h2
  omega

/-- Numbers by their digits: fewer digits, or the same number of them and less at the highest place that differs. -/
theorem digs_len_lt {m n : Nat} (h : (digs m).length < (digs n).length) : m < n := by
  have := val_lt_of_len (dig_digs m) (rightB_digs n) h
  rwa [val_digs, val_digs] at this

theorem digs_len_mono {m n : Nat} (h : m ≤ n) : (digs m).length ≤ (digs n).length := by
  rcases Nat.lt_or_ge (digs n).length (digs m).length with h1 | h1
  · have := digs_len_lt h1; omega
  · exact h1

end Go.Proofs.YthkgeafidbihmaaGreatDoor
