/-
  Steps of a world, a race, and what follows within bounds, in plain numbers.
-/
namespace Go.Proofs.Ytolapebihnipdaa

/-- A step of a world: blocks taken, blocks that come, whether the party wakes. -/
structure St where
  take : Int
  keeps : List Bool
  awake : Bool

def rightB (j b n : Int) : Bool := decide (0 ≤ j ∧ j ≤ 1000 ∧ 0 ≤ b ∧ b ≤ 1000 ∧ 1 ≤ n ∧ n ≤ 1000)
def reach (j b n : Int) : Int := if rightB j b n then n + j + b + 1 else 0
def span (j b n : Int) : Int := if rightB j b n then n + j + b + 13 else 0
def least (j b n : Int) : Int := if rightB j b n then n + j + b + 14 else 0
def heightB (x : Int) : Bool := decide (0 ≤ x ∧ x ≤ 1048576)
def publish (x y j b n : Int) : Int := if heightB x && heightB y && rightB j b n then x - y - 2 * (n + j + b + 13) else 0
def delta (x y j b n : Int) : Int := if heightB x && heightB y && rightB j b n then x + y + 4 * (n + j + b + 13) else 0

/-- Blocks come, one for each of the list. -/
def blocks (opn : Int) (known : Bool) : List Bool → Int → Int → Int × Int
  | [], t, a => (t, a)
  | k :: r, t, a => blocks opn known r (t + 1) (if a = 0 ∧ known = true ∧ k = false ∧ opn ≤ t + 1 then t + 1 else a)

/-- Where the tip is, and the transaction, behind all steps. -/
def race (height opn : Int) : List St → Int → Int → Bool → Int × Int
  | [], tip, at_, _ => (tip, at_)
  | x :: r, tip, at_, known =>
    if x.take < 0 ∨ tip - height < x.take then (0, 0) else
    race height opn r (blocks opn known x.keeps (tip - x.take) (if tip - x.take < at_ then 0 else at_)).1
      (blocks opn known x.keeps (tip - x.take) (if tip - x.take < at_ then 0 else at_)).2
      (known || (x.awake && decide (opn ≤ (blocks opn known x.keeps (tip - x.take) (if tip - x.take < at_ then 0 else at_)).1 + 1)))

def raceAll (height opn : Int) (l : List St) : Int × Int :=
  if height < 0 ∨ 2097152 < height ∨ 2097152 < opn then (0, 0) else race height opn l height 0 (decide (opn ≤ height + 1))

def kept (l : List Bool) : Int := (l.filter id).length

def within (nap kb height : Int) : List St → Int → Int → Int → Bool
  | [], _, _, _ => true
  | x :: r, tip, woke, k =>
    if x.take < 0 ∨ 6 < x.take ∨ tip - x.take < height ∨ (x.keeps.length : Int) ≤ x.take ∨ 100 < (x.keeps.length : Int) then false else
    if nap < tip - x.take + x.keeps.length - woke ∨ kb < k + kept x.keeps then false else
    within nap kb height r (tip - x.take + x.keeps.length) (if x.awake then tip - x.take + x.keeps.length else woke) (k + kept x.keeps)

def withinAll (j b n height : Int) (l : List St) : Bool :=
  rightB j b n && heightB height && decide (l.length ≤ 1000) && within n (j + b) height l height height 0

theorem blocks_tip (opn : Int) (known : Bool) (l : List Bool) : ∀ t a, (blocks opn known l t a).1 = t + l.length := by
  induction l with
  | nil => intro t a; simp [blocks]
  | cons k r ih => intro t a; simp only [blocks, ih, List.length_cons]; omega

/-- How far the blocks that lack it reach above a height. -/
def lack (t a : Int) : Int := if 0 < a then a - 1 else t

theorem kept_cons (k : Bool) (r : List Bool) : kept (k :: r) = (if k = true then 1 else 0) + kept r := by
  cases k <;> simp [kept] <;> omega
theorem kept_nonneg (l : List Bool) : 0 ≤ kept l := by unfold kept; omega

theorem blocks_at (opn : Int) (known : Bool) (l : List Bool) : ∀ t a, 0 ≤ t → (a = 0 ∨ (opn ≤ a ∧ a ≤ t ∧ 0 < a)) →
    ((blocks opn known l t a).2 = a ∨ (a = 0 ∧ known = true ∧ opn ≤ (blocks opn known l t a).2 ∧ t < (blocks opn known l t a).2 ∧ (blocks opn known l t a).2 ≤ t + l.length)) ∧
    (known = true → ∀ m : Int, opn - 1 ≤ m → lack (t + l.length) (blocks opn known l t a).2 - m ≤ (max (lack t a - m) 0) + kept l) := by
  induction l with
  | nil =>
    intro t a ht ha
    refine ⟨Or.inl rfl, fun _ m _ => ?_⟩
    simp [blocks, kept]; omega
  | cons k r ih =>
    intro t a ht ha
    simp only [blocks, List.length_cons, kept_cons]
    have hk := kept_nonneg r
    by_cases hc : a = 0 ∧ known = true ∧ k = false ∧ opn ≤ t + 1
    · obtain ⟨ha0, hkn, hkf, hop⟩ := hc
      subst ha0
      rw [if_pos ⟨rfl, hkn, hkf, hop⟩]
      obtain ⟨h1, h2⟩ := ih (t + 1) (t + 1) (by omega) (by omega)
      have h1' : (blocks opn known r (t + 1) (t + 1)).2 = t + 1 := by
        rcases h1 with h1 | h1
        · exact h1
        · omega
      refine ⟨Or.inr ⟨rfl, hkn, by omega, by omega, by omega⟩, fun hk' m hm => ?_⟩
      have h3 := h2 hk' m hm
      rw [h1'] at h3 ⊢
      simp only [hkf, lack] at *
      rw [if_pos (by omega)] at h3 ⊢
      simp
      omega
    · rw [if_neg hc]
      obtain ⟨h1, h2⟩ := ih (t + 1) a (by omega) (by omega)
      refine ⟨?_, fun hk' m hm => ?_⟩
      · rcases h1 with h1 | h1
        · exact Or.inl h1
        · exact Or.inr ⟨h1.1, h1.2.1, h1.2.2.1, by omega, by omega⟩
      · have h3 := h2 hk' m hm
        rw [show t + ((r.length + 1 : Nat) : Int) = t + 1 + (r.length : Int) by omega]
        have : max (lack (t + 1) a - m) 0 ≤ max (lack t a - m) 0 + (if k = true then 1 else 0) := by
          unfold lack
          rcases ha with ha | ha
          · subst ha
            simp
            by_cases hkt : k = true
            · rw [if_pos hkt]; omega
            · rw [if_neg hkt]
              have : ¬ opn ≤ t + 1 := fun h => hc ⟨rfl, hk', by simpa using hkt, h⟩
              omega
          · rw [if_pos (by omega)]; split <;> omega
        omega

/-- What holds of a state within bounds, from height on. -/
structure Inv (nap kb height opn tip at_ : Int) (known : Bool) (woke k : Int) : Prop where
  lo : height ≤ tip
  at' : at_ = 0 ∨ (opn ≤ at_ ∧ at_ ≤ tip ∧ height < at_)
  un : known = false → woke + 1 < opn ∧ at_ = 0
  rise : tip ≤ woke + nap
  k0 : 0 ≤ k
  kb' : k ≤ kb
  lk : lack tip at_ - (opn + nap - 1) ≤ k

theorem race_end (nap kb height opn : Int) (h0 : 0 ≤ height) (hn : 1 ≤ nap) (ho : height ≤ opn) (l : List St) :
    ∀ tip at_ known woke k, Inv nap kb height opn tip at_ known woke k → within nap kb height l tip woke k = true →
      ∃ known' woke' k', Inv nap kb height opn (race height opn l tip at_ known).1 (race height opn l tip at_ known).2 known' woke' k' := by
  induction l with
  | nil => intro tip at_ known woke k hI _; exact ⟨known, woke, k, hI⟩
  | cons x r ih =>
    intro tip at_ known woke k hI hw
    obtain ⟨lo, at', un, rise, k0, kb', lk⟩ := hI
    simp only [within] at hw
    split at hw
    · cases hw
    rename_i hbad
    split at hw
    · cases hw
    rename_i hbad2
    simp only [race]
    rw [if_neg (by omega)]
    have htip := blocks_tip opn known x.keeps (tip - x.take) (if tip - x.take < at_ then 0 else at_)
    generalize ha1 : (if tip - x.take < at_ then 0 else at_) = a1 at *
    have ha1' : a1 = 0 ∨ (opn ≤ a1 ∧ a1 ≤ tip - x.take ∧ height < a1) := by
      split at ha1 <;> omega
    obtain ⟨h1, h2⟩ := blocks_at opn known x.keeps (tip - x.take) a1 (by omega) (by omega)
    have hkk := kept_nonneg x.keeps
    rw [htip]
    generalize hB : (blocks opn known x.keeps (tip - x.take) a1).2 = A at *
    refine ih _ _ _ _ _ ?_ hw
    have hun' : known = false → A = 0 := by
      intro hf
      have := (un hf).2
      rcases h1 with h1 | h1
      · rw [h1]; split at ha1 <;> omega
      · rw [hf] at h1; exact absurd h1.2.1 (by simp)
    refine ⟨by omega, ?_, ?_, ?_, by omega, by omega, ?_⟩
    · rcases h1 with h1 | h1
      · rw [h1]; omega
      · right; omega
    · intro hf
      simp only [Bool.or_eq_false_iff] at hf
      obtain ⟨hf1, hf2⟩ := hf
      refine ⟨?_, hun' hf1⟩
      have := un hf1
      cases hx : x.awake with
      | false => simp; omega
      | true => rw [hx] at hf2; simp at hf2; simp; omega
    · split <;> omega
    · cases hkn : known with
      | false =>
        have := un hkn
        have h3 := hun' hkn
        rw [h3]; simp [lack]; omega
      | true =>
        have h3 := h2 hkn (opn + nap - 1) (by omega)
        have h4 : max (lack (tip - x.take) a1 - (opn + nap - 1)) 0 ≤ k := by
          have : lack (tip - x.take) a1 ≤ lack tip at_ := by
            unfold lack at *
            split at ha1 <;> (split <;> split <;> omega)
          omega
        omega

theorem reaches (j b n height opn : Int) (l : List St) (hw : withinAll j b n height l = true) (h1 : height ≤ opn) (h2 : opn ≤ 1048576) :
    ((raceAll height opn l).2 = 0 ∨ (opn ≤ (raceAll height opn l).2 ∧ (raceAll height opn l).2 ≤ (raceAll height opn l).1 ∧ height < (raceAll height opn l).2)) ∧
    (opn + reach j b n ≤ (raceAll height opn l).1 → 0 < (raceAll height opn l).2 ∧ (raceAll height opn l).2 < opn + reach j b n) := by
  simp only [withinAll, Bool.and_eq_true, decide_eq_true_eq] at hw
  obtain ⟨⟨⟨hr, hh⟩, hl⟩, hw⟩ := hw
  have hr' := hr
  simp only [rightB, heightB, decide_eq_true_eq] at hr' hh
  unfold raceAll reach
  rw [if_neg (by omega), if_pos hr]
  obtain ⟨kn, wk, k, hI⟩ := race_end n (j + b) height opn (by omega) (by omega) h1 l height 0 (decide (opn ≤ height + 1)) height 0
    ⟨by omega, Or.inl rfl, fun hf => by simp at hf; omega, by omega, by omega, by omega, by simp [lack]; omega⟩ hw
  obtain ⟨lo, at', un, rise, k0, kb', lk⟩ := hI
  refine ⟨at', fun ht => ?_⟩
  unfold lack at lk
  split at lk
  · omega
  · omega

end Go.Proofs.Ytolapebihnipdaa
