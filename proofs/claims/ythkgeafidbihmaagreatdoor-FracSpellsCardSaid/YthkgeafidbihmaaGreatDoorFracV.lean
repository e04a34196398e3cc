/-
  Fractions as rational numbers: what the contracts say, in their words. Plain law.
-/
import Derived.Test.YthkgeafidbihmaaGreatDoorFracP2
import Derived.Test.YthkgeafidbihmaaGreatDoorFracF
namespace Go.Proofs.YthkgeafidbihmaaGreatDoor
open Go.RowKit Go.Shelf
set_option linter.unusedVariables false
set_option linter.unusedSimpArgs false

/-- What a fraction's lower numbers are. -/
def rn (q : Rat) : Nat := q.num.toNat
def rd (q : Rat) : Nat := q.den
/-- The rational number that two rows of digits mean. -/
def frQ (l k : List Nat) : Rat := mkRat (frN l k : Nat) (frD l k)

theorem low_rn (X Y : Nat) (hY : 0 < Y) : X / Nat.gcd X Y = rn (mkRat X Y) := by
  unfold rn
  rw [Rat.num_mkRat, if_neg (by omega), Nat.gcd_comm]
  simp
  rfl
theorem low_rd (X Y : Nat) (hY : 0 < Y) : Y / Nat.gcd X Y = rd (mkRat X Y) := by
  unfold rd
  rw [Rat.den_mkRat, if_neg (by omega), Nat.gcd_comm]
  simp
theorem q_ge0 (X Y : Nat) : (0 : Rat) ≤ mkRat X Y := by
  rw [← Rat.divInt_ofNat]
  exact Rat.divInt_nonneg (by omega) (by omega)
theorem frQ_ge0 (l k : List Nat) : 0 ≤ frQ l k := q_ge0 _ _
theorem gcd_q {q : Rat} (h : 0 ≤ q) : Nat.gcd (rn q) (rd q) = 1 := by
  have := q.reduced
  have h2 := Rat.num_nonneg.2 h
  unfold Nat.Coprime at this
  unfold rn rd
  rwa [show q.num.natAbs = q.num.toNat by omega] at this
theorem rd_pos (q : Rat) : 0 < rd q := Nat.pos_of_ne_zero q.den_nz
theorem mk_q {q : Rat} (h : 0 ≤ q) : mkRat (rn q : Nat) (rd q) = q := by
  have h2 := Rat.num_nonneg.2 h
  unfold rn rd
  rw [Int.toNat_of_nonneg h2]
  exact Rat.mkRat_self q
theorem q_ext {p q : Rat} (hp : 0 ≤ p) (hq : 0 ≤ q) (h1 : rn p = rn q) (h2 : rd p = rd q) : p = q := by
  rw [← mk_q hp, ← mk_q hq, h1, h2]

theorem digs_len_of' {n : Nat} (h : 0 < n) : 0 < (digs n).length := by
  rw [digs_pos (by omega)]
  simp

theorem frR_q {q : Rat} (h : 0 ≤ q) : frR (digs (rn q)) (digs (rd q)) = true := by
  unfold frR
  rw [rightB_digs, rightB_digs, tv_digs, tv_digs, decide_eq_true (gcd_q h), decide_eq_true (digs_len_of' (rd_pos q))]
  rfl
theorem frN_q {q : Rat} (h : 0 ≤ q) : frN (digs (rn q)) (digs (rd q)) = rn q := by
  unfold frN
  rw [if_pos (frR_q h), tv_digs]
theorem frD_q {q : Rat} (h : 0 ≤ q) : frD (digs (rn q)) (digs (rd q)) = rd q := by
  unfold frD
  rw [if_pos (frR_q h), tv_digs]
theorem frQ_q {q : Rat} (h : 0 ≤ q) : frQ (digs (rn q)) (digs (rd q)) = q := by
  unfold frQ
  rw [frN_q h, frD_q h, mk_q h]

theorem frQ_lists {l k : List Nat} (h : frR l k = true) (hl : Dig l) (hk : Dig k) : digs (rn (frQ l k)) = l ∧ digs (rd (frQ l k)) = k := by
  have hr := h
  unfold frR at hr
  simp only [Bool.and_eq_true, decide_eq_true_eq] at hr
  have hD := frD_pos l k
  have hg : Nat.gcd (frN l k) (frD l k) = 1 := by
    unfold frN frD
    rw [if_pos h, if_pos h]
    exact hr.2.2.2
  unfold frQ
  rw [← low_rn _ _ hD, ← low_rd _ _ hD, hg, Nat.div_one, Nat.div_one]
  unfold frN frD
  rw [if_pos h, if_pos h, tv_right hr.1, tv_right hr.2.1]
  exact ⟨digs_val hl hr.1, digs_val hk hr.2.1⟩

theorem add_q (N1 D1 N2 D2 : Nat) (h1 : 0 < D1) (h2 : 0 < D2) : mkRat ((N1 * D2 + N2 * D1 : Nat) : Int) (D1 * D2) = mkRat N1 D1 + mkRat N2 D2 := by
  rw [Rat.mkRat_add_mkRat _ _ (by omega) (by omega)]
  congr 1
theorem sub_q' (N1 D1 N2 D2 : Nat) (h1 : 0 < D1) (h2 : 0 < D2) : mkRat ((N1 * D2 : Nat) - (N2 * D1 : Nat) : Int) (D1 * D2) = mkRat N1 D1 - mkRat N2 D2 := by
  rw [← Rat.divInt_ofNat, ← Rat.divInt_ofNat, ← Rat.divInt_ofNat, Rat.divInt_sub_divInt _ _ (by omega) (by omega)]
  congr 1
theorem le_q (N1 D1 N2 D2 : Nat) (h1 : 0 < D1) (h2 : 0 < D2) : mkRat N2 D2 ≤ mkRat N1 D1 ↔ N2 * D1 ≤ N1 * D2 := by
  rw [Rat.le_iff_sub_nonneg, ← sub_q' _ _ _ _ h1 h2, ← Rat.divInt_ofNat, Rat.divInt_nonneg_iff_of_pos_right (by have := Nat.mul_pos h1 h2; omega)]
  omega
theorem lt_q (N1 D1 N2 D2 : Nat) (h1 : 0 < D1) (h2 : 0 < D2) : mkRat N1 D1 < mkRat N2 D2 ↔ N1 * D2 < N2 * D1 := by
  rw [← Rat.not_le, le_q _ _ _ _ h1 h2]
  omega
theorem sub_q (N1 D1 N2 D2 : Nat) (h1 : 0 < D1) (h2 : 0 < D2) (h : N2 * D1 ≤ N1 * D2) : mkRat ((N1 * D2 - N2 * D1 : Nat) : Int) (D1 * D2) = mkRat N1 D1 - mkRat N2 D2 := by
  rw [← sub_q' _ _ _ _ h1 h2]
  congr 1
  omega
theorem mul_q (N1 D1 N2 D2 : Nat) : mkRat ((N1 * N2 : Nat) : Int) (D1 * D2) = mkRat N1 D1 * mkRat N2 D2 := by
  rw [Rat.mkRat_mul_mkRat]
  congr 1
theorem quo_q (N1 D1 N2 D2 : Nat) : mkRat ((N1 * D2 : Nat) : Int) (D1 * N2) = mkRat N1 D1 / mkRat N2 D2 := by
  rw [Rat.div_def, ← Rat.divInt_ofNat (num := N2), Rat.inv_divInt, Rat.divInt_ofNat, Rat.mkRat_mul_mkRat]
  congr 1
theorem pow_q (N D : Nat) : ∀ z, mkRat ((N ^ z : Nat) : Int) (D ^ z) = mkRat N D ^ z
  | 0 => by rw [Rat.pow_zero, Nat.pow_zero, Nat.pow_zero]; rfl
  | z + 1 => by rw [Rat.pow_succ, ← pow_q N D z, Rat.mkRat_mul_mkRat, Nat.pow_succ, Nat.pow_succ]; congr 1
theorem floor_q (N D : Nat) (h : 0 < D) : ((N / D : Nat) : Rat) ≤ mkRat N D ∧ mkRat N D < ((N / D : Nat) : Rat) + 1 := by
  have h3 : mkRat N D = ((N : Nat) : Rat) / ((D : Nat) : Rat) := by
    rw [Rat.mkRat_eq_div]; rfl
  have hD : (0 : Rat) < ((D : Nat) : Rat) := Rat.natCast_pos.2 h
  constructor
  · rw [← Rat.not_lt, h3, Rat.div_lt_iff hD, Rat.not_lt, ← Rat.natCast_mul, Rat.natCast_le_natCast]
    exact Nat.div_mul_le_self N D
  · rw [h3, Rat.div_lt_iff hD, show ((N / D : Nat) : Rat) + 1 = ((N / D + 1 : Nat) : Rat) from (by rw [Rat.natCast_add]; rfl), ← Rat.natCast_mul, Rat.natCast_lt_natCast]
    have := Nat.div_add_mod N D
    have := Nat.mod_lt N h
    rw [Nat.add_mul, Nat.mul_comm (N / D) D]
    omega
theorem q_zero (N D : Nat) (h : 0 < D) : mkRat (N : Nat) D = 0 ↔ N = 0 := by
  rw [Rat.mkRat_eq_zero (by omega)]
  omega
theorem q_whole (n : Nat) : mkRat (n : Nat) 1 = (n : Rat) := by
  rw [← mk_q (q := (n : Rat)) Rat.natCast_nonneg]
  rfl
theorem rn_nat (n : Nat) : rn (n : Rat) = n := rfl
theorem rd_nat (n : Nat) : rd (n : Rat) = 1 := rfl
theorem rn_zero : rn 0 = 0 := rfl
theorem rd_zero : rd 0 = 1 := rfl

/-- Which is less. -/
def cmpQ (p q : Rat) : Int := if p < q then -1 else if q < p then 1 else 0
theorem cmpQ_lt {p q : Rat} (h : p < q) : cmpQ p q = -1 := if_pos h
theorem cmpQ_gt {p q : Rat} (h : q < p) : cmpQ p q = 1 := by
  unfold cmpQ
  rw [if_neg (Rat.not_lt.2 (Rat.le_of_lt h)), if_pos h]
theorem cmpQ_eq {p q : Rat} (h : p = q) : cmpQ p q = 0 := by
  unfold cmpQ
  subst h
  rw [if_neg Rat.lt_irrefl, if_neg Rat.lt_irrefl]
theorem cmp_q (N1 D1 N2 D2 : Nat) (h1 : 0 < D1) (h2 : 0 < D2) : cmpI ((N1 * D2 : Nat) : Int) ((N2 * D1 : Nat) : Int) = cmpQ (mkRat N1 D1) (mkRat N2 D2) := by
  rw [cmpI_nat]
  unfold cmpQ
  simp only [lt_q _ _ _ _ h1 h2, lt_q _ _ _ _ h2 h1]

/-- A fraction's rows of digits mean q, and hold few digits. -/
structure FQ (l k : List Nat) (q : Rat) (b : Nat) : Prop where
  val : frQ l k = q
  ll : l.length ≤ b
  lk : k.length ≤ b

section
variable {l k : List Nat} {q : Rat} {b : Nat}
theorem FQ.ge0 (h : FQ l k q b) : 0 ≤ q := by rw [← h.val]; exact frQ_ge0 l k
theorem FQ.mono {b' : Nat} (h : FQ l k q b) (hb : b ≤ b') : FQ l k q b' := ⟨h.val, Nat.le_trans h.ll hb, Nat.le_trans h.lk hb⟩
theorem FQ.self (hl : l.length ≤ b) (hk : k.length ≤ b) : FQ l k (frQ l k) b := ⟨rfl, hl, hk⟩
end

/-- What is known of a rational number's size. -/
structure Qb (q : Rat) (b : Nat) : Prop where
  ge : 0 ≤ q
  n : rn q < 4294967296 ^ b
  d : rd q < 4294967296 ^ b

theorem low_le {X Y : Nat} {b : Nat} (hY : 0 < Y) (hx : X < 4294967296 ^ b) (hy : Y < 4294967296 ^ b) : Qb (mkRat X Y) b := by
  refine ⟨q_ge0 _ _, ?_, ?_⟩
  · rw [← low_rn X Y hY]; exact Nat.lt_of_le_of_lt (Nat.div_le_self _ _) hx
  · rw [← low_rd X Y hY]; exact Nat.lt_of_le_of_lt (Nat.div_le_self _ _) hy

theorem Qb.fq {q : Rat} {b : Nat} (h : Qb q b) : FQ (digs (rn q)) (digs (rd q)) q b :=
  ⟨frQ_q h.ge, digs_len_le h.n, digs_len_le h.d⟩

theorem FQ.bounds {l k : List Nat} {q : Rat} {b : Nat} (h : FQ l k q b) (hl : Dig l) (hk : Dig k) : frN l k < 4294967296 ^ b ∧ frD l k < 4294967296 ^ (b + 1) :=
  ⟨Nat.lt_of_lt_of_le (lt_of_digs_len _) (pow_mono (Nat.le_trans (frN_len hl) h.ll)), Nat.lt_of_lt_of_le (lt_of_digs_len _) (pow_mono (Nat.le_trans (frD_len hk) (Nat.succ_le_succ h.lk)))⟩

/-- A fraction is handed back: q, of at most b digits above and below. -/
def RetQ (w : World) (q : Rat) (b : Nat) (e : Ending) (w' : World) : Prop :=
  ∃ A n c B m d, e = .returned (.agg #[.slice A n c, .slice B m d]) ∧ Rd w' w'.heap.size A n c (digs (rn q)) ∧ Rd w' w'.heap.size B m d (digs (rd q)) ∧ FQ (digs (rn q)) (digs (rd q)) q b ∧ Below w.heap.size w w'
def RetQO (w : World) (ok : Bool) (q : Rat) (b : Nat) (e : Ending) (w' : World) : Prop :=
  ∃ A n c B m d, e = .returned (.tuple #[.agg #[.slice A n c, .slice B m d], .bool ok]) ∧ Rd w' w'.heap.size A n c (digs (rn q)) ∧ Rd w' w'.heap.size B m d (digs (rd q)) ∧ FQ (digs (rn q)) (digs (rd q)) q b ∧ Below w.heap.size w w'

theorem RetFr.q {w w' : World} {X Y b : Nat} {e : Ending} (hY : 0 < Y) (hx : X < 4294967296 ^ b) (hy : Y < 4294967296 ^ b) {q : Rat} (hq : mkRat X Y = q) (h : RetFr w (X / Nat.gcd X Y) (Y / Nat.gcd X Y) e w') : RetQ w q b e w' := by
  obtain ⟨A, n, c, B, m, d, h1, h2, h3, h4⟩ := h
  rw [low_rn X Y hY, hq] at h2
  rw [low_rd X Y hY, hq] at h3
  exact ⟨A, n, c, B, m, d, h1, h2, h3, (hq ▸ low_le hY hx hy).fq, h4⟩

theorem RetFrO.q {w w' : World} {X Y b : Nat} {ok : Bool} {e : Ending} (hY : 0 < Y) (hx : X < 4294967296 ^ b) (hy : Y < 4294967296 ^ b) (hb : 0 < b) {q : Rat} (hq : ok = true → mkRat X Y = q) (hn : ok = false → q = 0) (h : RetFrO w ok X Y e w') : RetQO w ok q b e w' := by
  obtain ⟨A, n, c, B, m, d, h1, h2, h3, h4⟩ := h
  cases ok with
  | true =>
    rw [if_pos rfl, low_rn X Y hY, hq rfl] at h2
    rw [if_pos rfl, low_rd X Y hY, hq rfl] at h3
    exact ⟨A, n, c, B, m, d, h1, h2, h3, (hq rfl ▸ low_le hY hx hy).fq, h4⟩
  | false =>
    rw [if_neg (by decide)] at h2 h3
    rw [hn rfl]
    exact ⟨A, n, c, B, m, d, h1, h2, h3, ⟨frQ_q Rat.le_refl, by rw [rn_zero, digs_zero]; simp, Nat.le_trans (digs_len_le (k := 1) (by decide)) hb⟩, h4⟩

theorem fright_q {w : World} {A1 B1 : Option Addr} {n1 c1 m1 d1 b1 : Nat} {l1 k1 : List Nat} {q1 : Rat} (h1 : Rd w w.heap.size A1 n1 c1 l1) (g1 : Rd w w.heap.size B1 m1 d1 k1) (f1 : FQ l1 k1 q1 b1) (hb1 : b1 ≤ 9000) :
    Calls Tryz.prog 19 #[.agg #[.slice A1 n1 c1, .slice B1 m1 d1]] w fun e w' => e = .returned (.bool (frR l1 k1)) ∧ Below w.heap.size w w' :=
  fright_any _ _ _ _ _ _ _ _ _ h1 g1 (by have := h1.len; have := f1.ll; omega) (by have := g1.len; have := f1.lk; omega)

theorem ffloor_q {w : World} {A1 B1 : Option Addr} {n1 c1 m1 d1 b1 : Nat} {l1 k1 : List Nat} {q1 : Rat} (h1 : Rd w w.heap.size A1 n1 c1 l1) (g1 : Rd w w.heap.size B1 m1 d1 k1) (f1 : FQ l1 k1 q1 b1) (hb1 : b1 ≤ 9000) :
    Calls Tryz.prog 17 #[.agg #[.slice A1 n1 c1, .slice B1 m1 d1]] w (RetN w (frN l1 k1 / frD l1 k1)) :=
  ffloor_any _ _ _ _ _ _ _ _ _ h1 g1 (by have := h1.len; have := f1.ll; omega) (by have := g1.len; have := f1.lk; omega)

theorem fpow_q {w : World} {A1 B1 : Option Addr} {n1 c1 m1 d1 b1 : Nat} {l1 k1 : List Nat} {q1 : Rat} (h1 : Rd w w.heap.size A1 n1 c1 l1) (g1 : Rd w w.heap.size B1 m1 d1 k1) (f1 : FQ l1 k1 q1 b1) (hb1 : b1 ≤ 200) (z : Nat) (hz : z ≤ 64) :
    Calls Tryz.prog 14 #[.agg #[.slice A1 n1 c1, .slice B1 m1 d1], .int .i64 z] w (RetQO w true (q1 ^ z) ((b1 + 1) * z + 1)) := by
  have hB := f1.bounds h1.dig g1.dig
  refine (fpow_any w _ _ _ _ _ _ _ _ h1 g1 (by have := h1.len; have := f1.ll; omega) (by have := g1.len; have := f1.lk; omega) z hz).mono fun e w' h => ?_
  have hp : ∀ {x b : Nat}, x < 4294967296 ^ b → ∀ z, x ^ z < 4294967296 ^ (b * z + 1) := by
    intro x b h z
    induction z with
    | zero => simp
    | succ z ih =>
      rw [Nat.pow_succ]
      exact Nat.lt_of_lt_of_le (bd_mul ih h) (pow_mono (by rw [Nat.mul_succ]; omega))
  refine RetFrO.q (Nat.pow_pos (frD_pos _ _)) (hp (Nat.lt_of_lt_of_le hB.1 (pow_mono (Nat.le_succ _))) z) (hp hB.2 z) (Nat.succ_pos _) (fun _ => ?_) (fun h => by cases h) h
  rw [pow_q, ← f1.val]
  rfl

theorem fcmp_q {w : World} {A1 B1 A2 B2' : Option Addr} {n1 c1 m1 d1 n2 c2 m2 d2 b1 b2 : Nat} {l1 k1 l2 k2 : List Nat} {q1 q2 : Rat} (h1 : Rd w w.heap.size A1 n1 c1 l1) (g1 : Rd w w.heap.size B1 m1 d1 k1) (f1 : FQ l1 k1 q1 b1) (h2 : Rd w w.heap.size A2 n2 c2 l2) (g2 : Rd w w.heap.size B2' m2 d2 k2) (f2 : FQ l2 k2 q2 b2) (hb1 : b1 ≤ 9000) (hb2 : b2 ≤ 9000) :
    Calls Tryz.prog 18 #[.agg #[.slice A1 n1 c1, .slice B1 m1 d1], .agg #[.slice A2 n2 c2, .slice B2' m2 d2]] w fun e w' => e = .returned (.int .i64 (cmpQ q1 q2)) ∧ Below w.heap.size w w' := by
  refine (fcmp_any w _ _ _ _ _ _ _ _ _ _ _ _ _ _ _ _ h1 g1 h2 g2 (by have := h1.len; have := f1.ll; omega) (by have := g1.len; have := f1.lk; omega) (by have := h2.len; have := f2.ll; omega) (by have := g2.len; have := f2.lk; omega)).mono fun e w' h => ?_
  rw [cmp_q _ _ _ _ (frD_pos _ _) (frD_pos _ _)] at h
  rw [← f1.val, ← f2.val]
  exact h

theorem fadd_q {w : World} {A1 B1 A2 B2' : Option Addr} {n1 c1 m1 d1 n2 c2 m2 d2 b1 b2 : Nat} {l1 k1 l2 k2 : List Nat} {q1 q2 : Rat} (h1 : Rd w w.heap.size A1 n1 c1 l1) (g1 : Rd w w.heap.size B1 m1 d1 k1) (f1 : FQ l1 k1 q1 b1) (h2 : Rd w w.heap.size A2 n2 c2 l2) (g2 : Rd w w.heap.size B2' m2 d2 k2) (f2 : FQ l2 k2 q2 b2) (hb1 : b1 ≤ 9000) (hb2 : b2 ≤ 9000) :
    Calls Tryz.prog 15 #[.agg #[.slice A1 n1 c1, .slice B1 m1 d1], .agg #[.slice A2 n2 c2, .slice B2' m2 d2]] w (RetQ w (q1 + q2) (b1 + b2 + 3)) := by
  have hB1 := f1.bounds h1.dig g1.dig
  have hB2 := f2.bounds h2.dig g2.dig
  refine (fadd_any w _ _ _ _ _ _ _ _ _ _ _ _ _ _ _ _ h1 g1 h2 g2 (by have := h1.len; have := f1.ll; omega) (by have := g1.len; have := f1.lk; omega) (by have := h2.len; have := f2.ll; omega) (by have := g2.len; have := f2.lk; omega)).mono fun e w' h => ?_
  refine RetFr.q (Nat.mul_pos (frD_pos _ _) (frD_pos _ _)) (bd_add (bd_mul hB1.1 hB2.2) (bd_mul hB2.1 hB1.2) (by omega) (by omega)) (Nat.lt_of_lt_of_le (bd_mul hB1.2 hB2.2) (pow_mono (by omega))) ?_ h
  rw [add_q _ _ _ _ (frD_pos _ _) (frD_pos _ _), ← f1.val, ← f2.val]
  rfl

theorem fsub_q {w : World} {A1 B1 A2 B2' : Option Addr} {n1 c1 m1 d1 n2 c2 m2 d2 b1 b2 : Nat} {l1 k1 l2 k2 : List Nat} {q1 q2 : Rat} (h1 : Rd w w.heap.size A1 n1 c1 l1) (g1 : Rd w w.heap.size B1 m1 d1 k1) (f1 : FQ l1 k1 q1 b1) (h2 : Rd w w.heap.size A2 n2 c2 l2) (g2 : Rd w w.heap.size B2' m2 d2 k2) (f2 : FQ l2 k2 q2 b2) (hb1 : b1 ≤ 9000) (hb2 : b2 ≤ 9000) :
    Calls Tryz.prog 12 #[.agg #[.slice A1 n1 c1, .slice B1 m1 d1], .agg #[.slice A2 n2 c2, .slice B2' m2 d2]] w (RetQO w (decide (q2 ≤ q1)) (if q2 ≤ q1 then q1 - q2 else 0) (b1 + b2 + 3)) := by
  have hB1 := f1.bounds h1.dig g1.dig
  have hB2 := f2.bounds h2.dig g2.dig
  refine (fsub_any w _ _ _ _ _ _ _ _ _ _ _ _ _ _ _ _ h1 g1 h2 g2 (by have := h1.len; have := f1.ll; omega) (by have := g1.len; have := f1.lk; omega) (by have := h2.len; have := f2.ll; omega) (by have := g2.len; have := f2.lk; omega)).mono fun e w' h => ?_
  have hle : q2 ≤ q1 ↔ frN l2 k2 * frD l1 k1 ≤ frN l1 k1 * frD l2 k2 := by
    rw [← f1.val, ← f2.val]
    exact le_q _ _ _ _ (frD_pos _ _) (frD_pos _ _)
  rw [show decide (frN l2 k2 * frD l1 k1 ≤ frN l1 k1 * frD l2 k2) = decide (q2 ≤ q1) from decide_eq_decide.2 hle.symm] at h
  refine RetFrO.q (Nat.mul_pos (frD_pos _ _) (frD_pos _ _)) (Nat.lt_of_le_of_lt (Nat.sub_le _ _) (Nat.lt_of_lt_of_le (bd_mul hB1.1 hB2.2) (pow_mono (by omega)))) (Nat.lt_of_lt_of_le (bd_mul hB1.2 hB2.2) (pow_mono (by omega))) (by omega) (fun ht => ?_) (fun hf => ?_) h
  · have ht := of_decide_eq_true ht
    rw [if_pos ht, sub_q _ _ _ _ (frD_pos _ _) (frD_pos _ _) (hle.1 ht), ← f1.val, ← f2.val]
    rfl
  · rw [if_neg (of_decide_eq_false hf)]

theorem fquo_q {w : World} {A1 B1 A2 B2' : Option Addr} {n1 c1 m1 d1 n2 c2 m2 d2 b1 b2 : Nat} {l1 k1 l2 k2 : List Nat} {q1 q2 : Rat} (h1 : Rd w w.heap.size A1 n1 c1 l1) (g1 : Rd w w.heap.size B1 m1 d1 k1) (f1 : FQ l1 k1 q1 b1) (h2 : Rd w w.heap.size A2 n2 c2 l2) (g2 : Rd w w.heap.size B2' m2 d2 k2) (f2 : FQ l2 k2 q2 b2) (hb1 : b1 ≤ 9000) (hb2 : b2 ≤ 9000) :
    Calls Tryz.prog 13 #[.agg #[.slice A1 n1 c1, .slice B1 m1 d1], .agg #[.slice A2 n2 c2, .slice B2' m2 d2]] w (RetQO w (decide (q2 ≠ 0)) (q1 / q2) (b1 + b2 + 3)) := by
  have hB1 := f1.bounds h1.dig g1.dig
  have hB2 := f2.bounds h2.dig g2.dig
  refine (fquo_any w _ _ _ _ _ _ _ _ _ _ _ _ _ _ _ _ h1 g1 h2 g2 (by have := h1.len; have := f1.ll; omega) (by have := g1.len; have := f1.lk; omega) (by have := h2.len; have := f2.ll; omega) (by have := g2.len; have := f2.lk; omega)).mono fun e w' h => ?_
  have hz : q2 = 0 ↔ frN l2 k2 = 0 := by
    rw [← f2.val]
    exact q_zero _ _ (frD_pos _ _)
  have hd : decide (0 < frN l2 k2) = decide (q2 ≠ 0) := decide_eq_decide.2 ⟨fun h e => by have := hz.1 e; omega, fun h => Nat.pos_of_ne_zero fun e => h (hz.2 e)⟩
  rw [hd] at h
  rcases Nat.eq_zero_or_pos (frN l2 k2) with h0 | h0
  · have hq : q2 = 0 := hz.2 h0
    rw [decide_eq_false (fun h => h hq)] at h ⊢
    obtain ⟨A, n, c, B, m, d, h1, h2, h3, h4⟩ := h
    rw [if_neg (by decide)] at h2 h3
    rw [hq, Rat.div_def, Rat.inv_zero, Rat.mul_zero]
    exact ⟨A, n, c, B, m, d, h1, h2, h3, ⟨frQ_q Rat.le_refl, by rw [rn_zero, digs_zero]; simp, Nat.le_trans (digs_len_le (k := 1) (by decide)) (by omega)⟩, h4⟩
  · refine RetFrO.q (Nat.mul_pos (frD_pos _ _) h0) (Nat.lt_of_lt_of_le (bd_mul hB1.1 hB2.2) (pow_mono (by omega))) (Nat.lt_of_lt_of_le (bd_mul hB1.2 hB2.1) (pow_mono (by omega))) (by omega) (fun ht => ?_) (fun hf => ?_) h
    · rw [quo_q, ← f1.val, ← f2.val]
      rfl
    · exact absurd (of_decide_eq_false hf) (fun h => h (fun e => by have := hz.1 e; omega))
theorem fof_q (w : World) (N D : Nat) (hN : N < 18446744073709551616) (hD : D < 18446744073709551616) :
    Calls Tryz.prog 11 #[.int .u64 N, .int .u64 D] w (RetQO w (decide (0 < D)) (mkRat N D) 2) := by
  refine (fof_any w N D hN hD).mono fun e w' h => ?_
  obtain ⟨A, n, c, B, m, d, h1, h2, h3, h4⟩ := h
  rcases Nat.eq_zero_or_pos D with h0 | h0
  · subst h0
    rw [if_pos rfl] at h2 h3
    rw [Rat.mkRat_zero]
    exact ⟨A, n, c, B, m, d, h1, h2, h3, ⟨frQ_q Rat.le_refl, by rw [rn_zero, digs_zero]; simp, Nat.le_trans (digs_len_le (k := 1) (by decide)) (by omega)⟩, h4⟩
  · rw [if_neg (by omega), low_rn N D h0] at h2
    rw [if_neg (by omega), low_rd N D h0] at h3
    exact ⟨A, n, c, B, m, d, h1, h2, h3, (low_le h0 (by omega) (by omega)).fq, h4⟩

end Go.Proofs.YthkgeafidbihmaaGreatDoor
