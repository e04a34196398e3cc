/-
  Fractions as rational numbers: what the contracts say, in their words. Plain law.
-/
import Derived.Test.YthefgdehfgkhhaaGreatK01
import Derived.Test.YthefgdehfgkhhaaGreatK05
import Derived.Test.YthefgdehfgkhhaaGreatK04
import Derived.Test.YthefgdehfgkhhaaGreatK03
import Derived.PlainAid
import Derived.Test.YthefgdehfgkhhaaGreatK02
import Derived.Test.YthefgdehfgkhhaaGreatProg
import Derived.WalkKit
import Derived.Handy
import Derived.Maps.Own
import Derived.Maps.OwnSet
import Derived.DeepKeys4
namespace Go.Proofs.YthefgdehfgkhhaaGreat
open Go.RowKit Go.Shelf
set_option linter.unusedVariables false
set_option linter.unusedSimpArgs false
/-- What a fraction's lower numbers are. -/
def rn (q : Rat) : Nat := q.num.toNat
def rd (q : Rat) : Nat := q.den
/-- The rational number that two rows of digits mean. -/
def frQ (l k : List Nat) : Rat := mkRat (frN l k : Nat) (frD l k)
theorem low_rn (X Y : Nat) (hY : 0 < Y) : X / Nat.gcd X Y = rn (mkRat X Y) := by
 unfold rn
 rw [Rat.num_mkRat, if_neg (by omega), Nat.gcd_comm]
 simp
 rfl
theorem low_rd (X Y : Nat) (hY : 0 < Y) : Y / Nat.gcd X Y = rd (mkRat X Y) := by
 unfold rd
 rw [Rat.den_mkRat, if_neg (by omega), Nat.gcd_comm]
 simp
theorem q_ge0 (X Y : Nat) : (0 : Rat) ≤ mkRat X Y := by
 rw [← Rat.divInt_ofNat]
 exact Rat.divInt_nonneg (by omega) (by omega)
theorem frQ_ge0 (l k : List Nat) : 0 ≤ frQ l k := q_ge0 _ _
theorem gcd_q {q : Rat} (h : 0 ≤ q) : Nat.gcd (rn q) (rd q) = 1 := by
 have := q.reduced
 have h2 := Rat.num_nonneg.2 h
 unfold Nat.Coprime at this
 unfold rn rd
 rwa [show q.num.natAbs = q.num.toNat by omega] at this
theorem rd_pos (q : Rat) : 0 < rd q := Nat.pos_of_ne_zero q.den_nz
theorem mk_q {q : Rat} (h : 0 ≤ q) : mkRat (rn q : Nat) (rd q) = q := by
 have h2 := Rat.num_nonneg.2 h
 unfold rn rd
 rw [Int.toNat_of_nonneg h2]
 exact Rat.mkRat_self q
theorem q_ext {p q : Rat} (hp : 0 ≤ p) (hq : 0 ≤ q) (h1 : rn p = rn q) (h2 : rd p = rd q) : p = q := by
 rw [← mk_q hp, ← mk_q hq, h1, h2]
theorem digs_len_of' {n : Nat} (h : 0 < n) : 0 < (digs n).length := by
 rw [digs_pos (by omega)]
 simp
theorem frR_q {q : Rat} (h : 0 ≤ q) : frR (digs (rn q)) (digs (rd q)) = true := by
 unfold frR
 rw [rightB_digs, rightB_digs, tv_digs, tv_digs, decide_eq_true (gcd_q h), decide_eq_true (digs_len_of' (rd_pos q))]
 rfl
theorem frN_q {q : Rat} (h : 0 ≤ q) : frN (digs (rn q)) (digs (rd q)) = rn q := by
 unfold frN
 rw [if_pos (frR_q h), tv_digs]
theorem frD_q {q : Rat} (h : 0 ≤ q) : frD (digs (rn q)) (digs (rd q)) = rd q := by
 unfold frD
 rw [if_pos (frR_q h), tv_digs]
theorem frQ_q {q : Rat} (h : 0 ≤ q) : frQ (digs (rn q)) (digs (rd q)) = q := by
 unfold frQ
 rw [frN_q h, frD_q h, mk_q h]
theorem frQ_lists {l k : List Nat} (h : frR l k = true) (hl : Dig l) (hk : Dig k) : digs (rn (frQ l k)) = l ∧ digs (rd (frQ l k)) = k := by
 have hr := h
 unfold frR at hr
 simp only [Bool.and_eq_true, decide_eq_true_eq] at hr
 have hD := frD_pos l k
 have hg : Nat.gcd (frN l k) (frD l k) = 1 := by
  unfold frN frD
  rw [if_pos h, if_pos h]
  exact hr.2.2.2
 unfold frQ
 rw [← low_rn _ _ hD, ← low_rd _ _ hD, hg, Nat.div_one, Nat.div_one]
 unfold frN frD
 rw [if_pos h, if_pos h, tv_right hr.1, tv_right hr.2.1]
 exact ⟨digs_val hl hr.1, digs_val hk hr.2.1⟩
theorem add_q (N1 D1 N2 D2 : Nat) (h1 : 0 < D1) (h2 : 0 < D2) : mkRat ((N1 * D2 + N2 * D1 : Nat) : Int) (D1 * D2) = mkRat N1 D1 + mkRat N2 D2 := by
 rw [Rat.mkRat_add_mkRat _ _ (by omega) (by omega)]
 congr 1
theorem sub_q' (N1 D1 N2 D2 : Nat) (h1 : 0 < D1) (h2 : 0 < D2) : mkRat ((N1 * D2 : Nat) - (N2 * D1 : Nat) : Int) (D1 * D2) = mkRat N1 D1 - mkRat N2 D2 := by
 rw [← Rat.divInt_ofNat, ← Rat.divInt_ofNat, ← Rat.divInt_ofNat, Rat.divInt_sub_divInt _ _ (by omega) (by omega)]
 congr 1
theorem le_q (N1 D1 N2 D2 : Nat) (h1 : 0 < D1) (h2 : 0 < D2) : mkRat N2 D2 ≤ mkRat N1 D1 ↔ N2 * D1 ≤ N1 * D2 := by
 rw [Rat.le_iff_sub_nonneg, ← sub_q' _ _ _ _ h1 h2, ← Rat.divInt_ofNat, Rat.divInt_nonneg_iff_of_pos_right (by have := Nat.mul_pos h1 h2; omega)]
 omega
theorem lt_q (N1 D1 N2 D2 : Nat) (h1 : 0 < D1) (h2 : 0 < D2) : mkRat N1 D1 < mkRat N2 D2 ↔ N1 * D2 < N2 * D1 := by
 rw [← Rat.not_le, le_q _ _ _ _ h1 h2]
 omega
theorem sub_q (N1 D1 N2 D2 : Nat) (h1 : 0 < D1) (h2 : 0 < D2) (h : N2 * D1 ≤ N1 * D2) : mkRat ((N1 * D2 - N2 * D1 : Nat) : Int) (D1 * D2) = mkRat N1 D1 - mkRat N2 D2 := by
 rw [← sub_q' _ _ _ _ h1 h2]
 congr 1
 omega
theorem mul_q (N1 D1 N2 D2 : Nat) : mkRat ((N1 * N2 : Nat) : Int) (D1 * D2) = mkRat N1 D1 * mkRat N2 D2 := by
 rw [Rat.mkRat_mul_mkRat]
 congr 1
theorem quo_q (N1 D1 N2 D2 : Nat) : mkRat ((N1 * D2 : Nat) : Int) (D1 * N2) = mkRat N1 D1 / mkRat N2 D2 := by
 rw [Rat.div_def, ← Rat.divInt_ofNat (num := N2), Rat.inv_divInt, Rat.divInt_ofNat, Rat.mkRat_mul_mkRat]
 congr 1
theorem pow_q (N D : Nat) : ∀ z, mkRat ((N ^ z : Nat) : Int) (D ^ z) = mkRat N D ^ z
 | 0 => by rw [Rat.pow_zero, Nat.pow_zero, Nat.pow_zero]; rfl
 | z + 1 => by rw [Rat.pow_succ, ← pow_q N D z, Rat.mkRat_mul_mkRat, Nat.pow_succ, Nat.pow_succ]; congr 1
theorem floor_q (N D : Nat) (h : 0 < D) : ((N / D : Nat) : Rat) ≤ mkRat N D ∧ mkRat N D < ((N / D : Nat) : Rat) + 1 := by
 have h3 : mkRat N D = ((N : Nat) : Rat) / ((D : Nat) : Rat) := by
  rw [Rat.mkRat_eq_div]; rfl
 have hD : (0 : Rat) < ((D : Nat) : Rat) := Rat.natCast_pos.2 h
 constructor
 ·rw [← Rat.not_lt, h3, Rat.div_lt_iff hD, Rat.not_lt, ← Rat.natCast_mul, Rat.natCast_le_natCast]
  exact Nat.div_mul_le_self N D
 ·rw [h3, Rat.div_lt_iff hD, show ((N / D : Nat) : Rat) + 1 = ((N / D + 1 : Nat) : Rat) from (by rw [Rat.natCast_add]; rfl), ← Rat.natCast_mul, Rat.natCast_lt_natCast]
  have := Nat.div_add_mod N D
  have := Nat.mod_lt N h
  rw [Nat.add_mul, Nat.mul_comm (N / D) D]
  omega
theorem q_zero (N D : Nat) (h : 0 < D) : mkRat (N : Nat) D = 0 ↔ N = 0 := by
 rw [Rat.mkRat_eq_zero (by omega)]
 omega
theorem q_whole (n : Nat) : mkRat (n : Nat) 1 = (n : Rat) := by
 rw [← mk_q (q := (n : Rat)) Rat.natCast_nonneg]
 rfl
theorem rn_nat (n : Nat) : rn (n : Rat) = n := rfl
theorem rd_nat (n : Nat) : rd (n : Rat) = 1 := rfl
theorem rn_zero : rn 0 = 0 := rfl
theorem rd_zero : rd 0 = 1 := rfl
/-- Which is less. -/
def cmpQ (p q : Rat) : Int := if p < q then -1 else if q < p then 1 else 0
theorem cmpQ_lt {p q : Rat} (h : p < q) : cmpQ p q = -1 := if_pos h
theorem cmpQ_gt {p q : Rat} (h : q < p) : cmpQ p q = 1 := by
 unfold cmpQ
 rw [if_neg (Rat.not_lt.2 (Rat.le_of_lt h)), if_pos h]
theorem cmpQ_eq {p q : Rat} (h : p = q) : cmpQ p q = 0 := by
 unfold cmpQ
 subst h
 rw [if_neg Rat.lt_irrefl, if_neg Rat.lt_irrefl]
theorem cmp_q (N1 D1 N2 D2 : Nat) (h1 : 0 < D1) (h2 : 0 < D2) : cmpI ((N1 * D2 : Nat) : Int) ((N2 * D1 : Nat) : Int) = cmpQ (mkRat N1 D1) (mkRat N2 D2) := by
 rw [cmpI_nat]
 unfold cmpQ
 simp only [lt_q _ _ _ _ h1 h2, lt_q _ _ _ _ h2 h1]
/-- A fraction's rows of digits mean q, and hold few digits. -/
structure FQ (l k : List Nat) (q : Rat) (b : Nat) : Prop where
 val : frQ l k = q
 ll : l.length ≤ b
 lk : k.length ≤ b
section
variable {l k : List Nat} {q : Rat} {b : Nat}
theorem FQ.ge0 (h : FQ l k q b) : 0 ≤ q := by rw [← h.val]; exact frQ_ge0 l k
theorem FQ.mono {b' : Nat} (h : FQ l k q b) (hb : b ≤ b') : FQ l k q b' := ⟨h.val, Nat.le_trans h.ll hb, Nat.le_trans h.lk hb⟩
theorem FQ.self (hl : l.length ≤ b) (hk : k.length ≤ b) : FQ l k (frQ l k) b := ⟨rfl, hl, hk⟩
end
/-- What is known of a rational number's size. -/
structure Qb (q : Rat) (b : Nat) : Prop where
 ge : 0 ≤ q
 n : rn q < 4294967296 ^ b
 d : rd q < 4294967296 ^ b
theorem low_le {X Y : Nat} {b : Nat} (hY : 0 < Y) (hx : X < 4294967296 ^ b) (hy : Y < 4294967296 ^ b) : Qb (mkRat X Y) b := by
 refine ⟨q_ge0 _ _, ?_, ?_⟩
 ·rw [← low_rn X Y hY]; exact Nat.lt_of_le_of_lt (Nat.div_le_self _ _) hx
 ·rw [← low_rd X Y hY]; exact Nat.lt_of_le_of_lt (Nat.div_le_self _ _) hy
theorem Qb.fq {q : Rat} {b : Nat} (h : Qb q b) : FQ (digs (rn q)) (digs (rd q)) q b :=
 ⟨frQ_q h.ge, digs_len_le h.n, digs_len_le h.d⟩
theorem FQ.bounds {l k : List Nat} {q : Rat} {b : Nat} (h : FQ l k q b) (hl : Dig l) (hk : Dig k) : frN l k < 4294967296 ^ b ∧ frD l k < 4294967296 ^ (b + 1) :=
 ⟨Nat.lt_of_lt_of_le (lt_of_digs_len _) (pow_mono (Nat.le_trans (frN_len hl) h.ll)), Nat.lt_of_lt_of_le (lt_of_digs_len _) (pow_mono (Nat.le_trans (frD_len hk) (Nat.succ_le_succ h.lk)))⟩
/-- A fraction is handed back: q, of at most b digits above and below. -/
def RetQ (w : World) (q : Rat) (b : Nat) (e : Ending) (w' : World) : Prop :=
 ∃ A n c B m d, e = .returned (.agg #[.slice A n c, .slice B m d]) ∧ Rd w' w'.heap.size A n c (digs (rn q)) ∧ Rd w' w'.heap.size B m d (digs (rd q)) ∧ FQ (digs (rn q)) (digs (rd q)) q b ∧ Below w.heap.size w w'
def RetQO (w : World) (ok : Bool) (q : Rat) (b : Nat) (e : Ending) (w' : World) : Prop :=
 ∃ A n c B m d, e = .returned (.tuple #[.agg #[.slice A n c, .slice B m d], .bool ok]) ∧ Rd w' w'.heap.size A n c (digs (rn q)) ∧ Rd w' w'.heap.size B m d (digs (rd q)) ∧ FQ (digs (rn q)) (digs (rd q)) q b ∧ Below w.heap.size w w'
theorem RetFr.q {w w' : World} {X Y b : Nat} {e : Ending} (hY : 0 < Y) (hx : X < 4294967296 ^ b) (hy : Y < 4294967296 ^ b) {q : Rat} (hq : mkRat X Y = q) (h : RetFr w (X / Nat.gcd X Y) (Y / Nat.gcd X Y) e w') : RetQ w q b e w' := by
 obtain ⟨A, n, c, B, m, d, h1, h2, h3, h4⟩ := h
 rw [low_rn X Y hY, hq] at h2
 rw [low_rd X Y hY, hq] at h3
 exact ⟨A, n, c, B, m, d, h1, h2, h3, (hq ▸ low_le hY hx hy).fq, h4⟩
theorem fcmp_q {w : World} {A1 B1 A2 B2' : Option Addr} {n1 c1 m1 d1 n2 c2 m2 d2 b1 b2 : Nat} {l1 k1 l2 k2 : List Nat} {q1 q2 : Rat} (h1 : Rd w w.heap.size A1 n1 c1 l1) (g1 : Rd w w.heap.size B1 m1 d1 k1) (f1 : FQ l1 k1 q1 b1) (h2 : Rd w w.heap.size A2 n2 c2 l2) (g2 : Rd w w.heap.size B2' m2 d2 k2) (f2 : FQ l2 k2 q2 b2) (hb1 : b1 ≤ 9000) (hb2 : b2 ≤ 9000) :
 Calls Tryz.prog 13 #[.agg #[.slice A1 n1 c1, .slice B1 m1 d1], .agg #[.slice A2 n2 c2, .slice B2' m2 d2]] w fun e w' => e = .returned (.int .i64 (cmpQ q1 q2)) ∧ Below w.heap.size w w' := by
 refine (fcmp_any w _ _ _ _ _ _ _ _ _ _ _ _ _ _ _ _ h1 g1 h2 g2 (by have := h1.len; have := f1.ll; omega) (by have := g1.len; have := f1.lk; omega) (by have := h2.len; have := f2.ll; omega) (by have := g2.len; have := f2.lk; omega)).mono fun e w' h => ?_
 rw [cmp_q _ _ _ _ (frD_pos _ _) (frD_pos _ _)] at h
 rw [← f1.val, ← f2.val]
 exact h
theorem fmul_q {w : World} {A1 B1 A2 B2' : Option Addr} {n1 c1 m1 d1 n2 c2 m2 d2 b1 b2 : Nat} {l1 k1 l2 k2 : List Nat} {q1 q2 : Rat} (h1 : Rd w w.heap.size A1 n1 c1 l1) (g1 : Rd w w.heap.size B1 m1 d1 k1) (f1 : FQ l1 k1 q1 b1) (h2 : Rd w w.heap.size A2 n2 c2 l2) (g2 : Rd w w.heap.size B2' m2 d2 k2) (f2 : FQ l2 k2 q2 b2) (hb1 : b1 ≤ 9000) (hb2 : b2 ≤ 9000) :
 Calls Tryz.prog 69 #[.agg #[.slice A1 n1 c1, .slice B1 m1 d1], .agg #[.slice A2 n2 c2, .slice B2' m2 d2]] w (RetQ w (q1 * q2) (b1 + b2 + 2)) := by
 have hB1 := f1.bounds h1.dig g1.dig
 have hB2 := f2.bounds h2.dig g2.dig
 refine (fmul_any w _ _ _ _ _ _ _ _ _ _ _ _ _ _ _ _ h1 g1 h2 g2 (by have := h1.len; have := f1.ll; omega) (by have := g1.len; have := f1.lk; omega) (by have := h2.len; have := f2.ll; omega) (by have := g2.len; have := f2.lk; omega)).mono fun e w' h => ?_
 refine RetFr.q (Nat.mul_pos (frD_pos _ _) (frD_pos _ _)) (Nat.lt_of_lt_of_le (bd_mul hB1.1 hB2.1) (pow_mono (by omega))) (Nat.lt_of_lt_of_le (bd_mul hB1.2 hB2.2) (pow_mono (by omega))) ?_ h
 rw [mul_q, ← f1.val, ← f2.val]
 rfl
theorem fof_q (w : World) (N D : Nat) (hN : N < 18446744073709551616) (hD : D < 18446744073709551616) :
 Calls Tryz.prog 10 #[.int .u64 N, .int .u64 D] w (RetQO w (decide (0 < D)) (mkRat N D) 2) := by
 refine (fof_any w N D hN hD).mono fun e w' h => ?_
 obtain ⟨A, n, c, B, m, d, h1, h2, h3, h4⟩ := h
 rcases Nat.eq_zero_or_pos D with h0 | h0
 ·subst h0
  rw [if_pos rfl] at h2 h3
  rw [Rat.mkRat_zero]
  exact ⟨A, n, c, B, m, d, h1, h2, h3, ⟨frQ_q Rat.le_refl, by rw [rn_zero, digs_zero]; simp, Nat.le_trans (digs_len_le (k := 1) (by decide)) (by omega)⟩, h4⟩
 ·rw [if_neg (by omega), low_rn N D h0] at h2
  rw [if_neg (by omega), low_rd N D h0] at h3
  exact ⟨A, n, c, B, m, d, h1, h2, h3, (low_le h0 (by omega) (by omega)).fq, h4⟩
end Go.Proofs.YthefgdehfgkhhaaGreat
namespace Go.Proofs.YthefgdehfgkhhaaGreat
set_option linter.unusedVariables false
set_option linter.unusedSimpArgs false
/-- What is noted: of each way once, in the order in which it came. -/
abbrev Notes := List ((Int × Int) × (Int × Int × Int))
def look (L : Notes) (k : Int × Int) : Option (Int × Int × Int) := (L.find? fun e => e.1 == k).map (·.2)
/-- The list with an entry put: in its place, or at the end. -/
def putL (L : Notes) (k : Int × Int) (v : Int × Int × Int) : Notes := if (look L k).isSome then L.map (fun e => if e.1 = k then (k, v) else e) else L ++ [(k, v)]
def delL (L : Notes) (k : Int × Int) : Notes := L.filter fun e => e.1 != k
def Once (L : Notes) : Prop := L.Pairwise fun a b => a.1 ≠ b.1
theorem look_some {L : Notes} {k : Int × Int} {v : Int × Int × Int} (h : look L k = some v) : (k, v) ∈ L := by
 unfold look at h
 obtain ⟨e, he, hv⟩ := Option.map_eq_some_iff.1 h
 have h1 := List.find?_some he
 have h2 := List.mem_of_find?_eq_some he
 simp at h1
 rw [← h1, ← hv]
 exact h2
theorem look_none {L : Notes} {k : Int × Int} (h : look L k = none) : ∀ e ∈ L, e.1 ≠ k := by
 unfold look at h
 rw [Option.map_eq_none_iff, List.find?_eq_none] at h
 intro e he hk
 exact h e he (by simp [hk])
theorem look_isSome {L : Notes} {k : Int × Int} : (look L k).isSome = L.any fun e => e.1 == k := by
 unfold look
 rw [Option.isSome_map]
 induction L with
 | nil => rfl
 | cons e L ih =>
  rw [List.find?_cons, List.any_cons]
  by_cases h : (e.1 == k) = true
  ·rw [h]; rfl
  ·have h' : (e.1 == k) = false := by simpa using h
   rw [h']; simpa using ih
theorem look_cons (e : (Int × Int) × (Int × Int × Int)) (L : Notes) (k : Int × Int) : look (e :: L) k = if e.1 = k then some e.2 else look L k := by
 unfold look
 rw [List.find?_cons]
 by_cases h : e.1 = k
 ·simp [h]
 ·have h' : (e.1 == k) = false := by simpa using h
  rw [h', if_neg h]
theorem look_append (L M : Notes) (k : Int × Int) : look (L ++ M) k = (look L k).or (look M k) := by
 induction L with
 | nil => rfl
 | cons e L ih =>
  rw [List.cons_append, look_cons, look_cons, ih]
  by_cases h : e.1 = k
  ·simp [h]
  ·simp [h]
theorem look_map_put (L : Notes) (k k' : Int × Int) (v : Int × Int × Int) : look (L.map (fun e => if e.1 = k then (k, v) else e)) k' = if k' = k then (look L k).map (fun _ => v) else look L k' := by
 induction L with
 | nil => simp [look]
 | cons e L ih =>
  rw [List.map_cons, look_cons, ih]
  by_cases h : e.1 = k
  ·rw [if_pos h]
   by_cases h2 : k' = k
   ·subst h2; simp [look_cons, h]
   ·have h3 : ¬ k = k' := fun e => h2 e.symm
    have h4 : ¬ e.1 = k' := by rw [h]; exact h3
    simp [look_cons, h2, h3, h4]
  ·rw [if_neg h]
   by_cases h2 : k' = k
   ·subst h2; simp [look_cons, h]
   ·simp [look_cons, h2]
theorem look_put (L : Notes) (k k' : Int × Int) (v : Int × Int × Int) : look (putL L k v) k' = if k' = k then some v else look L k' := by
 unfold putL
 by_cases h : (look L k).isSome = true
 ·rw [if_pos h, look_map_put]
  by_cases h2 : k' = k
  ·rw [if_pos h2, if_pos h2]
   cases hl : look L k with
   | none => rw [hl] at h; cases h
   | some x => rfl
  ·rw [if_neg h2, if_neg h2]
 ·rw [if_neg h, look_append]
  have hn : look L k = none := by cases hl : look L k with
   | none => rfl
   | some x => rw [hl] at h; simp at h
  by_cases h2 : k' = k
  ·subst h2; rw [hn, if_pos rfl]; simp [look]
  ·rw [if_neg h2, look_cons, if_neg (fun e => h2 e.symm)]
   simp [look]
theorem length_put (L : Notes) (k : Int × Int) (v : Int × Int × Int) : (putL L k v).length = if (look L k).isSome then L.length else L.length + 1 := by
 unfold putL
 split <;> simp
theorem once_put {L : Notes} (h : L.Pairwise fun a b => a.1 ≠ b.1) (k : Int × Int) (v : Int × Int × Int) : (putL L k v).Pairwise fun a b => a.1 ≠ b.1 := by
 unfold putL
 split
 ·rw [List.pairwise_map]
  refine h.imp ?_
  intro a b hab
  by_cases ha : a.1 = k <;> by_cases hb : b.1 = k
  ·exact absurd (ha.trans hb.symm) hab
  ·simp only [ha, hb, if_true, if_false]; exact fun e => hb e.symm
  ·simp only [ha, hb, if_true, if_false]; exact ha
  ·simp only [ha, hb, if_false]; exact hab
 ·rename_i hn
  rw [List.pairwise_append]
  refine ⟨h, List.pairwise_singleton _ _, fun a ha b hb => ?_⟩
  rw [List.mem_singleton.1 hb]
  refine look_none ?_ a ha
  cases hl : look L k with
  | none => rfl
  | some x => rw [hl] at hn; simp at hn
theorem mem_put {L : Notes} {k : Int × Int} {v : Int × Int × Int} {e : (Int × Int) × (Int × Int × Int)} (h : e ∈ putL L k v) : e ∈ L ∨ e = (k, v) := by
 unfold putL at h
 split at h
 ·obtain ⟨a, ha, rfl⟩ := List.mem_map.1 h
  split
  ·exact .inr rfl
  ·exact .inl ha
 ·rcases List.mem_append.1 h with h | h
  ·exact .inl h
  ·exact .inr (List.mem_singleton.1 h)
theorem look_del (L : Notes) (k k' : Int × Int) : look (delL L k) k' = if k' = k then none else look L k' := by
 unfold delL
 induction L with
 | nil => simp [look]
 | cons e L ih =>
  rw [List.filter_cons]
  by_cases h : e.1 = k
  ·have h1 : (e.1 != k) = false := by simp [h]
   rw [h1]
   simp only [Bool.false_eq_true, if_false]
   rw [ih, look_cons]
   by_cases h2 : k' = k
   ·rw [if_pos h2, if_pos h2]
   ·rw [if_neg h2, if_neg h2, if_neg (by rw [h]; exact fun e => h2 e.symm)]
  ·have h1 : (e.1 != k) = true := by simp [h]
   rw [h1, if_pos rfl, look_cons, look_cons, ih]
   by_cases h2 : k' = k
   ·subst h2; rw [if_neg h, if_pos rfl, if_pos rfl]
   ·rw [if_neg h2, if_neg h2]
theorem once_len {L : Notes} (h : L.Pairwise fun a b => a.1 ≠ b.1) (k : Int × Int) : (delL L k).length + (if (look L k).isSome then 1 else 0) = L.length := by
 unfold delL
 induction L with
 | nil => rfl
 | cons e L ih =>
  rw [List.pairwise_cons] at h
  rw [List.filter_cons, look_cons]
  by_cases hk : e.1 = k
  ·have h1 : (e.1 != k) = false := by simp [hk]
   rw [h1, if_pos hk]
   have h2 : L.filter (fun e => e.1 != k) = L := by
    rw [List.filter_eq_self]
    intro a ha
    have := h.1 a ha
    rw [hk] at this
    simpa using fun e => this e.symm
   simp [h2]
  ·have h1 : (e.1 != k) = true := by simp [hk]
   rw [h1, if_neg hk, if_pos rfl, List.length_cons, List.length_cons, ← ih h.2]
   omega
/-! What an edge may be; what counts of a room; the acts. -/
def partyB (n : Int) : Bool := decide (0 ≤ n) && decide (n < 12)
def mayB (f t c r : Int) : Bool := partyB f && (partyB t && (decide (f ≠ t) && (decide (0 ≤ c) && (decide (c < 1048576) && (decide (0 < r) && decide (r ≤ 1125899906842624))))))
theorem mayB_iff {f t c r : Int} : mayB f t c r = true ↔ (0 ≤ f ∧ f < 12) ∧ (0 ≤ t ∧ t < 12) ∧ f ≠ t ∧ (0 ≤ c ∧ c < 1048576) ∧ 0 < r ∧ r ≤ 1125899906842624 := by
 simp [mayB, partyB]
 omega
/-- The parts of an edge that matter here. -/
structure E4 where
 f : Int
 t : Int
 c : Int
 r : Int
def E4.ok (e : E4) : Bool := mayB e.f e.t e.c e.r
def E4.back (e : E4) : E4 := ⟨e.t, e.f, e.c, e.r⟩
def E4.may (e : E4) (x : Int) : Bool := e.ok && (decide (0 < x) && decide (x ≤ e.r))
/-- Low and high of a way, as they count of a room. -/
def cnt (L : Notes) (k : Int × Int) (r : Int) : Int × Int := match look L k with
 | none => (0, r + 1)
 | some (a, b, _) => (min a r, max (min b (r + 1)) (min a r + 1))
def failL (L : Notes) (e : E4) (x : Int) : Notes := if e.may x then putL L (e.f, e.c) (min (cnt L (e.f, e.c) e.r).1 (x - 1), min (cnt L (e.f, e.c) e.r).2 x, e.r) else L
def passL (L : Notes) (e : E4) (x : Int) : Notes := if e.may x then putL L (e.f, e.c) (max (cnt L (e.f, e.c) e.r).1 x, max (cnt L (e.f, e.c) e.r).2 (x + 1), e.r) else L
def moveL (L : Notes) (e : E4) (x : Int) : Notes := if e.may x then
 putL (putL L (e.f, e.c) (max ((cnt L (e.f, e.c) e.r).1 - x) 0, max ((cnt L (e.f, e.c) e.r).2 - x) (max ((cnt L (e.f, e.c) e.r).1 - x) 0 + 1), e.r))
  (e.t, e.c) (min ((cnt L (e.t, e.c) e.r).1 + x) e.r, min ((cnt L (e.t, e.c) e.r).2 + x) (e.r + 1), e.r) else L
/-- A number divided upwards. -/
def upI (n d : Int) : Int := if 0 < n % d then n / d + 1 else n / d
def fade (p : Int) (v : Int × Int × Int) : Int × Int × Int := (v.1 - upI v.1 p, v.2.1 + upI (v.2.2 + 1 - v.2.1) p, v.2.2)
def gone (v : Int × Int × Int) : Bool := decide (v.1 = 0) && decide (v.2.2 < v.2.1)
def older1 (p : Int) (e : (Int × Int) × (Int × Int × Int)) : Option ((Int × Int) × (Int × Int × Int)) := if gone (fade p e.2) then none else some (e.1, fade p e.2)
def oldL (L : Notes) (p : Int) : Notes := if p < 1 then L else L.filterMap (older1 p)
/-- What every note keeps to. -/
def noteOk (v : Int × Int × Int) : Prop := 0 ≤ v.1 ∧ v.1 < v.2.1 ∧ v.2.1 ≤ v.2.2 + 1 ∧ v.2.2 ≤ 1125899906842624
def wayOk (k : Int × Int) : Prop := (0 ≤ k.1 ∧ k.1 < 12) ∧ (0 ≤ k.2 ∧ k.2 < 1048576)
structure Good (L : Notes) : Prop where
 once : L.Pairwise fun a b => a.1 ≠ b.1
 ok : ∀ e ∈ L, wayOk e.1 ∧ noteOk e.2
theorem Good.nil : Good [] := ⟨List.Pairwise.nil, fun _ h => by cases h⟩
theorem Good.put {L : Notes} (h : Good L) {k : Int × Int} {v : Int × Int × Int} (hk : wayOk k) (hv : noteOk v) : Good (putL L k v) :=
 ⟨once_put h.once _ _, fun e he => by
  rcases mem_put he with h1 | h1
  ·exact h.ok e h1
  ·subst h1; exact ⟨hk, hv⟩⟩
theorem cnt_ok {L : Notes} (h : Good L) (k : Int × Int) {r : Int} (hr : 0 < r) : 0 ≤ (cnt L k r).1 ∧ (cnt L k r).1 < (cnt L k r).2 ∧ (cnt L k r).2 ≤ r + 1 := by
 unfold cnt
 split
 ·simp only; omega
 ·rename_i a b z hl
  have := (h.ok _ (look_some hl)).2
  simp only [noteOk] at this
  simp only
  omega
theorem Good.fail {L : Notes} (h : Good L) (e : E4) (x : Int) : Good (failL L e x) := by
 unfold failL
 split
 ·rename_i hm
  simp only [E4.may, E4.ok, Bool.and_eq_true, decide_eq_true_eq] at hm
  obtain ⟨hm, hx, hxr⟩ := hm
  rw [mayB_iff] at hm
  have hc := cnt_ok h (e.f, e.c) hm.2.2.2.2.1
  refine h.put ⟨hm.1, hm.2.2.2.1⟩ ?_
  simp only [noteOk]
  omega
 ·exact h
theorem Good.pass {L : Notes} (h : Good L) (e : E4) (x : Int) : Good (passL L e x) := by
 unfold passL
 split
 ·rename_i hm
  simp only [E4.may, E4.ok, Bool.and_eq_true, decide_eq_true_eq] at hm
  obtain ⟨hm, hx, hxr⟩ := hm
  rw [mayB_iff] at hm
  have hc := cnt_ok h (e.f, e.c) hm.2.2.2.2.1
  refine h.put ⟨hm.1, hm.2.2.2.1⟩ ?_
  simp only [noteOk]
  omega
 ·exact h
theorem Good.move {L : Notes} (h : Good L) (e : E4) (x : Int) : Good (moveL L e x) := by
 unfold moveL
 split
 ·rename_i hm
  simp only [E4.may, E4.ok, Bool.and_eq_true, decide_eq_true_eq] at hm
  obtain ⟨hm, hx, hxr⟩ := hm
  rw [mayB_iff] at hm
  have hc := cnt_ok h (e.f, e.c) hm.2.2.2.2.1
  have hd := cnt_ok h (e.t, e.c) hm.2.2.2.2.1
  refine (h.put ⟨hm.1, hm.2.2.2.1⟩ ?_).put ⟨hm.2.1, hm.2.2.2.1⟩ ?_
  ·simp only [noteOk]; omega
  ·simp only [noteOk]; omega
 ·exact h
theorem upI_bd {n d : Int} (hn : 0 ≤ n) (hd : 0 < d) : 0 ≤ upI n d ∧ upI n d ≤ n := by
 unfold upI
 have h1 := Int.emod_add_mul_ediv n d
 have h2 := Int.emod_nonneg n (by omega : d ≠ 0)
 have h3 : 0 ≤ n / d := Int.ediv_nonneg hn (by omega)
 have h4 : n / d ≤ d * (n / d) := by
  have := Int.mul_le_mul_of_nonneg_right (show 1 ≤ d by omega) h3
  omega
 split <;> omega
theorem upI_one (n : Int) : upI n 1 = n := by unfold upI; simp
theorem fade_ok {p : Int} {v : Int × Int × Int} (h : noteOk v) (hp : 0 < p) : noteOk (fade p v) := by
 simp only [noteOk, fade] at *
 have h1 := upI_bd h.1 hp
 have h2 := upI_bd (show 0 ≤ v.2.2 + 1 - v.2.1 by omega) hp
 omega
theorem Good.old {L : Notes} (h : Good L) (p : Int) : Good (oldL L p) := by
 unfold oldL
 split
 ·exact h
 ·rename_i hp
  refine ⟨?_, fun e he => ?_⟩
  ·rw [List.pairwise_filterMap]
   refine h.once.imp ?_
   intro a b hab x hx y hy
   simp only [older1] at hx hy
   split at hx
   ·cases hx
   ·split at hy
    ·cases hy
    ·cases hx; cases hy; exact hab
  ·obtain ⟨a, ha, hx⟩ := List.mem_filterMap.1 he
   simp only [older1] at hx
   split at hx
   ·cases hx
   ·cases hx
    exact ⟨(h.ok a ha).1, fade_ok (h.ok a ha).2 (by omega)⟩
end Go.Proofs.YthefgdehfgkhhaaGreat
namespace Go.Proofs.YthefgdehfgkhhaaGreat
open Go.RowKit
set_option linter.unusedVariables false
set_option linter.unusedSimpArgs false
/-- An edge, as a value. -/
structure Ed where
 f : Int
 t : Int
 c : Int
 r : Int
 p0 : Int
 p1 : Int
 p2 : Int
 p3 : Int
 p4 : Int
def Ed.cs (e : Ed) : Array Value := #[.int .i64 e.f, .int .i64 e.t, .int .i64 e.c, .int .i64 e.r, .int .i64 e.p0, .int .i64 e.p1, .int .i64 e.p2, .int .i64 e.p3, .int .i64 e.p4]
/-- A struct in a struct lies flat, in the value as in memory. -/
def Ed.v (e : Ed) : Value := .agg e.cs
theorem party_any (n : Int) (w : World) : Calls Tryz.prog 79 #[.int .i64 n] w fun e w' => e = .returned (.bool (partyB n)) ∧ w = w' := by
 by_cases h1 : 0 ≤ n
 ·by_cases h2 : n < 12
  ·have HF : Hid (partyB n = true) := Lib.hid (by unfold partyB; rw [decide_eq_true h1, decide_eq_true h2]; rfl)
   go_enter Tryz.func79, Tryz.ntmps79
   go_wp2
   go_ret
   exact ⟨by rw [HF.out]; rfl, rfl⟩
  ·have HF : Hid (partyB n = false) := Lib.hid (by unfold partyB; rw [decide_eq_false h2, Bool.and_false])
   go_enter Tryz.func79, Tryz.ntmps79
   go_wp2
   go_ret
   exact ⟨by rw [HF.out]; rfl, rfl⟩
 ·have HF : Hid (partyB n = false) := Lib.hid (by unfold partyB; rw [decide_eq_false h1]; rfl)
  go_enter Tryz.func79, Tryz.ntmps79
  go_wp2
  go_ret
  exact ⟨by rw [HF.out]; rfl, rfl⟩
set_option maxRecDepth 100000 in
theorem may_any (e : Ed) (w : World) : Calls Tryz.prog 41 #[e.v] w fun x w' => x = .returned (.bool (mayB e.f e.t e.c e.r)) ∧ Below w.heap.size w w' := by
 obtain ⟨f, t, c, r, p0, p1, p2, p3, p4⟩ := e
 simp only [Ed.v, Ed.cs]
 go_enter Tryz.func41, Tryz.ntmps41
 go_wp2_with (go_at_call 79; refine (party_any _ _).mono ?_; rintro e w' ⟨rfl, rfl⟩)
 all_goals go_ret
 all_goals (refine ⟨?_, (Below.refl _ _).alloc (Nat.le_refl _) _⟩)
 all_goals (refine congrArg (fun b => Ending.returned (.bool b)) ?_)
 all_goals (unfold mayB)
 all_goals (first | (simp [*]; done) | (simp [*]; omega))
end Go.Proofs.YthefgdehfgkhhaaGreat
namespace Go.Proofs.YthefgdehfgkhhaaGreat
open Go.RowKit
set_option linter.unusedVariables false
set_option linter.unusedSimpArgs false
def someB (e : Ed) (a : Int) : Bool := mayB e.f e.t e.c e.r && (decide (0 < a) && decide (a ≤ e.r))
set_option maxRecDepth 100000 in
theorem some_any (e : Ed) (a : Int) (w : World) : Calls Tryz.prog 71 #[e.v, .int .i64 a] w fun x w' => x = .returned (.bool (someB e a)) ∧ Below w.heap.size w w' := by
 obtain ⟨f, t, c, r, p0, p1, p2, p3, p4⟩ := e
 have hb0 : Below w.heap.size w (w.alloc (.cells (Ed.cs ⟨f, t, c, r, p0, p1, p2, p3, p4⟩) 56)) := (Below.refl _ _).alloc (Nat.le_refl _) _
 have hB0 : Blk (w.alloc (.cells (Ed.cs ⟨f, t, c, r, p0, p1, p2, p3, p4⟩) 56)) w.heap.size 56 (Ed.cs ⟨f, t, c, r, p0, p1, p2, p3, p4⟩) := Blk.new w _ _
 simp only [Ed.v, Ed.cs] at *
 go_enter Tryz.func71, Tryz.ntmps71
 go_wp2_with fail
 generalize w.alloc (.cells #[.int .i64 f, .int .i64 t, .int .i64 c, .int .i64 r, .int .i64 p0, .int .i64 p1, .int .i64 p2, .int .i64 p3, .int .i64 p4] 56) = w0 at *
 refine (may_any ⟨f, t, c, r, p0, p1, p2, p3, p4⟩ w0).mono ?_
 rintro e w1 ⟨rfl, hb⟩
 have hB1 := hB0.below hb hB0.lt
 have hb1 := hb0.trans (hb.mono hb0.size)
 have hc3 : w1.cell? ⟨w.heap.size, 3, none⟩ = some (.int .i64 r) := hB1.cell 3
 clear hb hb0 hB0 hB1
 simp only
 have HM : Hid (someB ⟨f, t, c, r, p0, p1, p2, p3, p4⟩ a = (mayB f t c r && (decide (0 < a) && decide (a ≤ r)))) := Lib.hid rfl
 cases hm : mayB f t c r with
 | false =>
  go_wp2_with fail
  go_ret
  exact ⟨by rw [HM.out, hm]; rfl, hb1⟩
 | true =>
  by_cases h1 : 0 < a
  ·by_cases h2 : a ≤ r
   ·go_wp2_with fail
    go_ret
    exact ⟨by rw [HM.out, hm, decide_eq_true h1, decide_eq_true h2]; rfl, hb1⟩
   ·go_wp2_with fail
    go_ret
    exact ⟨by rw [HM.out, hm, decide_eq_false (show ¬ a ≤ r by omega), Bool.and_false, Bool.and_false]; rfl, hb1⟩
  ·go_wp2_with fail
   go_ret
   exact ⟨by rw [HM.out, hm, decide_eq_false (show ¬ 0 < a by omega)]; rfl, hb1⟩
/-- A number divided upwards. -/
def upN (n d : Nat) : Nat := if 0 < n % d then n / d + 1 else n / d
/-- A way, as a value. -/
def wayV (f c : Int) : Value := .agg #[.int .i64 f, .int .i64 c]
theorem there_any (e : Ed) (w : World) : Calls Tryz.prog 57 #[e.v] w fun x w' => x = .returned (wayV e.f e.c) ∧ Below w.heap.size w w' := by
 obtain ⟨f, t, c, r, p0, p1, p2, p3, p4⟩ := e
 have hN := Blk.new (w.alloc (.cells (Ed.cs ⟨f, t, c, r, p0, p1, p2, p3, p4⟩) 56)) 125 #[.int .i64 f, .int .i64 c]
 rw [World.size_alloc] at hN
 simp only [Ed.v, Ed.cs] at *
 go_enter Tryz.func57, Tryz.ntmps57
 go_wp2_with fail
 refine bodyPost_ret (v := wayV f c) ?_ rfl ?_
 ·have e0 := hN.cell 0
  have e1 := hN.cell 1
  simp only [List.getElem?_toArray, List.getElem?_cons_zero, List.getElem?_cons_succ] at e0 e1
  simp [results, Tryz.f57, go_sem, e0, e1, wayV]
 ·exact ⟨rfl, ((Below.refl _ _).alloc (Nat.le_refl _) _).alloc (by simp) _⟩
theorem lback_any (e : Ed) (w : World) : Calls Tryz.prog 72 #[e.v] w fun x w' => x = .returned (wayV e.t e.c) ∧ Below w.heap.size w w' := by
 obtain ⟨f, t, c, r, p0, p1, p2, p3, p4⟩ := e
 have hN := Blk.new (w.alloc (.cells (Ed.cs ⟨f, t, c, r, p0, p1, p2, p3, p4⟩) 56)) 125 #[.int .i64 t, .int .i64 c]
 rw [World.size_alloc] at hN
 simp only [Ed.v, Ed.cs] at *
 go_enter Tryz.func72, Tryz.ntmps72
 go_wp2_with fail
 refine bodyPost_ret (v := wayV t c) ?_ rfl ?_
 ·have e0 := hN.cell 0
  have e1 := hN.cell 1
  simp only [List.getElem?_toArray, List.getElem?_cons_zero, List.getElem?_cons_succ] at e0 e1
  simp [results, Tryz.f72, go_sem, e0, e1, wayV]
 ·exact ⟨rfl, ((Below.refl _ _).alloc (Nat.le_refl _) _).alloc (by simp) _⟩
end Go.Proofs.YthefgdehfgkhhaaGreat
namespace Go.Proofs.YthefgdehfgkhhaaGreat
open Go.RowKit Go.Maps
set_option linter.unusedVariables false
set_option linter.unusedSimpArgs false
theorem laidOutM : laidOutB Tryz.prog = true := by kernel_rfl
theorem rowWay : (125 : TypeId) < Tryz.prog.types.size := of_decide_eq_true (by kernel_rfl)
theorem wideWay : (match Tryz.prog.underlying 125 with | some (.array _ _) | some (.struct _) => true | _ => false) = true := by kernel_rfl
set_option maxRecDepth 100000 in
theorem keyLawWay : WideMaps.KeyLaw Tryz.prog 125 := deep_law_laid laidOutM (m := 2) (by omega) rowWay (by kernel_rfl) wideWay
theorem lawWay : Keyed Tryz.prog 125 := Keyed.of_law keyLawWay
/-- How a way reads as a key. -/
def wayL (f c : Int) : Lit := .string (keyBytes [.int .i64 f, .int .i64 c])
def isI (z : Int) : Prop := -9223372036854775808 ≤ z ∧ z ≤ 9223372036854775807
theorem keyTypeWay : Tryz.prog.keyType 125 = true := by kernel_rfl
theorem cellsWay : Tryz.prog.cellsOf 125 = 2 := by kernel_rfl
theorem cellsInt : Tryz.prog.cellsOf 3 = 1 := by kernel_rfl
theorem wfI {z : Int} (h : isI z) : (Lit.int .i64 z).wf = true := by
 simp [Lit.wf, IntKind.min, IntKind.max, IntKind.signed, IntKind.bits]
 exact h
theorem keyLits_int (d : Nat) {z : Int} (h : isI z) : Tryz.prog.keyLits (d + 1) 3 [.int .i64 z] = some [.int .i64 z] := by
 have hw : (Lit.int .i64 z).wf = true := by
  simp [Lit.wf, IntKind.min, IntKind.max, IntKind.signed, IntKind.bits]
  exact h
 simp [Program.keyLits, Tryz.underlying3, hw]
theorem keyLits_way (d : Nat) {f c : Int} (hf : isI f) (hc : isI c) : Tryz.prog.keyLits (d + 2) 125 [.int .i64 f, .int .i64 c] = some [.int .i64 f, .int .i64 c] := by
 rw [show d + 2 = (d + 1) + 1 from rfl]
 simp [Program.keyLits, Tryz.underlying125, Tryz.underlying3, cellsWay, cellsInt, wfI hf, wfI hc]
set_option maxRecDepth 100000 in
theorem keyOf_way {f c : Int} (hf : isI f) (hc : isI c) : keyOf Tryz.prog 125 (wayV f c) = some (wayL f c) := by
 have hL := fun d => keyLits_way d hf hc
 have hfo : (wayV f c).formed Tryz.prog 125 = true := by
  simp [Value.formed, Tryz.underlying125, cellsWay, wayV]
 obtain ⟨d, hd⟩ : ∃ d, Tryz.prog.types.size = d + 1 := ⟨_, (Nat.succ_pred_eq_of_pos (Nat.lt_of_le_of_lt (Nat.zero_le _) rowWay)).symm⟩
 unfold keyOf
 rw [Tryz.underlying125, hd, keyTypeWay, hfo]
 show (if (true && true) = true then (Tryz.prog.keyLits (d + 2) 125 [.int .i64 f, .int .i64 c]).map _ else none) = _
 rw [hL d]
 rfl
/-- A note, as a value, and as it reads. -/
def noteV (a b r : Int) : Value := .agg #[.int .i64 a, .int .i64 b, .int .i64 r]
def noteD {H : Type} (a b r : Int) : DataW H := .agg [.lit (.int .i64 a), .lit (.int .i64 b), .lit (.int .i64 r)]
def noteElem {H : Type} : Value → Option (DataW H × List MemPlace)
 | .agg cs => match cs.toList with
  | [.int .i64 a, .int .i64 b, .int .i64 r] => some (noteD a b r, [])
  | _ => none
 | _ => none
theorem noteElem_mk {H : Type} (a b r : Int) : noteElem (H := H) (noteV a b r) = some (noteD a b r, []) := rfl
theorem noteElem_inv {H : Type} {v : Value} {z : DataW H × List MemPlace} (h : noteElem v = some z) : ∃ a b r, v = noteV a b r ∧ z = (noteD a b r, []) := by
 unfold noteElem at h
 split at h
 ·rename_i cs
  split at h
  ·rename_i a b r hcs
   refine ⟨a, b, r, ?_, (Option.some.inj h).symm⟩
   rw [noteV, ← hcs]
  ·cases h
 ·cases h
end Go.Proofs.YthefgdehfgkhhaaGreat
namespace Go.Proofs.YthefgdehfgkhhaaGreat
open Go.RowKit Go.Maps
set_option linter.unusedVariables false
set_option linter.unusedSimpArgs false
/-- The map that reads as D says what the list says. -/
structure Says (D : DataW Unit) (L : Notes) : Prop where
 key : ∀ e ∈ L, isI e.1.1 ∧ isI e.1.2 ∧ isI e.2.1 ∧ isI e.2.2.1 ∧ isI e.2.2.2
 once : L.Pairwise fun a b => a.1 ≠ b.1
 has : ∀ f c, isI f → isI c → Maps.has D (wayL f c) = (look L (f, c)).isSome
 at_ : ∀ f c a b r z, isI f → isI c → look L (f, c) = some (a, b, r) → D.atKey (wayL f c) z = noteD a b r
 size : Maps.size D = L.length
theorem Says.empty : Says (.map []) [] := ⟨by simp, List.Pairwise.nil, fun _ _ _ _ => rfl, fun _ _ _ _ _ _ _ _ h => by simp [look] at h, rfl⟩
/-- Block p holds a mind: the map b, which says L. -/
structure MindAt (w : World) (p b n : Nat) (L : Notes) : Prop where
 box : Blk w p 83 #[.map (some b)]
 own : ∃ D, w.ownsMap Tryz.prog 125 (noteElem (H := Unit)) b n D ∧ Says D L
 ne : p ≠ b
theorem lnew_any (w : World) : Calls Tryz.prog 8 #[] w fun e w' => ∃ p b, e = .returned (.pointer (some ⟨p, 0, none⟩)) ∧ MindAt w' p b 0 [] ∧ w.heap.size ≤ p ∧ w.heap.size ≤ b ∧ Below w.heap.size w w' := by
 have hmm := @run_makeMap Tryz.prog
 go_enter Tryz.func8, Tryz.ntmps8
 go_wp2
 go_ret
 refine ⟨w.heap.size + 1, w.heap.size, rfl, ⟨?_, ⟨_, (World.ownsMap_made w _ _ _).alloc _, Says.empty⟩, by omega⟩, by omega, Nat.le_refl _, ((Below.refl _ _).alloc (Nat.le_refl _) _).alloc (by simp) _⟩
 have := Blk.new (w.alloc (.map #[] 0)) 83 #[.map (some w.heap.size)]
 rw [World.size_alloc] at this
 exact this
end Go.Proofs.YthefgdehfgkhhaaGreat
namespace Go.Proofs.YthefgdehfgkhhaaGreat
open Go.RowKit Go.Maps
set_option linter.unusedVariables false
set_option linter.unusedSimpArgs false
/-- Two ways that read as one key are one. -/
theorem way_inj {f c f' c' : Int} (hf : isI f) (hc : isI c) (hf' : isI f') (hc' : isI c') (h : wayL f c = wayL f' c') : f = f' ∧ c = c' := by
 have h1 := lawWay.inj (keyOf_way hf hc) (by rw [h]; exact keyOf_way hf' hc')
 unfold wayV at h1
 injection h1 with h2
 injection h2 with h3
 injection h3 with h4 h5
 injection h5 with h6
 injection h4 with _ h7
 injection h6 with _ h8
 exact ⟨h7, h8⟩
end Go.Proofs.YthefgdehfgkhhaaGreat
namespace Go.Proofs.YthefgdehfgkhhaaGreat
open Go.RowKit Go.Maps
set_option linter.unusedVariables false
set_option linter.unusedSimpArgs false
theorem Says.put {D : DataW Unit} {L : Notes} (h : Says D L) (ht : Maps.Tidy D) {f c a b r : Int} (hf : isI f) (hc : isI c) (ha : isI a) (hb : isI b) (hr : isI r) : Says (D.put (wayL f c) (noteD a b r)) (putL L (f, c) (a, b, r)) := by
 have hk : WideAt.IsKeyLit (wayL f c) := lawWay.key (keyOf_way hf hc)
 refine ⟨fun e he => ?_, once_put h.once _ _, fun f' c' hf' hc' => ?_, fun f' c' a' b' r' z hf' hc' hl => ?_, ?_⟩
 ·rcases mem_put he with h1 | h1
  ·exact h.key e h1
  ·subst h1; exact ⟨hf, hc, ha, hb, hr⟩
 ·rw [look_put]
  by_cases e : (f', c') = (f, c)
  ·injection e with e1 e2
   subst e1 e2
   rw [if_pos rfl, Maps.has_put_same ht.isMap hk]; rfl
  ·rw [if_neg e, Maps.has_put_other (fun hw => e (by obtain ⟨h1, h2⟩ := way_inj hf' hc' hf hc hw; rw [h1, h2])), h.has f' c' hf' hc']
 ·rw [look_put] at hl
  by_cases e : (f', c') = (f, c)
  ·rw [if_pos e] at hl
   injection e with e1 e2
   subst e1 e2
   injection hl with hl
   injection hl with h1 h2
   injection h2 with h2 h3
   subst h1 h2 h3
   exact Maps.atKey_put_same ht.isMap hk _ _
  ·rw [if_neg e] at hl
   rw [Maps.atKey_put_other (fun hw => e (by obtain ⟨h1, h2⟩ := way_inj hf' hc' hf hc hw; rw [h1, h2]))]
   exact h.at_ f' c' a' b' r' z hf' hc' hl
 ·rw [Maps.size_put ht, length_put, h.has f c hf hc, h.size]
end Go.Proofs.YthefgdehfgkhhaaGreat
namespace Go.Proofs.YthefgdehfgkhhaaGreat
open Go.RowKit Go.Maps
set_option linter.unusedVariables false
set_option linter.unusedSimpArgs false
theorem Says.del {D : DataW Unit} {L : Notes} (h : Says D L) (ht : Maps.Tidy D) {f c : Int} (hf : isI f) (hc : isI c) : Says (D.del (wayL f c)) (delL L (f, c)) := by
 refine ⟨fun e he => h.key e (List.mem_filter.1 he).1, h.once.filter _, fun f' c' hf' hc' => ?_, fun f' c' a' b' r' z hf' hc' hl => ?_, ?_⟩
 ·rw [look_del]
  by_cases e : (f', c') = (f, c)
  ·injection e with e1 e2
   subst e1 e2
   rw [if_pos rfl, Maps.has_del_same]; rfl
  ·rw [if_neg e, Maps.has_del_other (fun hw => e (by obtain ⟨h1, h2⟩ := way_inj hf' hc' hf hc hw; rw [h1, h2])), h.has f' c' hf' hc']
 ·rw [look_del] at hl
  by_cases e : (f', c') = (f, c)
  ·rw [if_pos e] at hl; cases hl
  ·rw [if_neg e] at hl
   rw [Maps.atKey_del_other (fun hw => e (by obtain ⟨h1, h2⟩ := way_inj hf' hc' hf hc hw; rw [h1, h2]))]
   exact h.at_ f' c' a' b' r' z hf' hc' hl
 ·have h1 := Maps.size_del (k := wayL f c) ht
  have h2 := once_len h.once (f, c)
  rw [h.has f c hf hc, h.size] at h1
  omega
end Go.Proofs.YthefgdehfgkhhaaGreat
namespace Go.Proofs.YthefgdehfgkhhaaGreat
set_option linter.unusedVariables false
set_option linter.unusedSimpArgs false
def cnt1 (v : Int × Int × Int) (r : Int) : Int × Int := (min v.1 r, max (min v.2.1 (r + 1)) (min v.1 r + 1))
theorem cnt_eq (L : Notes) (k : Int × Int) (r : Int) : cnt L k r = match look L k with | none => (0, r + 1) | some v => cnt1 v r := by
 unfold cnt cnt1
 cases look L k <;> rfl
theorem cnt_put (L : Notes) (k k' : Int × Int) (v : Int × Int × Int) (r : Int) : cnt (putL L k v) k' r = if k' = k then cnt1 v r else cnt L k' r := by
 rw [cnt_eq, look_put]
 by_cases h : k' = k
 ·rw [if_pos h, if_pos h]
 ·rw [if_neg h, if_neg h, cnt_eq]
theorem look_old {L : Notes} (h : L.Pairwise fun a b => a.1 ≠ b.1) (p : Int) (k : Int × Int) : look (oldL L p) k = if p < 1 then look L k else (look L k).bind fun v => if gone (fade p v) then none else some (fade p v) := by
 unfold oldL
 by_cases hp : p < 1
 ·rw [if_pos hp, if_pos hp]
 ·rw [if_neg hp, if_neg hp]
  induction L with
  | nil => rfl
  | cons e L ih =>
   rw [List.pairwise_cons] at h
   rw [List.filterMap_cons, look_cons]
   by_cases hk : e.1 = k
   ·rw [if_pos hk]
    simp only [older1, Option.bind_some]
    by_cases hg : gone (fade p e.2) = true
    ·rw [if_pos hg, if_pos hg]
     simp only
     rw [ih h.2]
     have hn : look L k = none := by
      cases hl : look L k with
      | none => rfl
      | some v => exact absurd hk (fun e2 => h.1 _ (look_some hl) (by rw [e2]))
     rw [hn]; rfl
    ·rw [if_neg hg, if_neg hg]
     simp only
     rw [look_cons, if_pos hk]
   ·rw [if_neg hk, ← ih h.2]
    simp only [older1]
    by_cases hg : gone (fade p e.2) = true
    ·rw [if_pos hg]
    ·rw [if_neg hg]
     simp only
     rw [look_cons, if_neg hk]
theorem cnt_old {L : Notes} (h : Good L) (p : Int) (k : Int × Int) {r : Int} (hr : 0 < r) : (cnt (oldL L p) k r).1 ≤ (cnt L k r).1 ∧ (cnt L k r).2 ≤ (cnt (oldL L p) k r).2 := by
 rw [cnt_eq, cnt_eq, look_old h.once]
 by_cases hp : p < 1
 ·rw [if_pos hp]; exact ⟨Int.le_refl _, Int.le_refl _⟩
 ·rw [if_neg hp]
  cases hl : look L k with
  | none => exact ⟨Int.le_refl _, Int.le_refl _⟩
  | some v =>
   have hv : noteOk v := (h.ok _ (look_some hl)).2
   have hf := fade_ok hv (show 0 < p by omega)
   have h1 := upI_bd hv.1 (show 0 < p by omega)
   have h2 := upI_bd (show 0 ≤ v.2.2 + 1 - v.2.1 by simp only [noteOk] at hv; omega) (show 0 < p by omega)
   simp only [Option.bind_some]
   by_cases hg : gone (fade p v) = true
   ·rw [if_pos hg]
    simp only [cnt1]
    simp only [noteOk] at hv
    omega
   ·rw [if_neg hg]
    simp only [cnt1, fade]
    simp only [noteOk, fade] at hv hf
    omega
theorem old_one {L : Notes} (h : Good L) : oldL L 1 = [] := by
 unfold oldL
 rw [if_neg (by decide), List.filterMap_eq_nil_iff]
 intro e he
 have hv := (h.ok e he).2
 simp only [noteOk] at hv
 simp only [older1]
 rw [if_pos]
 simp only [gone, fade, upI_one, Bool.and_eq_true, decide_eq_true_eq]
 omega
theorem length_old (L : Notes) (p : Int) : (oldL L p).length ≤ L.length := by
 unfold oldL
 split
 ·exact Nat.le_refl _
 ·exact List.length_filterMap_le _ _
theorem old_none {L : Notes} {p : Int} (hp : p < 1) : oldL L p = L := if_pos hp
/-! The acts of a law. -/
structure Ac where
 d : Int
 e : E4
 x : Int
def doL (L : Notes) (a : Ac) : Notes := if a.d = 1 then failL L a.e a.x else if a.d = 2 then passL L a.e a.x else if a.d = 3 then moveL L a.e a.x else oldL L a.x
theorem Good.do_ {L : Notes} (h : Good L) (a : Ac) : Good (doL L a) := by
 unfold doL
 split
 ·exact h.fail _ _
 ·split
  ·exact h.pass _ _
  ·split
   ·exact h.move _ _
   ·exact h.old _
theorem Good.fold {L : Notes} (h : Good L) (l : List Ac) : Good (l.foldl doL L) := by
 induction l generalizing L with
 | nil => exact h
 | cons a l ih => exact ih (h.do_ a)
theorem do_len (L : Notes) (a : Ac) : (doL L a).length ≤ L.length + 2 := by
 have hp : ∀ (L : Notes) k v, (putL L k v).length ≤ L.length + 1 := fun L k v => by rw [length_put]; split <;> omega
 unfold doL failL passL moveL
 split
 ·split
  ·have := hp L (a.e.f, a.e.c) (min (cnt L (a.e.f, a.e.c) a.e.r).1 (a.x - 1), min (cnt L (a.e.f, a.e.c) a.e.r).2 a.x, a.e.r); omega
  ·omega
 ·split
  ·split
   ·have := hp L (a.e.f, a.e.c) (max (cnt L (a.e.f, a.e.c) a.e.r).1 a.x, max (cnt L (a.e.f, a.e.c) a.e.r).2 (a.x + 1), a.e.r); omega
   ·omega
  ·split
   ·split
    ·refine Nat.le_trans (hp _ _ _) (Nat.succ_le_succ (hp _ _ _))
    ·omega
   ·have := length_old L a.x; omega
theorem fold_len (L : Notes) (l : List Ac) : (l.foldl doL L).length ≤ L.length + 2 * l.length := by
 induction l generalizing L with
 | nil => simp
 | cons a l ih =>
  rw [List.foldl_cons, List.length_cons]
  have := ih (doL L a)
  have := do_len L a
  omega
/-! The odds of an amount: above, and below. -/
def oddN (L : Notes) (e : E4) (x : Int) : Int := (cnt L (e.f, e.c) e.r).2 - min (max x (cnt L (e.f, e.c) e.r).1) (cnt L (e.f, e.c) e.r).2
def oddD (L : Notes) (e : E4) : Int := (cnt L (e.f, e.c) e.r).2 - (cnt L (e.f, e.c) e.r).1
def oddOk (e : E4) (x : Int) : Bool := e.ok && (decide (0 ≤ x) && decide (x ≤ e.r))
theorem odd_bd {L : Notes} (h : Good L) {e : E4} {x : Int} (he : 0 < e.r) : 0 ≤ oddN L e x ∧ oddN L e x ≤ oddD L e ∧ 0 < oddD L e ∧ oddD L e ≤ e.r + 1 := by
 have := cnt_ok h (e.f, e.c) he
 unfold oddN oddD
 omega
theorem odd_ref (L : Notes) (e : E4) (x : Int) (h : Good L) (he : 0 < e.r) : (cnt L (e.f, e.c) e.r).2 - max (cnt L (e.f, e.c) e.r).1 (min x (cnt L (e.f, e.c) e.r).2) = oddN L e x := by
 have := cnt_ok h (e.f, e.c) he
 unfold oddN
 omega
theorem may_spec {e : E4} {x : Int} : e.may x = true ↔ ((0 ≤ e.f ∧ e.f < 12) ∧ (0 ≤ e.t ∧ e.t < 12) ∧ e.f ≠ e.t ∧ (0 ≤ e.c ∧ e.c < 1048576) ∧ 0 < e.r ∧ e.r ≤ 1125899906842624) ∧ 0 < x ∧ x ≤ e.r := by
 simp only [E4.may, E4.ok, Bool.and_eq_true, decide_eq_true_eq, mayB_iff]
theorem oddOk_spec {e : E4} {x : Int} : oddOk e x = true ↔ ((0 ≤ e.f ∧ e.f < 12) ∧ (0 ≤ e.t ∧ e.t < 12) ∧ e.f ≠ e.t ∧ (0 ≤ e.c ∧ e.c < 1048576) ∧ 0 < e.r ∧ e.r ≤ 1125899906842624) ∧ 0 ≤ x ∧ x ≤ e.r := by
 simp only [oddOk, E4.ok, Bool.and_eq_true, decide_eq_true_eq, mayB_iff]
theorem cnt_fail {L : Notes} {e : E4} {x : Int} (h : Good L) (hm : e.may x = true) (k : Int × Int) (r : Int) (hk : k ≠ (e.f, e.c)) : cnt (failL L e x) k r = cnt L k r := by
 unfold failL; rw [if_pos hm, cnt_put, if_neg hk]
theorem cnt_pass {L : Notes} {e : E4} {x : Int} (h : Good L) (hm : e.may x = true) (k : Int × Int) (r : Int) (hk : k ≠ (e.f, e.c)) : cnt (passL L e x) k r = cnt L k r := by
 unfold passL; rw [if_pos hm, cnt_put, if_neg hk]
theorem cnt_fail_self {L : Notes} {e : E4} {x : Int} (h : Good L) (hm : e.may x = true) : cnt (failL L e x) (e.f, e.c) e.r = (min (cnt L (e.f, e.c) e.r).1 (x - 1), min (cnt L (e.f, e.c) e.r).2 x) := by
 have hs := may_spec.1 hm
 have hc := cnt_ok h (e.f, e.c) hs.1.2.2.2.2.1
 unfold failL
 rw [if_pos hm, cnt_put, if_pos rfl]
 simp only [cnt1, Prod.mk.injEq]
 omega
theorem cnt_pass_self {L : Notes} {e : E4} {x : Int} (h : Good L) (hm : e.may x = true) : cnt (passL L e x) (e.f, e.c) e.r = (max (cnt L (e.f, e.c) e.r).1 x, max (cnt L (e.f, e.c) e.r).2 (x + 1)) := by
 have hs := may_spec.1 hm
 have hc := cnt_ok h (e.f, e.c) hs.1.2.2.2.2.1
 unfold passL
 rw [if_pos hm, cnt_put, if_pos rfl]
 simp only [cnt1, Prod.mk.injEq]
 omega
/-- What failed has no odds. -/
theorem fail_odds {L : Notes} {e : E4} {x : Int} (h : Good L) (hm : e.may x = true) : oddN (failL L e x) e x = 0 := by
 have hs := may_spec.1 hm
 have hc := cnt_ok h (e.f, e.c) hs.1.2.2.2.2.1
 unfold oddN
 rw [cnt_fail_self h hm]
 simp only
 omega
/-- What passed has all. -/
theorem pass_odds {L : Notes} {e : E4} {x : Int} (h : Good L) (hm : e.may x = true) : oddN (passL L e x) e x = oddD (passL L e x) e := by
 have hs := may_spec.1 hm
 have hc := cnt_ok h (e.f, e.c) hs.1.2.2.2.2.1
 unfold oddN oddD
 rw [cnt_pass_self h hm]
 simp only
 omega
theorem nought_odds {L : Notes} {e : E4} (h : Good L) (he : 0 < e.r) : oddN L e 0 = oddD L e := by
 have hc := cnt_ok h (e.f, e.c) he
 unfold oddN oddD
 omega
/-- The odds of more are those of less, times what they are once that has passed. -/
theorem chain {L : Notes} {e : E4} {a b : Int} (h : Good L) (ha : oddOk e a = true) (hb : oddOk e b = true) (hab : a ≤ b) :
 oddN L e a * oddN (passL L e a) e b * oddD L e = oddN L e b * (oddD L e * oddD (passL L e a) e) ∧ oddN L e b ≤ oddN L e a ∧ oddN (passL L e a) e a = oddD (passL L e a) e := by
 have hs := oddOk_spec.1 ha
 have hs2 := oddOk_spec.1 hb
 have hr := hs.1.2.2.2.2.1
 have hc := cnt_ok h (e.f, e.c) hr
 by_cases h0 : a = 0
 ·subst h0
  have hp : passL L e 0 = L := by
   unfold passL
   rw [if_neg]
   intro hh
   have := (may_spec.1 hh).2.1
   omega
  rw [hp, nought_odds h hr]
  refine ⟨by rw [Int.mul_comm (oddD L e) (oddN L e b), Int.mul_assoc], ?_, rfl⟩
  exact (odd_bd h hr).2.1
 ·have hm : e.may a = true := may_spec.2 ⟨hs.1, by omega, hs.2.2⟩
  refine ⟨?_, ?_, pass_odds h hm⟩
  ·by_cases h1 : a < (cnt L (e.f, e.c) e.r).2
   ·have e1 : oddN (passL L e a) e b = oddN L e b := by
     unfold oddN; rw [cnt_pass_self h hm]; simp only; omega
    have e2 : oddD (passL L e a) e = oddN L e a := by
     unfold oddN oddD; rw [cnt_pass_self h hm]; simp only; omega
    rw [e1, e2, Int.mul_comm (oddN L e a) (oddN L e b), Int.mul_assoc, Int.mul_comm (oddN L e a) (oddD L e)]
   ·have e1 : oddN L e a = 0 := by unfold oddN; omega
    have e2 : oddN L e b = 0 := by unfold oddN; omega
    rw [e1, e2]; simp
  ·unfold oddN; omega
/-! What is noted is true, if what was told was. -/
def eT (room : Int) : E4 := ⟨1, 2, 3, room⟩
def bT (room : Int) : E4 := ⟨2, 1, 3, room⟩
/-- A round: what is noted, and how much lies on the first side. -/
def trueS (room : Int) (s : Notes × Int) (a : Int × Int) : Notes × Int :=
 if a.1 = 1 ∨ a.1 = 2 then (if a.2 ≤ s.2 then passL s.1 (eT room) a.2 else failL s.1 (eT room) a.2, s.2)
 else if a.1 = 3 then (if 1 ≤ a.2 ∧ a.2 ≤ s.2 then (moveL s.1 (eT room) a.2, s.2 - a.2) else s)
 else if a.1 = 4 then (if 1 ≤ a.2 ∧ a.2 ≤ room - s.2 then (moveL s.1 (bT room) a.2, s.2 + a.2) else s)
 else (oldL s.1 a.2, s.2)
structure TrueI (room : Int) (s : Notes × Int) : Prop where
 good : Good s.1
 has0 : 0 ≤ s.2
 has1 : s.2 ≤ room
 fwd : (cnt s.1 (1, 3) room).1 ≤ s.2 ∧ s.2 < (cnt s.1 (1, 3) room).2
 bck : (cnt s.1 (2, 3) room).1 ≤ room - s.2 ∧ room - s.2 < (cnt s.1 (2, 3) room).2
theorem TrueI.start {room has : Int} (h0 : 0 ≤ has) (h1 : has ≤ room) : TrueI room ([], has) :=
 ⟨Good.nil, h0, h1, by simp only [cnt, look, List.find?_nil, Option.map_none]; omega, by simp only [cnt, look, List.find?_nil, Option.map_none]; omega⟩
theorem TrueI.step {room : Int} {s : Notes × Int} (h : TrueI room s) (hr : 0 < room) (hr2 : room ≤ 1125899906842624) (a : Int × Int) : TrueI room (trueS room s a) := by
 obtain ⟨L, has⟩ := s
 obtain ⟨d, x⟩ := a
 obtain ⟨hg, h0, h1, hf, hb⟩ := h
 simp only at *
 have hc := cnt_ok hg (1, 3) hr
 have hd := cnt_ok hg (2, 3) hr
 have hne : ((2, 3) : Int × Int) ≠ ((eT room).f, (eT room).c) := by simp [eT]
 have q1 : ((1, 3) : Int × Int) = ((eT room).f, (eT room).c) := rfl
 have q2 : ((2, 3) : Int × Int) = ((eT room).t, (eT room).c) := rfl
 have q3 : ((2, 3) : Int × Int) = ((bT room).f, (bT room).c) := rfl
 have q4 : ((1, 3) : Int × Int) = ((bT room).t, (bT room).c) := rfl
 unfold trueS
 simp only
 by_cases c1 : d = 1 ∨ d = 2
 ·rw [if_pos c1]
  by_cases c2 : x ≤ has
  ·rw [if_pos c2]
   by_cases hm : (eT room).may x = true
   ·have hx := (may_spec.1 hm).2
    have e1 : cnt (passL L (eT room) x) (1, 3) room = _ := cnt_pass_self hg hm
    refine ⟨hg.pass _ _, h0, h1, ?_, ?_⟩
    ·rw [e1]; simp only [eT]; omega
    ·show (cnt (passL L (eT room) x) (2, 3) room).1 ≤ _ ∧ _
     rw [cnt_pass hg hm _ _ hne]; exact hb
   ·have e1 : passL L (eT room) x = L := by unfold passL; rw [if_neg hm]
    rw [e1]; exact ⟨hg, h0, h1, hf, hb⟩
  ·rw [if_neg c2]
   by_cases hm : (eT room).may x = true
   ·have hx := (may_spec.1 hm).2
    have e1 : cnt (failL L (eT room) x) (1, 3) room = _ := cnt_fail_self hg hm
    refine ⟨hg.fail _ _, h0, h1, ?_, ?_⟩
    ·rw [e1]; simp only [eT]; omega
    ·show (cnt (failL L (eT room) x) (2, 3) room).1 ≤ _ ∧ _
     rw [cnt_fail hg hm _ _ hne]; exact hb
   ·have e1 : failL L (eT room) x = L := by unfold failL; rw [if_neg hm]
    rw [e1]; exact ⟨hg, h0, h1, hf, hb⟩
 ·rw [if_neg c1]
  by_cases c3 : d = 3
  ·rw [if_pos c3]
   by_cases c4 : 1 ≤ x ∧ x ≤ has
   ·rw [if_pos c4]
    have hm : (eT room).may x = true := may_spec.2 (by simp only [eT]; omega)
    refine ⟨hg.move _ _, by simp only; omega, by simp only; omega, ?_, ?_⟩
    ·unfold moveL
     rw [if_pos hm, cnt_put, if_neg (by simp [eT]), cnt_put, if_pos q1]
     simp only [eT, cnt1]
     omega
    ·unfold moveL
     rw [if_pos hm, cnt_put, if_pos q2]
     simp only [eT, cnt1]
     omega
   ·rw [if_neg c4]; exact ⟨hg, h0, h1, hf, hb⟩
  ·rw [if_neg c3]
   by_cases c5 : d = 4
   ·rw [if_pos c5]
    by_cases c4 : 1 ≤ x ∧ x ≤ room - has
    ·rw [if_pos c4]
     have hm : (bT room).may x = true := may_spec.2 (by simp only [bT]; omega)
     refine ⟨hg.move _ _, by simp only; omega, by simp only; omega, ?_, ?_⟩
     ·unfold moveL
      rw [if_pos hm, cnt_put, if_pos q4]
      simp only [bT, cnt1]
      omega
     ·unfold moveL
      rw [if_pos hm, cnt_put, if_neg (by simp [bT]), cnt_put, if_pos q3]
      simp only [bT, cnt1]
      omega
    ·rw [if_neg c4]; exact ⟨hg, h0, h1, hf, hb⟩
   ·rw [if_neg c5]
    have h2 := cnt_old hg x (1, 3) hr
    have h3 := cnt_old hg x (2, 3) hr
    exact ⟨hg.old _, h0, h1, by simp only; omega, by simp only; omega⟩
theorem TrueI.odds {room : Int} {s : Notes × Int} (h : TrueI room s) : oddN s.1 (eT room) s.2 ≠ 0 := by
 have hf := h.fwd
 simp only [oddN, eT]
 omega
end Go.Proofs.YthefgdehfgkhhaaGreat
