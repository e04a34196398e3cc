/-
  Acts, as they lie in memory.
-/
import Derived.Test.YtdobpicamibgpaaLsmall
namespace Go.Proofs.Ytdobpicamibgpaa
open Go.RowKit Go.Maps Go.Shelf
set_option linter.unusedVariables false
set_option linter.unusedSimpArgs false

/-- A slice of acts that reads as a list. -/
structure Acts (w : World) (B : Nat) (A : Option Addr) (n : Nat) (l : List Av) : Prop where
  len : l.length = n
  small : n ≤ 140737488355328
  at_ : 0 < n → ∃ b off, A = some ⟨b, off, none⟩ ∧ b < B ∧ ∀ k a, l[k]? = some a → ∀ i v, a.cs[i]? = some v → w.cell? ⟨b, off + k * 11 + i, none⟩ = some v

theorem Acts.on {w w' : World} {B : Nat} {A : Option Addr} {n : Nat} {l : List Av} (h : Acts w B A n l) (hb : Below B w w') : Acts w' B A n l :=
  ⟨h.len, h.small, fun h0 => by
    obtain ⟨b, off, e, hlt, hc⟩ := h.at_ h0
    exact ⟨b, off, e, hlt, fun k a hk i v hv => (hb.cell (p := ⟨b, _, none⟩) hlt).trans (hc k a hk i v hv)⟩⟩

def acs (l : List Av) : List Ac := l.map Av.ac
theorem acs_take (l : List Av) (k : Nat) (a : Av) (h : l[k]? = some a) : (acs (l.take (k + 1))).foldl doL [] = doL ((acs (l.take k)).foldl doL []) a.ac := by
  unfold acs
  rw [List.take_add_one, h]
  simp

/-- All acts of a list. -/
def Fa (l : List Av) : Notes := (acs l).foldl doL []
theorem Fa_good (l : List Av) : Good (Fa l) := Good.nil.fold _
theorem Fa_step (l : List Av) (k : Nat) (a : Av) (h : l[k]? = some a) : Fa (l.take (k + 1)) = doL (Fa (l.take k)) a.ac := acs_take l k a h

theorem odds_all (w : World) (p b n : Nat) (L : Notes) (h : MindAt w p b n L) (hgd : Good L) (e : Ed) (x : Int) (v : Bool) (hok : oddOk e.e4 x = v) : Calls Try.prog 23 #[.pointer (some ⟨p, 0, none⟩), e.v, .int .i64 x] w fun y w' =>
    ∃ A n c B m d, y = .returned (.tuple #[.agg #[.slice A n c, .slice B m d], .bool v]) ∧ Rd w' w'.heap.size A n c (oddA L e.e4 x) ∧ Rd w' w'.heap.size B m d (oddB L e.e4 x) ∧ Below w.heap.size w w' := by
  subst hok
  exact odds_any w p b n L h hgd e x

theorem oddA_ok {L : Notes} {e : E4} {x : Int} (h : oddOk e x = true) : oddA L e x = digs (oN L e x / Nat.gcd (oN L e x) (oD L e)) := if_pos h
theorem oddB_ok {L : Notes} {e : E4} {x : Int} (h : oddOk e x = true) : oddB L e x = digs (oD L e / Nat.gcd (oN L e x) (oD L e)) := if_pos h

theorem chain_nat {L : Notes} (h : Good L) {e : E4} {a b : Int} (ha : oddOk e a = true) (hb : oddOk e b = true) (hab : a ≤ b) :
    oN L e a * oN (passL L e a) e b * oD L e = oN L e b * (oD L e * oD (passL L e a) e) ∧ oN L e b ≤ oN L e a ∧ oN (passL L e a) e a = oD (passL L e a) e := by
  have hs := (oddOk_spec.1 ha).1.2.2.2.2.1
  obtain ⟨h1, h2, h3⟩ := chain h ha hb hab
  have b1 := odd_bd h (x := a) hs
  have b2 := odd_bd h (x := b) hs
  have b3 := odd_bd (h.pass e a) (x := b) hs
  have b4 := odd_bd (h.pass e a) (x := a) hs
  unfold oN oD
  obtain ⟨n1, e1⟩ := Int.eq_ofNat_of_zero_le b1.1
  obtain ⟨n2, e2⟩ := Int.eq_ofNat_of_zero_le b2.1
  obtain ⟨n3, e3⟩ := Int.eq_ofNat_of_zero_le b3.1
  obtain ⟨n4, e4⟩ := Int.eq_ofNat_of_zero_le b4.1
  obtain ⟨d1, f1⟩ := Int.eq_ofNat_of_zero_le (Int.le_of_lt b1.2.2.1)
  obtain ⟨d2, f2⟩ := Int.eq_ofNat_of_zero_le (Int.le_of_lt b3.2.2.1)
  rw [e1, e2, e3, f1, f2] at h1
  rw [e1, e2] at h2
  rw [e4, f2] at h3
  rw [e1, e2, e3, e4, f1, f2]
  clear e1 e2 e3 e4 f1 f2 b1 b2 b3 b4
  simp only [Int.ofNat_eq_natCast, Int.toNat_natCast] at *
  refine ⟨?_, by omega, by omega⟩
  have : ((n1 * n3 * d1 : Nat) : Int) = ((n2 * (d1 * d2) : Nat) : Int) := by push_cast; exact h1
  exact Int.ofNat.inj this

/-- The product of two fractions in lowest terms is a third, if it is so of what they were told of. -/
theorem prod_low {N1 D1 N2 D2 N3 D3 : Nat} (h1 : 0 < D1) (h2 : 0 < D2) (h3 : 0 < D3) (h : N1 * N2 * D3 = N3 * (D1 * D2)) :
    (N1 / Nat.gcd N1 D1) * (N2 / Nat.gcd N2 D2) * D3 = N3 * ((D1 / Nat.gcd N1 D1) * (D2 / Nat.gcd N2 D2)) := by
  have a1 : N1 = Nat.gcd N1 D1 * (N1 / Nat.gcd N1 D1) := (Nat.mul_div_cancel' (Nat.gcd_dvd_left _ _)).symm
  have a2 : D1 = Nat.gcd N1 D1 * (D1 / Nat.gcd N1 D1) := (Nat.mul_div_cancel' (Nat.gcd_dvd_right _ _)).symm
  have a3 : N2 = Nat.gcd N2 D2 * (N2 / Nat.gcd N2 D2) := (Nat.mul_div_cancel' (Nat.gcd_dvd_left _ _)).symm
  have a4 : D2 = Nat.gcd N2 D2 * (D2 / Nat.gcd N2 D2) := (Nat.mul_div_cancel' (Nat.gcd_dvd_right _ _)).symm
  have g1 := gcd_pos_of (N := N1) h1
  have g2 := gcd_pos_of (N := N2) h2
  generalize Nat.gcd N1 D1 = g at *
  generalize Nat.gcd N2 D2 = k at *
  generalize N1 / g = x1 at *
  generalize D1 / g = y1 at *
  generalize N2 / k = x2 at *
  generalize D2 / k = y2 at *
  subst a1 a2 a3 a4
  have hp : 0 < g * k := Nat.mul_pos g1 g2
  refine Nat.eq_of_mul_eq_mul_left hp ?_
  grind

theorem div_pos_low {N D : Nat} (hD : 0 < D) : 0 < D / Nat.gcd N D := Nat.div_pos (Nat.le_of_dvd hD (Nat.gcd_dvd_right _ _)) (gcd_pos_of hD)

end Go.Proofs.Ytdobpicamibgpaa
