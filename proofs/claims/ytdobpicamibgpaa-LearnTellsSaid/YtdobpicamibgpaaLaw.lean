/-
  What the laws' walks lean on: what stays while a mind is written; odds that are told, and that are not.
-/
import Derived.Test.YtdobpicamibgpaaDone
import Derived.Test.YtdobpicamibgpaaNote3
namespace Go.Proofs.Ytdobpicamibgpaa
open Go.RowKit Go.Maps Go.Shelf
set_option linter.unusedVariables false
set_option linter.unusedSimpArgs false

section
variable {w w' : World} {p b n : Nat} {L : Notes}
theorem MindAt.isMap (h : MindAt w p b n L) : ∃ es clock, w.heap[b]? = some (.map es clock) := by
  obtain ⟨D, ⟨es, clock, hb, _⟩, _⟩ := h.own
  exact ⟨es, clock, hb⟩
theorem MindAt.cell_ne (h : MindAt w p b n L) {g off : Nat} {v : Value} (hc : w.cell? ⟨g, off, none⟩ = some v) : g ≠ b := by
  obtain ⟨es, clock, hb⟩ := h.isMap
  intro e
  subst e
  simp [World.cell?, hb] at hc
theorem Blk.grownM {g : Nat} {t : TypeId} {cs : Array Value} (h : Blk w g t cs) (hM : MindAt w p b n L) (hg : w.grownBy w' (some b)) : Blk w' g t cs := by
  refine h.grown hg (fun e => ?_)
  obtain ⟨es, clock, hb⟩ := hM.isMap
  rw [← e, h] at hb
  cases hb
theorem Rd.grownM {A : Option Addr} {n' c : Nat} {l : List Nat} (h : Rd w w.heap.size A n' c l) (hM : MindAt w p b n L) (hg : w.grownBy w' (some b)) : Rd w' w'.heap.size A n' c l := by
  refine ⟨h.len, h.cap, h.dig, fun h0 => ?_⟩
  obtain ⟨g, off, e, hlt, hc⟩ := h.at_ h0
  refine ⟨g, off, e, Nat.lt_of_lt_of_le hlt hg.size, fun k hk => ?_⟩
  have h1 := hc k hk
  have hne := hM.cell_ne h1
  exact (World.cell?_of_block (hg.block g hlt (fun e => hne (by injection e)))).trans h1
theorem MindAt.grownM {p2 b2 n2 : Nat} {L2 : Notes} (h : MindAt w p2 b2 n2 L2) (hM : MindAt w p b n L) (hg : w.grownBy w' (some b)) (hne : b2 ≠ b) : MindAt w' p2 b2 n2 L2 :=
  ⟨h.box.grownM hM hg, by obtain ⟨D, h1, h2⟩ := h.own; exact ⟨D, own_at h1 (hg.block b2 h1.lt (fun e => hne (by injection e))), h2⟩, h.ne⟩
theorem Below.grownM {B : Nat} {a : World} (h : Below B a w) (hg : w.grownBy w' (some b)) (hB : B ≤ w.heap.size) (hb : B ≤ b) : Below B a w' :=
  h.grown hg hB (fun k hk => by injection hk with hk; omega)
end

theorem odd_small {L : Notes} (h : Good L) {e : E4} {x : Int} (hok : oddOk e x = true) : oN L e x ≤ oD L e ∧ 0 < oD L e ∧ oD L e ≤ 1125899906842625 := by
  have hs := oddOk_spec.1 hok
  have := odd_bd h (x := x) hs.1.2.2.2.2.1
  unfold oN oD
  omega

theorem rd_two {w : World} {B : Nat} {A : Option Addr} {n c x : Nat} (h : Rd w B A n c (digs x)) (hx : x ≤ 1125899906842625) : n ≤ 2 := rd_le h (Nat.lt_of_le_of_lt hx (by decide))

/-- The odds are told. -/
theorem odds_ok (w : World) (p b n : Nat) (L : Notes) (h : MindAt w p b n L) (hgd : Good L) (e : Ed) (x : Int) (hok : oddOk e.e4 x = true) : Calls Try.prog 23 #[.pointer (some ⟨p, 0, none⟩), e.v, .int .i64 x] w fun y w' =>
    ∃ A n c B m d, y = .returned (.tuple #[.agg #[.slice A n c, .slice B m d], .bool true]) ∧ Rd w' w'.heap.size A n c (digs (oN L e.e4 x / Nat.gcd (oN L e.e4 x) (oD L e.e4))) ∧ Rd w' w'.heap.size B m d (digs (oD L e.e4 / Nat.gcd (oN L e.e4 x) (oD L e.e4))) ∧ (n ≤ 2 ∧ m ≤ 2) ∧ Below w.heap.size w w' := by
  refine (odds_any w p b n L h hgd e x).mono ?_
  rintro y w' ⟨A, n, c, B, m, d, rfl, h1, h2, hb⟩
  unfold oddA at h1
  unfold oddB at h2
  rw [if_pos hok] at h1 h2
  have hs := odd_small hgd hok
  exact ⟨A, n, c, B, m, d, by rw [hok], h1, h2, ⟨rd_two h1 (Nat.le_trans (Nat.div_le_self _ _) (by omega)), rd_two h2 (Nat.le_trans (Nat.div_le_self _ _) (by omega))⟩, hb⟩

/-- The odds are not told. -/
theorem odds_no (w : World) (p b n : Nat) (L : Notes) (h : MindAt w p b n L) (hgd : Good L) (e : Ed) (x : Int) (hok : oddOk e.e4 x = false) : Calls Try.prog 23 #[.pointer (some ⟨p, 0, none⟩), e.v, .int .i64 x] w fun y w' =>
    ∃ A n c B m d, y = .returned (.tuple #[.agg #[.slice A n c, .slice B m d], .bool false]) ∧ Rd w' w'.heap.size A n c [] ∧ Rd w' w'.heap.size B m d [] ∧ (n ≤ 2 ∧ m ≤ 2) ∧ Below w.heap.size w w' := by
  refine (odds_any w p b n L h hgd e x).mono ?_
  rintro y w' ⟨A, n, c, B, m, d, rfl, h1, h2, hb⟩
  unfold oddA at h1
  unfold oddB at h2
  rw [if_neg (by rw [hok]; decide)] at h1 h2
  have l1 := h1.len
  have l2 := h2.len
  simp at l1 l2
  exact ⟨A, n, c, B, m, d, by rw [hok], h1, h2, ⟨by omega, by omega⟩, hb⟩

end Go.Proofs.Ytdobpicamibgpaa
