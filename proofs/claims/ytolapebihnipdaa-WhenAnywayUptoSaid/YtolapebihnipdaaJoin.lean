/-
  Steps joined by append: what they read as in the new row.
  (Reads and the laws on append with a source that came in: the guide's page of lemmas to copy.)
-/
import Derived.Test.YtolapebihnipdaaSame
import Derived.Maps.AppendAt
import Derived.RegionTactic
import Derived.OwnWalk
import Derived.Laws.OwnMore
import Derived.Deep.Draws
namespace Go.Proofs.Ytolapebihnipdaa
open Go.RowKit
set_option linter.unusedVariables false

theorem block_of_add (a : Addr) (n : Nat) : (a.add n).block = a.block := by unfold Addr.add; split <;> rfl
theorem add_of_add (a : Addr) (i j : Nat) : (a.add i).add j = a.add (i + j) := by
  unfold Addr.add
  by_cases hi : i = 0 <;> by_cases hj : j = 0 <;> simp [hi, hj, Nat.add_assoc]

def Reads (w : World) (B size : Nat) (A : Option Addr) (n : Nat) (xs : List Value) : Prop :=
  xs.length = n * size ∧ (0 < n → ∃ ad, A = some ad ∧ ad.block < B ∧ ∀ j u, xs[j]? = some u → w.cell? (ad.add j) = some u)

section
variable {w w' : World} {B B' size n : Nat} {A : Option Addr} {xs : List Value}
theorem Reads.none_ : Reads w B size A 0 [] := ⟨by simp, fun h => absurd h (by omega)⟩
theorem Reads.at_ {k : Nat} (h : Reads w B 1 A n xs) (hk : k < n) : ∃ ad u, A = some ad ∧ ad.block < B ∧ xs[k]? = some u ∧ w.cell? (ad.add k) = some u := by
  obtain ⟨ad, e, hb, hc⟩ := h.2 (by omega)
  have hl : k < xs.length := by have := h.1; omega
  exact ⟨ad, xs[k], e, hb, List.getElem?_eq_getElem hl, hc k _ (List.getElem?_eq_getElem hl)⟩
theorem Reads.keep (h : Reads w B size A n xs) (hk : ∀ p : Addr, p.block < B → w'.cell? p = w.cell? p) : Reads w' B size A n xs :=
  ⟨h.1, fun hn => by
    obtain ⟨ad, e, hb, hc⟩ := h.2 hn
    exact ⟨ad, e, hb, fun j u hu => (hk _ (by rw [block_of_add]; exact hb)).trans (hc j u hu)⟩⟩
theorem Reads.more (h : Reads w B size A n xs) (hB : B ≤ B') : Reads w B' size A n xs :=
  ⟨h.1, fun hn => by
    obtain ⟨ad, e, hb, hc⟩ := h.2 hn
    exact ⟨ad, e, by omega, hc⟩⟩
theorem Reads.below (h : Reads w B size A n xs) (hb : Below B w w') : Reads w' B size A n xs := h.keep fun _ hp => hb.cell hp
theorem Reads.drew (h : Reads w B size A n xs) : Reads w.drew B size A n xs := h
theorem Reads.drewN (h : Reads w B size A n xs) (k : Nat) : Reads (w.drewN k) B size A n xs := h
theorem Reads.alloc (h : Reads w B size A n xs) (hB : B ≤ w.heap.size) (o : Obj) : Reads (w.alloc o) B size A n xs := h.keep fun p hp => World.cell?_alloc_lt w o p (by omega)
theorem Reads.setCell (h : Reads w B size A n xs) {p : Addr} (hB : B ≤ p.block) (u : Value) : Reads (w.setCell p u) B size A n xs :=
  h.keep fun q hq => World.cell?_setCell_other w p q u (fun e => by subst e; omega)
theorem Reads.grown (h : Reads w B size A n xs) {row : Option Nat} (hg : w.grownBy w' row) (hB : B ≤ w.heap.size) (hr : ∀ g, row = some g → B ≤ g) : Reads w' B size A n xs :=
  h.keep fun p hp => World.cell?_of_block (hg.block p.block (by omega) (fun e => by have := hr _ e.symm; omega))
theorem Reads.cut (h : Reads w B size A n xs) {k cap : Nat} (hk : k ≤ n) (hc : n ≤ cap) :
    Reads w B size (if cap = k then A else A.map (·.add (k * size))) (n - k) (xs.drop (k * size)) := by
  refine ⟨by rw [List.length_drop, h.1, Nat.sub_mul], fun hn => ?_⟩
  obtain ⟨ad, rfl, hb, hcell⟩ := h.2 (by omega)
  rw [if_neg (by omega)]
  refine ⟨ad.add (k * size), rfl, by rw [block_of_add]; exact hb, fun j u hu => ?_⟩
  rw [add_of_add]
  exact hcell _ u (by rw [← hu, List.getElem?_drop])
theorem Reads.of_own {base : Nat} {e : TypeId} {c : Nat} (h : w.ownsRow base e size (.slice A n c) n xs) : Reads w w.heap.size size A n xs := by
  refine ⟨h.1, fun hn => ?_⟩
  obtain ⟨g, cap, hv, _, hlt⟩ := h.form hn
  have hA : A = some ⟨g, 0, none⟩ := by injection hv
  subst hA
  exact ⟨_, rfl, hlt, h.cells (g := g) rfl⟩
end

section
variable {P : Program} (w : World)

theorem run_append_of_nil (base : Nat) (t ty e : TypeId) (i : TypeInfo) (size : Nat) (ht : P.underlying t = some (.slice e)) (hi : P.info? e = some i)
    (v : Value) (n : Nat) (xs : List Value) (hown : w.ownsRow base e size v n xs) (c : Nat) : (Builtin.append_ #[t, t] ty #[v, .slice none 0 c]).run P w = .ok v w := by
  rcases hown.2 with ⟨rfl, rfl⟩ | ⟨g, cap, cur, rfl, _, _, hnc, _⟩
  · simp [Builtin.append_, run_underlying ht, sizeOf, typeInfo, hi, Builtin.lenOf, Builtin.firstCells]
  · simp [Builtin.append_, run_underlying ht, sizeOf, typeInfo, hi, Builtin.lenOf, Builtin.firstCells, hnc, storeCells]

theorem run_append_any (base : Nat) (t ty e : TypeId) (i : TypeInfo) (z : Value) (size bytes : Nat) (ht : P.underlying t = some (.slice e)) (hi : P.info? e = some i) (hz : i.zero = some z)
    (hsize : i.size = size) (hby : i.bytes = bytes) (hzs : z.cells.size = size) (hsz : 0 < size)
    (v : Value) (n : Nat) (xs : List Value) (hown : w.ownsRow base e size v n xs)
    (B : Nat) (A : Option Addr) (m c : Nat) (news : List Value) (hr : Reads w B size A m news) (h1 : ∀ u ∈ news, u.oneCell' = true)
    (h63 : n + m ≤ maxLen) (hbytes : (n + m) * bytes ≤ 140737488355328) (hbase : base ≤ w.heap.size) :
    ∃ v' w', (Builtin.append_ #[t, t] ty #[v, .slice A m c]).run P w = .ok v' w' ∧ w'.ownsRow base e size v' (n + m) (xs ++ news) ∧ w.grownBy w' v.ownBlock ∧
      (v'.ownBlock = v.ownBlock ∨ v'.ownBlock = some w.heap.size) := by
  rcases A with _ | ad
  · have hm : m = 0 := by
      rcases Nat.eq_zero_or_pos m with h0 | h0
      · exact h0
      · obtain ⟨ad, h, _⟩ := hr.2 h0
        cases h
    subst hm
    have hn : news = [] := List.eq_nil_of_length_eq_zero (by simpa using hr.1)
    subst hn
    exact ⟨v, w, run_append_of_nil w base t ty e i size ht hi v n xs hown c, by simpa using hown, World.grownBy.refl w _, .inl rfl⟩
  · have hcells : ∀ j u, news[j]? = some u → w.cell? (ad.add j) = some u := by
      intro j u hu
      rcases Nat.eq_zero_or_pos m with h0 | h0
      · subst h0
        have hn : news = [] := List.eq_nil_of_length_eq_zero (by simpa using hr.1)
        subst hn
        simp at hu
      · obtain ⟨ad', h, _, hc⟩ := hr.2 h0
        injection h with h
        subst h
        exact hc j u hu
    obtain ⟨v', w', hrun, h2, h3, _, h5⟩ := run_append_own_at (P := P) w base t ty e i z size bytes ht hi hz hsize hby hzs hsz v n xs hown ad m c news hr.1 hcells h1 h63 hbytes hbase
    exact ⟨v', w', hrun, h2, h3, h5⟩

theorem wp_append_any {o : Oper} {a : Act} {K : Act → World → Prop} {Q : Exit → Act → World → Prop} (s x : Operand) (t : TypeId)
    (ho : o.op = .call { callee := .builtin .append, args := #[s, x], argTypes := #[t, t] })
    (base : Nat) (e : TypeId) (i : TypeInfo) (z : Value) (size bytes : Nat) (ht : P.underlying t = some (.slice e)) (hi : P.info? e = some i) (hz : i.zero = some z)
    (hsize : i.size = size) (hby : i.bytes = bytes) (hzs : z.cells.size = size) (hsz : 0 < size)
    (v : Value) (n : Nat) (xs : List Value) (hs : a.eval s = v) (hown : w.ownsRow base e size v n xs)
    (B : Nat) (A : Option Addr) (m c : Nat) (news : List Value) (hx : a.eval x = .slice A m c) (hr : Reads w B size A m news) (h1 : ∀ u ∈ news, u.oneCell' = true)
    (h63 : n + m ≤ maxLen) (hbytes : (n + m) * bytes ≤ 140737488355328) (hbase : base ≤ w.heap.size)
    (h : ∀ v' w', w'.ownsRow base e size v' (n + m) (xs ++ news) → w.grownBy w' v.ownBlock → (v'.ownBlock = v.ownBlock ∨ v'.ownBlock = some w.heap.size) → K (a.put o.dst v') w') : o.wp P a w K Q := by
  obtain ⟨v', w', hrun, h2, h3, h4⟩ := run_append_any (P := P) w base t o.type e i z size bytes ht hi hz hsize hby hzs hsz v n xs hown B A m c news hr h1 h63 hbytes hbase
  unfold Oper.wp execOp
  simp only [ho, resolve, invoke, builtin, Sem.run_bind, Sem.run_pure, Result.andThen_ok, List.map_toArray, List.map_cons, List.map_nil, hs, hx, hrun]
  exact h v' w' h2 h3 h4

theorem wpList_append_any {ops : Array Oper} {rest : List Oper} {o : Oper} {a : Act} {Q : Exit → Act → World → Prop} (hgd : o.guard = none) (s x : Operand) (t : TypeId)
    (ho : o.op = .call { callee := .builtin .append, args := #[s, x], argTypes := #[t, t] })
    (base : Nat) (e : TypeId) (i : TypeInfo) (z : Value) (size bytes : Nat) (ht : P.underlying t = some (.slice e)) (hi : P.info? e = some i) (hz : i.zero = some z)
    (hsize : i.size = size) (hby : i.bytes = bytes) (hzs : z.cells.size = size) (hsz : 0 < size)
    (v : Value) (n : Nat) (xs : List Value) (hs : a.eval s = v) (hown : w.ownsRow base e size v n xs)
    (B : Nat) (A : Option Addr) (m c : Nat) (news : List Value) (hx : a.eval x = .slice A m c) (hr : Reads w B size A m news) (h1 : ∀ u ∈ news, u.oneCell' = true)
    (h63 : n + m ≤ maxLen) (hbytes : (n + m) * bytes ≤ 140737488355328) (hbase : base ≤ w.heap.size)
    (h : ∀ v' w', w'.ownsRow base e size v' (n + m) (xs ++ news) → w.grownBy w' v.ownBlock → (v'.ownBlock = v.ownBlock ∨ v'.ownBlock = some w.heap.size) → wpList P ops Q rest (a.put o.dst v') w') : wpList P ops Q (o :: rest) a w :=
  wpList_plain hgd fun _ hK => wp_append_any w s x t ho base e i z size bytes ht hi hz hsize hby hzs hsz v n xs hs hown B A m c news hx hr h1 h63 hbytes hbase fun v' w' h2 h3 h4 => hK _ _ (h v' w' h2 h3 h4)

theorem step_append_any {ops : Array Oper} {o : Oper} {a : Act} {K : Act → World → Prop} {Q : Exit → Act → World → Prop} {E : Prop} (hgd : o.guard = none) (s x : Operand) (t : TypeId)
    (ho : o.op = .call { callee := .builtin .append, args := #[s, x], argTypes := #[t, t] })
    (base : Nat) (e : TypeId) (i : TypeInfo) (z : Value) (size bytes : Nat) (ht : P.underlying t = some (.slice e)) (hi : P.info? e = some i) (hz : i.zero = some z)
    (hsize : i.size = size) (hby : i.bytes = bytes) (hzs : z.cells.size = size) (hsz : 0 < size)
    (v : Value) (n : Nat) (xs : List Value) (hs : a.eval s = v) (hown : w.ownsRow base e size v n xs)
    (B : Nat) (A : Option Addr) (m c : Nat) (news : List Value) (hx : a.eval x = .slice A m c) (hr : Reads w B size A m news) (h1 : ∀ u ∈ news, u.oneCell' = true)
    (h63 : n + m ≤ maxLen) (hbytes : (n + m) * bytes ≤ 140737488355328) (hbase : base ≤ w.heap.size)
    (h : ∀ v' w', w'.ownsRow base e size v' (n + m) (xs ++ news) → w.grownBy w' v.ownBlock → (v'.ownBlock = v.ownBlock ∨ v'.ownBlock = some w.heap.size) → K (a.put o.dst v') w') :
    if Region.wanted o (yielded ops a.tmps) = true then Oper.wp P o a w K Q else E := by
  have hw : Region.wanted o (yielded ops a.tmps) = true := by simp [Region.wanted, hgd]
  rw [if_pos hw]
  exact wp_append_any w s x t ho base e i z size bytes ht hi hz hsize hby hzs hsz v n xs hs hown B A m c news hx hr h1 h63 hbytes hbase h
end

theorem add_at (b off j : Nat) : (⟨b, off, none⟩ : Addr).add j = ⟨b, off + j, none⟩ := by
  unfold Addr.add; split <;> simp_all

/-- Cells that read as steps, their bools below B. -/
structure Row (w : World) (B : Nat) (xs : List Value) (l : List St) : Prop where
  len : xs.length = l.length * 3
  one : ∀ u ∈ xs, u.oneCell' = true
  at_ : ∀ (k : Nat) (x : St), l[k]? = some x → -9223372036854775808 ≤ x.take ∧ x.take ≤ 9223372036854775807 ∧ xs[k * 3]? = some (.int .i64 x.take) ∧ xs[k * 3 + 2]? = some (.bool x.awake) ∧
    ∃ A n c, xs[k * 3 + 1]? = some (.slice A n c) ∧ Bools w B A n x.keeps

theorem Row.nil (w : World) (B : Nat) : Row w B [] [] := ⟨rfl, by simp, by simp⟩

theorem Row.keep {w w' : World} {B B' : Nat} {xs : List Value} {l : List St} (h : Row w B xs l) (hk : ∀ p : Addr, p.block < B → w'.cell? p = w.cell? p) (hB : B ≤ B') : Row w' B' xs l :=
  ⟨h.len, h.one, fun k x hx => by
    obtain ⟨h1, h2, h3, h4, A, n, c, h5, h6⟩ := h.at_ k x hx
    exact ⟨h1, h2, h3, h4, A, n, c, h5, h6.keep hk hB⟩⟩

theorem Row.append {w : World} {B : Nat} {xs ys : List Value} {l r : List St} (h : Row w B xs l) (g : Row w B ys r) : Row w B (xs ++ ys) (l ++ r) := by
  refine ⟨by simp only [List.length_append, h.len, g.len]; omega, fun u hu => ?_, fun k x hx => ?_⟩
  · rcases List.mem_append.1 hu with hu | hu
    · exact h.one u hu
    · exact g.one u hu
  · have hl := h.len
    by_cases hk : k < l.length
    · rw [List.getElem?_append_left hk] at hx
      have := h.at_ k x hx
      rw [List.getElem?_append_left (by omega), List.getElem?_append_left (by omega), List.getElem?_append_left (by omega)]
      exact this
    · rw [List.getElem?_append_right (by omega)] at hx
      have := g.at_ (k - l.length) x hx
      rw [List.getElem?_append_right (by omega), List.getElem?_append_right (by omega), List.getElem?_append_right (by omega)]
      have e0 : k * 3 - xs.length = (k - l.length) * 3 := by omega
      have e1 : k * 3 + 1 - xs.length = (k - l.length) * 3 + 1 := by omega
      have e2 : k * 3 + 2 - xs.length = (k - l.length) * 3 + 2 := by omega
      rw [e0, e1, e2]
      exact this

/-- What steps of a slice read as: cells, and the steps in them. -/
theorem Steps.row {w : World} {B : Nat} {A : Option Addr} {n : Nat} {l : List St} (h : Steps w B A n l) : ∃ xs, Reads w B 3 A n xs ∧ Row w B xs l := by
  have hlen := h.len
  rcases Nat.eq_zero_or_pos n with h0 | h0
  · subst h0
    obtain rfl := List.eq_nil_of_length_eq_zero hlen
    exact ⟨[], ⟨by simp, fun h => absurd h (by omega)⟩, Row.nil _ _⟩
  · obtain ⟨b, off, rfl, hb, hc⟩ := h.at_ h0
    have cell : ∀ j, j < n * 3 → ∃ u, w.cell? ⟨b, off + j, none⟩ = some u ∧ u.oneCell' = true := by
      intro j hj
      have hk : j / 3 < l.length := by omega
      have hx := hc (j / 3) _ (List.getElem?_eq_getElem hk)
      obtain ⟨A, m, c, hx5, _⟩ := hx.keeps
      have h3 : j % 3 = 0 ∨ j % 3 = 1 ∨ j % 3 = 2 := by omega
      rcases h3 with h3 | h3 | h3
      · have e : off + j = off + j / 3 * 3 := by omega
        exact ⟨.int .i64 (l[j / 3]).take, e ▸ hx.take, rfl⟩
      · have e : off + j = off + j / 3 * 3 + 1 := by omega
        exact ⟨.slice A m c, e ▸ hx5, rfl⟩
      · have e : off + j = off + j / 3 * 3 + 2 := by omega
        exact ⟨.bool (l[j / 3]).awake, e ▸ hx.awake, rfl⟩
    have get : ∀ j, j < n * 3 → ((List.range (n * 3)).map fun j => (w.cell? ⟨b, off + j, none⟩).getD (.bool false))[j]? = w.cell? ⟨b, off + j, none⟩ := by
      intro j hj
      obtain ⟨u, hu, _⟩ := cell j hj
      simp [hj, hu]
    refine ⟨(List.range (n * 3)).map fun j => (w.cell? ⟨b, off + j, none⟩).getD (.bool false), ⟨by simp, fun _ => ⟨_, rfl, hb, fun j u hu => ?_⟩⟩, ⟨by simp [hlen], fun u hu => ?_, fun k x hx => ?_⟩⟩
    · have hj : j < n * 3 := by
        rcases Nat.lt_or_ge j (n * 3) with hj | hj
        · exact hj
        · rw [List.getElem?_eq_none (by simpa using hj)] at hu; cases hu
      rw [get j hj] at hu
      rw [add_at]; exact hu
    · obtain ⟨j, hj, rfl⟩ := List.mem_map.1 hu
      obtain ⟨u, hu, h1⟩ := cell j (List.mem_range.1 hj)
      rw [hu]; exact h1
    · have hk : k < l.length := by
        rcases Nat.lt_or_ge k l.length with hk | hk
        · exact hk
        · rw [List.getElem?_eq_none hk] at hx; cases hx
      have hs := hc k x hx
      obtain ⟨A, m, c, h5, h6⟩ := hs.keeps
      refine ⟨hs.lo, hs.hi, ?_, ?_, A, m, c, ?_, h6⟩
      · rw [get _ (by omega)]; exact hs.take
      · rw [get _ (by omega)]; exact hs.awake
      · rw [get _ (by omega)]; exact h5

/-- The row that append hands back reads as steps. -/
theorem Row.steps {w : World} {B base : Nat} {e : TypeId} {v : Value} {n : Nat} {xs : List Value} {l : List St} (h : Row w B xs l) (ho : w.ownsRow base e 3 v n xs) (hB : B ≤ w.heap.size) (hn : l.length = n) (hs : n ≤ 140737488355328) :
    ∃ A c, v = .slice A n c ∧ Steps w w.heap.size A n l := by
  rcases ho.2 with ⟨rfl, rfl⟩ | ⟨g, cap, cur, rfl, hbg, hg, hnc, hcm, hcs, htake⟩
  · exact ⟨none, 0, rfl, hn, hs, fun h => absurd h (by omega)⟩
  · refine ⟨_, cap, rfl, hn, hs, fun _ => ⟨g, 0, rfl, (Array.getElem?_eq_some_iff.1 hg).1, fun k x hx => ?_⟩⟩
    have hc : ∀ j u, xs[j]? = some u → w.cell? ⟨g, j, none⟩ = some u := fun j u hu => by
      have := ho.cells (g := g) rfl j u hu
      rwa [add_at, Nat.zero_add] at this
    obtain ⟨h1, h2, h3, h4, A, m, c, h5, h6⟩ := h.at_ k x hx
    refine ⟨h1, h2, ?_, ?_, A, m, c, ?_, h6.keep (fun _ _ => rfl) hB⟩
    · rw [Nat.zero_add]; exact hc _ _ h3
    · rw [Nat.zero_add]; exact hc _ _ h4
    · rw [Nat.zero_add]; exact hc _ _ h5
end Go.Proofs.Ytolapebihnipdaa
