/-
  Of, up, Clone: digits laid out of a number, with a digit more below, anew.
-/
import Derived.Test.YthkgeafidbihmaaGreatDoorMake
import Derived.Laws.CopyOwn
import Derived.Lib.LazyBuf
import Derived.Maps.AppendAt
namespace Go.Proofs.YthkgeafidbihmaaGreatDoor
open Go.RowKit
set_option linter.unusedVariables false
set_option linter.unusedSimpArgs false

theorem digs_two (n : Nat) (h : n < 18446744073709551616) : val [n % 4294967296, n / 4294967296] = n := by
  simp only [val]; omega

theorem of_any (w : World) (n : Nat) (h : n < 18446744073709551616) : Calls Tryz.prog 35 #[.int .u64 n] w (RetN w n) := by
  have hd : Dig [n % 4294967296, n / 4294967296] := Dig.cons (Nat.mod_lt _ (by decide)) (Dig.cons (by omega) Dig.nil)
  have hB : Blk (w.alloc (.cells #[.int .u32 ((n : Int) % 4294967296), .int .u32 ((n : Int) / 4294967296)] 38)) w.heap.size 38 (cells [n % 4294967296, n / 4294967296]) := by
    have := Blk.new w 38 (cells [n % 4294967296, n / 4294967296])
    simpa [cells] using this
  have hr := Lib.hid (Rd.of_blk hB hd)
  have hbel : Below w.heap.size w (w.alloc (.cells #[.int .u32 ((n : Int) % 4294967296), .int .u32 ((n : Int) / 4294967296)] 38)) := (Below.refl _ _).alloc (Nat.le_refl _) _
  have HG : Hid (∀ (e : Ending) (w1 : World) (m : Nat), HasD w1 w1.heap.size m (val [n % 4294967296, n / 4294967296]) e → Below w.heap.size w w1 → RetN w n e w1) := Lib.hid (fun e w1 m hh hb => by
    rw [digs_two n h] at hh
    exact hh.ret hb)
  clear hd hB
  go_enter Tryz.func35, Tryz.ntmps35
  go_wp2_with fail
  refine (low_any _ _ _ _ _ _ hr.out (by simp)).mono ?_
  rintro e w1 ⟨⟨P, mm, dd, rfl, hmm, rr⟩, rfl⟩
  go_wp2_with fail
  go_ret
  exact HG.out _ _ _ ⟨_, _, _, rfl, hmm, rr⟩ hbel

theorem infoS : (Tryz.prog.info? 38).map (·.size) = some 1 := by kernel_rfl

theorem splice_cells (l : List Nat) (n : Nat) (hl : l.length = n) (L : List Value) (hL : L = (List.replicate (n + 1) 0).map fun d : Nat => Value.int .u32 (d : Int)) :
    splice L 1 (l.map fun d : Nat => Value.int .u32 (d : Int)) = (0 :: l).map fun d : Nat => Value.int .u32 (d : Int) := by
  subst hL
  simp [splice, List.replicate_succ]
  omega

def zeros (n : Nat) : List Nat := List.replicate n 0

theorem make_z (z : Int) (n : Nat) (hz : z = n) (hn : n ≤ 4194304) : ∀ u : World, (Instr.makeSlice 22 (.int .i64 z) (.int .i64 z)).run Tryz.prog u =
    .ok (.slice (some ⟨u.heap.size, 0, none⟩) n n) (u.alloc (.cells (cells (zeros n)) 38)) := make_u32 z n hz hn

/-- A number's digits, in new memory. -/
def RetF (w : World) (x : Nat) (e : Ending) (w' : World) : Prop :=
  ∃ A n c, e = .returned (.slice A n c) ∧ Rd w' w'.heap.size A n c (digs x) ∧ Below w.heap.size w w' ∧ ∀ ad, A = some ad → w.heap.size ≤ ad.block

theorem up_fin (w : World) (l : List Nat) (hdig : Dig l) (d : Nat) (hd : d < 4294967296) (g : Nat) (w1 : World) (hb : Blk w1 g 38 (cells (d :: l))) (hbel : Below w.heap.size w w1) :
    Rd w1 w1.heap.size (some ⟨g, 0, none⟩) (l.length + 1) (l.length + 1) (d :: l) ∧ ∀ (e : Ending) (m c : Nat), w.heap.size ≤ g → HasA w1 w1.heap.size (some ⟨g, 0, none⟩) m c (val (d :: l)) e → RetF w (d + 4294967296 * val l) e w1 :=
  ⟨Rd.of_blk hb (Dig.cons hd hdig), fun e m c hg hh => by
    obtain ⟨n', rfl, _, hr⟩ := hh
    exact ⟨_, n', c, rfl, hr, hbel, fun ad e => by injection e with e; subst e; exact hg⟩⟩

theorem up_any (w : World) (A : Option Addr) (n c : Nat) (l : List Nat) (h : Rd w w.heap.size A n c l) (hn : n ≤ 65536) (d : Nat) (hd : d < 4294967296) :
    Calls Tryz.prog 63 #[.slice A n c, .int .u32 d] w (RetF w (d + 4294967296 * val l)) := by
  rcases Nat.eq_zero_or_pos n with h0 | h0
  · subst h0
    have hl : l = [] := List.eq_nil_of_length_eq_zero h.len
    subst hl
    clear h
    have hmk := make_z 1 1 rfl (by decide)
    have hc0 : (w.alloc (.cells (cells (zeros 1)) 38)).cell? ⟨w.heap.size, 0, none⟩ = some (.int .u32 0) := (Blk.new w _ _).cell 0
    have hf0 := (Blk.new w 38 (cells (zeros 1))).frozen 0
    have hB : Blk (w.alloc (.cells ((cells (zeros 1)).setIfInBounds 0 (.int .u32 (d : Int))) 38)) w.heap.size 38 (cells (d :: [])) := by
      have := Blk.new w 38 (cells [d])
      exact this
    obtain ⟨hr, hg⟩ := up_fin w [] Dig.nil d hd _ _ hB ((Below.refl _ _).alloc (Nat.le_refl _) _)
    have HR := Lib.hid hr
    have HG := Lib.hid hg
    clear hr hg hB
    go_enter Tryz.func63, Tryz.ntmps63
    go_wp2_with (with_reducible refine wpList_copy_nothing rfl (.tmp 11) (.tmp 12) 22 22 rfl 38 Tryz.underlying22 infoS _ _ _ _ _ _ rfl rfl rfl ?_)
    refine (low_at _ _ _ _ _ _ HR.out (by simp)).mono ?_
    rintro e w1 ⟨⟨mm, rfl, hmm, rr⟩, rfl⟩
    go_wp2_with fail
    go_ret
    exact HG.out _ _ _ (Nat.le_refl _) ⟨_, rfl, hmm, rr⟩
  · have hmk := make_z ((n : Int) + 1) (n + 1) (by omega) (by omega)
    have hbel : Below w.heap.size w (w.alloc (.cells (cells (zeros (n + 1))) 38)) := (Below.refl _ _).alloc (Nat.le_refl _) _
    obtain ⟨b, off, rfl, hb, hc⟩ := h.at_ (by omega)
    obtain ⟨cs, hcs⟩ : ∃ cs, cs = l.map fun d : Nat => Value.int .u32 (d : Int) := ⟨_, rfl⟩
    have hcl : cs.length = n := by rw [hcs, List.length_map, h.len]
    have h1 : ∀ v ∈ cs, v.oneCell' = true := by
      intro v hv
      rw [hcs] at hv
      obtain ⟨d, _, rfl⟩ := List.mem_map.1 hv
      rfl
    have hsrc : ∀ j v, cs[j]? = some v → (w.alloc (.cells (cells (zeros (n + 1))) 38)).cell? ((⟨b, off, none⟩ : Addr).add j) = some v := fun j v hv => by
      have hj : j < n := by rw [← hcl]; exact (List.getElem?_eq_some_iff.1 hv).1
      have e : (⟨b, off, none⟩ : Addr).add j = ⟨b, off + j, none⟩ := by unfold Addr.add; split <;> simp_all
      rw [e, hbel.cell (p := ⟨b, off + j, none⟩) hb, hc j hj]
      rw [hcs, List.getElem?_map] at hv
      have : l[j]? = some (l.getD j 0) := by rw [List.getD_eq_getElem?_getD, List.getElem?_eq_getElem (by rw [h.len]; exact hj)]; rfl
      rw [this] at hv
      exact hv
    have hnew : (w.alloc (.cells (cells (zeros (n + 1))) 38)).heap[w.heap.size]? = some (.cells ((zeros (n + 1)).map fun d : Nat => Value.int .u32 (d : Int)).toArray 38 (0, 0)) := Blk.new _ _ _
    obtain ⟨cur, hcur⟩ : ∃ cur, cur = (zeros (n + 1)).map fun d : Nat => Value.int .u32 (d : Int) := ⟨_, rfl⟩
    rw [← hcur] at hnew
    have hcurl : cur.length = n + 1 := by rw [hcur]; simp [zeros]
    have hsp : splice cur 1 cs = (0 :: l).map fun d : Nat => Value.int .u32 (d : Int) := by rw [hcs]; exact splice_cells l (n) h.len cur hcur
    have HL := Lib.hid (And.intro hcl (And.intro h1 (And.intro hsrc (And.intro h.len (And.intro h.dig (And.intro hnew (And.intro hcurl hsp)))))))
    have HB := Lib.hid hbel
    clear hcs hcl h1 hsrc h hnew hcur hcurl hsp hbel hc
    go_enter Tryz.func63, Tryz.ntmps63
    go_wp2_with (with_reducible refine wpList_copy_splice rfl (.tmp 11) (.tmp 12) 22 22 rfl 38 Tryz.underlying22 infoS _ _ _ _ _ _ rfl rfl w.heap.size 1 cur 38 HL.out.2.2.2.2.2.1 cs ?hn (fun _ => ⟨rfl, _, rfl, HL.out.2.2.1⟩) ?hfit HL.out.2.1 w.heap.size w HB.out (Nat.le_refl _) ?_)
    case hn => rw [HL.out.1]; simp
    case hfit => rw [HL.out.1, HL.out.2.2.2.2.2.2.1]; omega
    intro w2 HG2 hb2
    rw [HL.out.2.2.2.2.2.2.2] at HG2
    have hB2 : Blk w2 w.heap.size 38 (cells (0 :: l)) := HG2.out
    have hc0 : w2.cell? ⟨w.heap.size, 0, none⟩ = some (.int .u32 0) := hB2.cell 0
    have hf0 := hB2.frozen 0
    have hB3 := hB2.set_ 0 (.int .u32 (d : Int))
    rw [cells_set] at hB3
    obtain ⟨hr, hg⟩ := up_fin w l HL.out.2.2.2.2.1 d hd _ _ hB3 (hb2.setCell (p := ⟨w.heap.size, 0, none⟩) (Nat.le_refl _) _)
    rw [HL.out.2.2.2.1] at hr
    have HR := Lib.hid hr
    have HG := Lib.hid hg
    clear hr hg hB2 hB3 HG2 HL
    go_wp2_with fail
    refine (low_at _ _ _ _ _ _ HR.out (by omega)).mono ?_
    rintro e w1 ⟨⟨mm, rfl, hmm, rr⟩, rfl⟩
    go_wp2_with fail
    go_ret
    exact HG.out _ _ _ (Nat.le_refl _) ⟨_, rfl, hmm, rr⟩

end Go.Proofs.YthkgeafidbihmaaGreatDoor
