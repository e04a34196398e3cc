/-
  A range over a map in whose round a value is stored at a key that is there.
-/
import Derived.Maps.RangeWalk
namespace Go.Proofs.Ytdobpicamibgpaa
set_option linter.unusedVariables false
set_option linter.unusedSimpArgs false
open Go Go.Maps Go.ChangeMaps Go.MapKept Go.WideShapes
open Go.WideElems (Fit rd rg pl rd_key rd_val rg_of rd_mk other_key)

section
variable {H : Type} {P : Program} {k : TypeId} {R : Value → Option (DataW H × List MemPlace)} {w : World} {b r n : Nat} {D : DataW H} {left : Lit → Bool} {cnt : Nat}

theorem set_born {es : List MapEntry} {j : Nat} {e0 : MapEntry} (h : es[j]? = some e0) (key val : Value) : (es.set j { e0 with key := key, val := val }).map (·.born) = es.map (·.born) := by
  rw [List.map_set]
  refine List.ext_getElem? fun i => ?_
  rw [List.getElem?_set]
  split
  · rename_i e
    subst e
    rw [List.getElem?_map, h]
    split
    · rfl
    · rename_i hl
      have := (List.getElem?_eq_some_iff.1 h).1
      simp at hl
      omega
  · rfl

theorem filter_born {l m : List MapEntry} (q : Nat → Bool) (h : l.map (·.born) = m.map (·.born)) : (l.filter fun e => q e.born).length = (m.filter fun e => q e.born).length := by
  have e : ∀ l : List MapEntry, (l.filter fun e => q e.born).length = ((l.map (·.born)).filter q).length := fun l => by
    rw [List.filter_map, List.length_map]; rfl
  rw [e, e, h]

theorem ranges_restore {t e : TypeId} (h : w.ranges P k R b r n D left cnt) (K : Keyed P k) (ht : P.underlying t = some (.map k e)) (hn : n < maxLen) {key val : Value} {kl : Lit} {d : DataW H} {ps : List MemPlace}
    (hkey : keyOf P k key = some kl) (hv : R val = some (d, ps)) (hthere : Maps.has D kl = true) :
    ∃ w', (Instr.mapUpdate t (.map (some b)) key val).run P w = .ok () w' ∧ w'.ranges P k R b r n (D.put kl d) left cnt ∧ w.mapTurned w' b := by
  have hne := h.ne
  obtain ⟨es, clock, since, seen, c0, hb, F, hs, rfl, hr, hold, rfl, hl1, hl2, hsc, hsk⟩ := h
  have hmem : ∃ x ∈ es.toList, x.key = key := by
    obtain ⟨p, hp, hpk⟩ := List.any_eq_true.1 hthere
    obtain ⟨x, hx, rfl⟩ := List.mem_map.1 (mem_sorted.1 hp)
    obtain ⟨y, hy⟩ := F.reads x hx
    refine ⟨x, hx, K.inj (rd_key hy) ?_⟩
    have := WideAt.sameKey_eq hpk
    rw [rg_of hy] at this
    rw [this]; exact hkey
  obtain ⟨es', clock', hrun, F', hput, _⟩ := Maps.fit_store (R' := R) K ht hb F (Nat.lt_of_le_of_lt hs hn) (fun _ _ _ _ hz => hz) hkey hv
  rcases K.find w hkey es.toList F.keys with ⟨h1, h2⟩ | ⟨j, e0, h1, h2, h3⟩
  · obtain ⟨x, hx, hxk⟩ := hmem
    exact absurd hxk (h2 x hx)
  · have hj : es[j]? = some e0 := by simpa using h2
    have hlist : (es.modify j (fun e' => { e' with key := key, val := val })).toList = es.toList.set j { e0 with key := key, val := val } := by rw [Array.toList_modify, modify_eq_set _ _ _ _ h2]
    have hrun2 : (Instr.mapUpdate t (.map (some b)) key val).run P w = .ok () (setBlock w b (.map (es.modify j (fun e' => { e' with key := key, val := val })) clock)) := by
      simp [Instr.mapUpdate, run_underlying ht, MapKept.run_getObj_map hb, K.check w false hkey, h1, hj, h3, K.stays w hkey, MapKept.run_setObj_map _ hb, Result.andThen, setBlock]
    have he : setBlock w b (.map es' clock') = setBlock w b (.map (es.modify j (fun e' => { e' with key := key, val := val })) clock) := by
      have := hrun.symm.trans hrun2
      injection this
    have he2 : some (Obj.map es' clock') = some (Obj.map (es.modify j (fun e' => { e' with key := key, val := val })) clock) := by
      rw [← heap_setBlock_same hb (.map es' clock'), ← heap_setBlock_same hb (.map (es.modify j (fun e' => { e' with key := key, val := val })) clock), he]
    injection he2 with he3
    injection he3 with he4 he5
    have hborn : es'.toList.map (·.born) = es.toList.map (·.born) := by rw [he4, hlist]; exact set_born h2 key val
    have he0 : e0 ∈ es.toList := List.mem_of_getElem? h2
    have hk0 : (rg P k R e0).1 = kl := by
      obtain ⟨y, hy⟩ := F.reads e0 he0
      have := rd_key hy
      rw [h3, hkey] at this
      rw [rg_of hy]
      exact (Option.some.inj this).symm
    have hnew : (rg P k R { e0 with key := key, val := val }).1 = kl := by rw [rg_of (rd_mk hkey hv)]
    have who : ∀ x ∈ es'.toList, ∃ y ∈ es.toList, y.born = x.born ∧ (rg P k R x).1 = (rg P k R y).1 := by
      intro x hx
      rw [he4, hlist] at hx
      obtain ⟨i, hi, ex⟩ := List.getElem_of_mem hx
      rw [List.getElem_set] at ex
      split at ex
      · exact ⟨e0, he0, by rw [← ex], by rw [← ex, hnew, hk0]⟩
      · have hi' : i < es.toList.length := by simpa using hi
        exact ⟨x, ex ▸ List.getElem_mem hi', rfl, rfl⟩
    have back : ∀ y ∈ es.toList, ∃ x ∈ es'.toList, (rg P k R x).1 = (rg P k R y).1 := by
      intro y hy
      rw [he4, hlist]
      by_cases hyj : y = e0
      · subst hyj
        refine ⟨_, List.mem_iff_getElem?.2 ⟨j, List.getElem?_set_self (List.getElem?_eq_some_iff.1 h2).1⟩, by rw [hnew, hk0]⟩
      · obtain ⟨i, hi⟩ := List.getElem?_of_mem hy
        refine ⟨y, List.mem_iff_getElem?.2 ⟨i, ?_⟩, rfl⟩
        rw [List.getElem?_set_ne (fun e => hyj (by subst e; rw [h2] at hi; exact (Option.some.inj hi).symm))]
        exact hi
    refine ⟨_, hrun, ⟨es', clock', since, seen, c0, heap_setBlock_same hb _, F', ?_, by rw [DataW.put_eq, hput], (heap_setBlock_other hb _ hne).trans hr, fun x hx => ?_, ?_, fun x hx => ?_, fun kl' hkl' => ?_, hsc, by rw [he5]; exact hsk⟩, ⟨es, clock, es', clock', hb, rfl⟩⟩
    · have := congrArg List.length hborn
      simp at this
      omega
    · obtain ⟨y, hy, e1, _⟩ := who x hx
      rw [← e1]; exact hold y hy
    · have e1 : ∀ a : Array MapEntry, (leftOf a seen).size = (a.toList.filter fun e => !seen.contains e.born).length := fun a => by
        unfold leftOf
        rw [← Array.toList_filter, Array.length_toList]
      rw [e1, e1]
      exact filter_born (fun z => !seen.contains z) hborn
    · obtain ⟨y, hy, e1, e2⟩ := who x hx
      rw [e2, hl1 y hy, e1]
    · obtain ⟨y, hy, e1⟩ := hl2 kl' hkl'
      obtain ⟨x, hx, e2⟩ := back y hy
      exact ⟨x, hx, e2.trans e1⟩
end
end Go.Proofs.Ytdobpicamibgpaa
