/- Laws of a loop over a map of ints: each key comes out once. -/
import Derived.Test.YtfdaepicbgiamaaM
import Derived.Maps.RangeRun
namespace Go.Proofs.Ytfdaepicbgiamaa
open Go.RowKit Go.ChangeMaps
section
variable {P : Program}
theorem run_range_mk (w : World) (T K E : TypeId) (hT : P.underlying T = some (.map K E)) (b : Nat) (L : List (Int × Value)) (hb : w.heap[b]? = some (mapObj L)) :
    (Instr.range T (.map (some b))).run P w = .ok (.pointer (some ⟨w.heap.size, 0, none⟩)) (w.alloc (.mapIter (some b) L.length #[] L.length)) := by
  have hb' : w.heap[b]? = some (.map (entsOf L) L.length) := hb
  simp [Instr.range, run_underlying hT, MapKept.run_getObj_map hb']

theorem ents_get (L : List (Int × Value)) (i : Nat) : (entsOf L)[i]? = (L[i]?).map fun kv => (⟨.int .i64 kv.1, kv.2, i⟩ : MapEntry) := by
  simp [entsOf]
theorem ents_mem {L : List (Int × Value)} {e : MapEntry} (h : e ∈ (entsOf L).toList) : ∃ i kv, L[i]? = some kv ∧ e = ⟨.int .i64 kv.1, kv.2, i⟩ := by
  obtain ⟨i, hi, he⟩ := List.mem_iff_getElem.1 h
  have := ents_get L i
  rw [← Array.getElem?_toList, List.getElem?_eq_getElem hi, he] at this
  cases hL : L[i]? with
  | none => rw [hL] at this; cases this
  | some kv => rw [hL] at this; exact ⟨i, kv, hL, by simpa using this⟩
theorem ents_born {L : List (Int × Value)} : (entsOf L).toList.map (·.born) = List.range L.length := by
  apply List.ext_getElem?
  intro i
  rw [List.getElem?_map, Array.getElem?_toList, ents_get]
  by_cases h : i < L.length
  · rw [List.getElem?_range h]; simp [h]
  · rw [List.getElem?_eq_none (l := List.range L.length) (by simp; omega)]; simp [h]
def keyInt (e : MapEntry) : Int := match e.key with | .int _ n => n | _ => 0
theorem ents_keys {L : List (Int × Value)} : (entsOf L).toList.map keyInt = L.map (·.1) := by
  apply List.ext_getElem?
  intro i
  rw [List.getElem?_map, Array.getElem?_toList, ents_get, List.getElem?_map]
  cases L[i]? <;> rfl
theorem perm_take (l : List MapEntry) (e : MapEntry) (h : e ∈ l) (hn : (l.map (·.born)).Nodup) : l.Perm (e :: l.filter (fun x => x.born != e.born)) := by
  induction l with
  | nil => cases h
  | cons a l ih =>
    simp only [List.map_cons, List.nodup_cons] at hn
    by_cases he : a.born = e.born
    · have hnot : ∀ x ∈ l, x.born ≠ e.born := fun x hx e' => hn.1 (List.mem_map.2 ⟨x, hx, by rw [e', he]⟩)
      have hea : e = a := by
        rcases List.mem_cons.1 h with h | h
        · exact h
        · exact absurd rfl (hnot e h)
      subst hea
      have : l.filter (fun x => x.born != e.born) = l := List.filter_eq_self.2 (fun x hx => by simpa using hnot x hx)
      simp [this]
    · have hel : e ∈ l := by
        rcases List.mem_cons.1 h with h | h
        · exact absurd (by rw [h]) he
        · exact h
      have : (a.born != e.born) = true := by simpa using he
      simp only [List.filter_cons, this, if_true]
      exact ((ih hel hn.2).cons a).trans (List.Perm.swap _ _ _)
theorem leftOf_list (es : Array MapEntry) (seen : Array Nat) : (leftOf es seen).toList = es.toList.filter (fun e => !seen.contains e.born) := by simp [leftOf]
theorem left_all (es : Array MapEntry) : (leftOf es #[]).toList = es.toList := by rw [leftOf_list]; exact List.filter_eq_self.2 (by simp)
theorem setBlock_grow (w : World) (r : Nat) (o : Obj) : w.grownBy (setBlock w r o) (some r) :=
  ⟨rfl, rfl, rfl, by simp [setBlock], fun k hk hne => by simp [setBlock, Array.getElem?_setIfInBounds]; intro e; exact absurd (by rw [e]) hne⟩
theorem setBlock_at {w : World} {r : Nat} (h : r < w.heap.size) (o : Obj) : (setBlock w r o).heap[r]? = some o := by simp [setBlock, h]
theorem left_nodup {es : Array MapEntry} {seen : Array Nat} (hn : (es.toList.map (·.born)).Nodup) : ((leftOf es seen).toList.map (·.born)).Nodup := by
  rw [leftOf_list]
  exact hn.sublist (List.Sublist.map _ List.filter_sublist)
theorem left_push {es : Array MapEntry} {seen : Array Nat} {e : MapEntry} (he : e ∈ (leftOf es seen).toList) (hn : (es.toList.map (·.born)).Nodup) :
    (leftOf es seen).toList.Perm (e :: (leftOf es (seen.push e.born)).toList) := by
  have h := perm_take _ e he (left_nodup hn)
  have : (leftOf es (seen.push e.born)).toList = (leftOf es seen).toList.filter (fun x => x.born != e.born) := by
    rw [leftOf_list, leftOf_list, List.filter_filter]
    apply List.filter_congr
    intro x _
    simp only [Array.contains_push, Bool.not_or]
    rw [Bool.and_comm]
    congr 1
  rw [this]
  exact h
end
end Go.Proofs.Ytfdaepicbgiamaa
