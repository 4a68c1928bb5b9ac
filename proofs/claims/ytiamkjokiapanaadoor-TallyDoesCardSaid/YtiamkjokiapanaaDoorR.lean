/- How far most have come: what the sorted row's place tells, counted. -/
import Derived.Test.YtiamkjokiapanaaDoorV
namespace Go.Proofs.YtiamkjokiapanaaDoor

def cntGe (l : List Int) (v : Int) : Nat := l.countP (fun x => decide (v ≤ x))
def srt (l : List Int) : List Int := l.mergeSort fun x y => decide (x ≤ y)
theorem srt_perm (l : List Int) : (srt l).Perm l := List.mergeSort_perm l _
theorem srt_len (l : List Int) : (srt l).length = l.length := (srt_perm l).length_eq
theorem srt_sorted (l : List Int) : (srt l).Pairwise (fun a b => a ≤ b) := by
  have := List.pairwise_mergeSort (le := fun x y : Int => decide (x ≤ y)) (by intro a b c h1 h2; simp at h1 h2 ⊢; omega) (by intro a b; simp; omega) l
  exact this.imp (fun h => by simpa using h)
theorem cnt_srt (l : List Int) (v : Int) : cntGe (srt l) v = cntGe l v := (srt_perm l).countP_eq _
theorem sorted_get {l : List Int} (h : l.Pairwise (fun a b => a ≤ b)) {i j : Nat} (hij : i ≤ j) (hj : j < l.length) : l.getD i 0 ≤ l.getD j 0 := by
  rcases Nat.lt_or_ge i j with hlt | hge
  · have := List.pairwise_iff_getElem.1 h i j (by omega) hj hlt
    simpa [List.getD, hj, show i < l.length by omega] using this
  · have : i = j := by omega
    subst this
    exact Int.le_refl _
/-- In a rising row m numbers are at least the m-th from behind, and who counts m of them at least v has the m-th from behind at least v. -/
theorem cnt_ge_place (l : List Int) (h : l.Pairwise (fun a b => a ≤ b)) (m : Nat) (h1 : 1 ≤ m) (h2 : m ≤ l.length) (v : Int) : m ≤ cntGe l v ↔ v ≤ l.getD (l.length - m) 0 := by
  have hsplit : l = l.take (l.length - m) ++ l.drop (l.length - m) := (List.take_append_drop _ _).symm
  have hget : ∀ i, i < l.length → l.getD i 0 = l[i]! := fun i hi => by simp [List.getD, hi]
  constructor
  · intro hc
    apply Classical.byContradiction
    intro hv
    have hz : (l.take (l.length - m + 1)).countP (fun x => decide (v ≤ x)) = 0 := by
      rw [List.countP_eq_zero]
      intro x hx
      obtain ⟨i, hi, rfl⟩ := List.mem_iff_getElem.1 hx
      have hi' : i < l.length - m + 1 := by rw [List.length_take] at hi; omega
      rw [List.getElem_take]
      have := sorted_get h (i := i) (j := l.length - m) (by omega) (by omega)
      simp only [List.getD, show i < l.length by omega, show l.length - m < l.length by omega, List.getElem?_eq_getElem, Option.getD_some] at this hv
      simp
      omega
    have h3 : cntGe l v = (l.take (l.length - m + 1)).countP (fun x => decide (v ≤ x)) + (l.drop (l.length - m + 1)).countP (fun x => decide (v ≤ x)) := by
      unfold cntGe
      rw [← List.countP_append, List.take_append_drop]
    have h4 : (l.drop (l.length - m + 1)).countP (fun x => decide (v ≤ x)) ≤ (l.drop (l.length - m + 1)).length := List.countP_le_length
    rw [List.length_drop] at h4
    omega
  · intro hv
    have h3 : cntGe l v = (l.take (l.length - m)).countP (fun x => decide (v ≤ x)) + (l.drop (l.length - m)).countP (fun x => decide (v ≤ x)) := by
      unfold cntGe
      rw [← List.countP_append, List.take_append_drop]
    have h4 : (l.drop (l.length - m)).countP (fun x => decide (v ≤ x)) = (l.drop (l.length - m)).length := by
      rw [List.countP_eq_length]
      intro x hx
      obtain ⟨i, hi, rfl⟩ := List.mem_iff_getElem.1 hx
      rw [List.length_drop] at hi
      rw [List.getElem_drop]
      have := sorted_get h (i := l.length - m) (j := l.length - m + i) (by omega) (by omega)
      simp only [List.getD, show l.length - m + i < l.length by omega, show l.length - m < l.length by omega, List.getElem?_eq_getElem, Option.getD_some] at this hv
      simp
      omega
    rw [List.length_drop] at h4
    omega

def mostN (n : Int) : Nat := (n / 2 + 1).toNat
/-- What Reached answers, by counting alone. -/
theorem reach_spec (n : Int) (far : List Int) (hn : 1 ≤ n ∧ n ≤ 7) :
    0 ≤ reachN n far ∧ (∀ v, 0 < v → (v ≤ reachN n far ↔ mostN n ≤ cntGe far v)) := by
  have hm1 : 1 ≤ mostN n := by unfold mostN; omega
  unfold reachN
  by_cases hl : n / 2 + 1 ≤ (far.length : Int)
  · rw [if_pos ⟨hn.1, hn.2, hl⟩]
    have hm2 : mostN n ≤ (srt far).length := by rw [srt_len]; unfold mostN; omega
    refine ⟨by omega, fun v hv => ?_⟩
    have := cnt_ge_place (srt far) (srt_sorted far) (mostN n) hm1 hm2 v
    rw [cnt_srt, srt_len] at this
    rw [this]
    show v ≤ max ((srt far).getD (far.length - mostN n) 0) 0 ↔ _
    omega
  · rw [if_neg (by omega)]
    refine ⟨Int.le_refl _, fun v hv => ⟨fun h => by omega, fun h => ?_⟩⟩
    have : cntGe far v ≤ far.length := List.countP_le_length
    unfold mostN at h
    omega
theorem reach_mono (n : Int) (far far' : List Int) (hn : 1 ≤ n ∧ n ≤ 7) (h : ∀ v, cntGe far v ≤ cntGe far' v) : reachN n far ≤ reachN n far' := by
  have h1 := reach_spec n far hn
  have h2 := reach_spec n far' hn
  by_cases hp : 0 < reachN n far
  · have := (h1.2 _ hp).1 (Int.le_refl _)
    exact (h2.2 _ hp).2 (Nat.le_trans this (h _))
  · omega
theorem reach_most (n : Int) (far : List Int) (hn : 1 ≤ n ∧ n ≤ 7) (h : 0 < reachN n far) : mostN n ≤ cntGe far (reachN n far) :=
  ((reach_spec n far hn).2 _ h).1 (Int.le_refl _)
theorem reach_not (n : Int) (far : List Int) (hn : 1 ≤ n ∧ n ≤ 7) : cntGe far (reachN n far + 1) < mostN n := by
  have h := reach_spec n far hn
  have := h.2 (reachN n far + 1) (by omega)
  apply Classical.byContradiction
  intro hc
  have := this.2 (by omega)
  omega
end Go.Proofs.YtiamkjokiapanaaDoor
