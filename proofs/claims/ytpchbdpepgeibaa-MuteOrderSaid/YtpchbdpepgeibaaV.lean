/- Windows in plain Lean: what a row has; canonical rows; two canonical rows that have the same are equal. -/
import Derived.Test.YtpchbdpepgeibaaPturnx0
namespace Go.Proofs.Ytpchbdpepgeibaa.Pturn

def S32.has (w : S32) (b t : Int) : Prop := w.f0 = b ∧ w.f1 ≤ t ∧ t < w.f2
def has (l : List S32) (b t : Int) : Prop := ∃ w ∈ l, w.has b t
/-- The one lies wholly before the other, with room between them or in another bed. -/
def S32.lt (a b : S32) : Prop := a.f0 < b.f0 ∨ (a.f0 = b.f0 ∧ a.f2 < b.f1)
def Canon (l : List S32) : Prop := (∀ w ∈ l, w.f1 < w.f2) ∧ l.Pairwise S32.lt

theorem has_nil (b t : Int) : ¬ has [] b t := fun ⟨_, h, _⟩ => by cases h
theorem has_cons (w : S32) (l : List S32) (b t : Int) : has (w :: l) b t ↔ w.has b t ∨ has l b t := by
  simp [has]
theorem has_append (l m : List S32) (b t : Int) : has (l ++ m) b t ↔ has l b t ∨ has m b t := by
  simp [has, or_and_right, exists_or]
theorem Canon.tail {w : S32} {l : List S32} (h : Canon (w :: l)) : Canon l := ⟨fun u hu => h.1 u (List.mem_cons_of_mem _ hu), (List.pairwise_cons.1 h.2).2⟩
/-- Whatever a canonical row has lies at its first window or behind it. -/
theorem Canon.first {w : S32} {l : List S32} (h : Canon (w :: l)) {b t : Int} (hh : has (w :: l) b t) : w.f0 < b ∨ (w.f0 = b ∧ w.f1 ≤ t) := by
  obtain ⟨u, hu, h1, h2, h3⟩ := hh
  rcases List.mem_cons.1 hu with rfl | hu'
  · exact .inr ⟨h1, h2⟩
  · have h0 := h.1 w (by simp)
    rcases (List.pairwise_cons.1 h.2).1 u hu' with h4 | ⟨h4, h5⟩
    · exact .inl (by omega)
    · exact .inr ⟨by omega, by omega⟩
/-- Its first window's end is not had. -/
theorem Canon.at_end {w : S32} {l : List S32} (h : Canon (w :: l)) : ¬ has (w :: l) w.f0 w.f2 := by
  rintro ⟨u, hu, h1, h2, h3⟩
  rcases List.mem_cons.1 hu with rfl | hu'
  · omega
  · rcases (List.pairwise_cons.1 h.2).1 u hu' with h4 | ⟨h4, h5⟩ <;> omega
theorem Canon.rest {w : S32} {l : List S32} (h : Canon (w :: l)) (b t : Int) : has l b t ↔ has (w :: l) b t ∧ ¬ w.has b t := by
  rw [has_cons]
  constructor
  · intro hh
    refine ⟨.inr hh, ?_⟩
    obtain ⟨u, hu, h1, h2, h3⟩ := hh
    rintro ⟨g1, g2, g3⟩
    rcases (List.pairwise_cons.1 h.2).1 u hu with h4 | ⟨h4, h5⟩ <;> omega
  · rintro ⟨h1 | h1, h2⟩
    · exact absurd h1 h2
    · exact h1
theorem canon_unique : ∀ {l m : List S32}, Canon l → Canon m → (∀ b t, has l b t ↔ has m b t) → l = m
  | [], [], _, _, _ => rfl
  | [], w :: m, _, hm, h => by
    have h0 := hm.1 w (by simp)
    exact absurd ((h w.f0 w.f1).2 ⟨w, by simp, rfl, by omega, h0⟩) (has_nil _ _)
  | w :: l, [], hl, _, h => by
    have h0 := hl.1 w (by simp)
    exact absurd ((h w.f0 w.f1).1 ⟨w, by simp, rfl, by omega, h0⟩) (has_nil _ _)
  | w :: l, u :: m, hl, hm, h => by
    have hw := hl.1 w (by simp)
    have hu := hm.1 u (by simp)
    have a1 := hm.first ((h w.f0 w.f1).1 ⟨w, by simp, rfl, by omega, hw⟩)
    have a2 := hl.first ((h u.f0 u.f1).2 ⟨u, by simp, rfl, by omega, hu⟩)
    have hb : w.f0 = u.f0 := by omega
    have hf : w.f1 = u.f1 := by omega
    have ht : w.f2 = u.f2 := by
      apply Classical.byContradiction
      intro hne
      by_cases hlt : w.f2 < u.f2
      · exact hl.at_end ((h w.f0 w.f2).2 ⟨u, by simp, hb.symm, by omega, by omega⟩)
      · exact hm.at_end ((h u.f0 u.f2).1 ⟨w, by simp, hb, by omega, by omega⟩)
    have e : w = u := by cases w; cases u; simp_all
    subst e
    rw [canon_unique hl.tail hm.tail (fun b t => by rw [hl.rest, hm.rest, h])]

theorem has_single (w : S32) (b t : Int) : has [w] b t ↔ w.has b t := by simp [has]
theorem canon_snoc {l : List S32} {w : S32} : Canon (l ++ [w]) ↔ Canon l ∧ w.f1 < w.f2 ∧ ∀ u ∈ l, u.lt w := by
  unfold Canon
  rw [List.pairwise_append]
  constructor
  · rintro ⟨h1, h2, _, h3⟩
    exact ⟨⟨fun u hu => h1 u (by simp [hu]), h2⟩, h1 w (by simp), fun u hu => h3 u hu w (by simp)⟩
  · rintro ⟨⟨h1, h2⟩, h3, h4⟩
    refine ⟨fun u hu => ?_, h2, by simp, fun u hu v hv => by simp at hv; subst hv; exact h4 u hu⟩
    rcases List.mem_append.1 hu with h | h
    · exact h1 u h
    · simp at h; subst h; exact h3
theorem lt_trans' {a b c : S32} (hb : b.f1 < b.f2) (h1 : a.lt b) (h2 : b.lt c) : a.lt c := by
  unfold S32.lt at *; omega

/-- One more window, in the order of bed and begin. -/
def joinS (out : List S32) (w : S32) : List S32 :=
  match out.getLast? with
  | some z => if z.f0 = w.f0 ∧ w.f1 ≤ z.f2 then out.dropLast ++ [⟨z.f0, z.f1, max z.f2 w.f2⟩] else out ++ [w]
  | none => out ++ [w]
def le (a b : S32) : Prop := a.f0 < b.f0 ∨ (a.f0 = b.f0 ∧ a.f1 ≤ b.f1)
theorem joinS_snoc (l : List S32) (z w : S32) : joinS (l ++ [z]) w = if z.f0 = w.f0 ∧ w.f1 ≤ z.f2 then l ++ [⟨z.f0, z.f1, max z.f2 w.f2⟩] else l ++ [z] ++ [w] := by
  simp [joinS]
theorem join_step (out : List S32) (w : S32) (hc : Canon out) (hw : w.f1 < w.f2) (hle : ∀ z ∈ out.getLast?, le z w) :
    Canon (joinS out w) ∧ (∀ b t, has (joinS out w) b t ↔ has out b t ∨ w.has b t) ∧ (∀ z ∈ (joinS out w).getLast?, ∀ v, le w v → le z v) := by
  rcases List.eq_nil_or_concat out with rfl | ⟨l, z, rfl⟩
  · refine ⟨?_, ?_, ?_⟩
    · show Canon ([] ++ [w])
      exact canon_snoc.2 ⟨hc, hw, by simp⟩
    · intro b t
      show has ([] ++ [w]) b t ↔ _
      rw [has_append, has_single]
    · intro z hz v hv
      simp [joinS] at hz
      subst hz
      exact hv
  · simp only [List.concat_eq_append] at hc hle ⊢
    obtain ⟨h1, h2, h3⟩ := canon_snoc.1 hc
    have hzw : le z w := hle z (by simp)
    rw [joinS_snoc]
    by_cases h : z.f0 = w.f0 ∧ w.f1 ≤ z.f2
    · rw [if_pos h]
      refine ⟨canon_snoc.2 ⟨h1, ?_, ?_⟩, ?_, ?_⟩
      · show z.f1 < max z.f2 w.f2
        omega
      · intro u hu
        exact h3 u hu
      · intro b t
        rw [has_append, has_append, has_single, has_single, or_assoc]
        apply or_congr_right
        unfold S32.has le at *
        constructor
        · rintro ⟨g1, g2, g3⟩
          have g3' : t < max z.f2 w.f2 := g3
          have g2' : z.f1 ≤ t := g2
          have g1' : z.f0 = b := g1
          omega
        · intro hh
          refine ⟨?_, ?_, ?_⟩
          · show z.f0 = b
            omega
          · show z.f1 ≤ t
            omega
          · show t < max z.f2 w.f2
            omega
      · intro y hy v hv
        simp at hy
        subst hy
        unfold le at *
        show z.f0 < v.f0 ∨ (z.f0 = v.f0 ∧ z.f1 ≤ v.f1)
        omega
    · rw [if_neg h]
      have hlt : z.lt w := by unfold le at hzw; unfold S32.lt; omega
      refine ⟨canon_snoc.2 ⟨hc, hw, ?_⟩, ?_, ?_⟩
      · intro u hu
        rcases List.mem_append.1 hu with hu | hu
        · exact lt_trans' h2 (h3 u hu) hlt
        · simp at hu; subst hu; exact hlt
      · intro b t
        rw [has_append, has_single]
      · intro y hy v hv
        simp at hy
        subst hy
        exact hv
theorem join_all : ∀ (l out : List S32), Canon out → (∀ w ∈ l, w.f1 < w.f2) → l.Pairwise le → (∀ z ∈ out.getLast?, ∀ w ∈ l, le z w) →
    Canon (l.foldl joinS out) ∧ ∀ b t, has (l.foldl joinS out) b t ↔ has out b t ∨ has l b t
  | [], out, hc, _, _, _ => ⟨hc, fun b t => by simp [has_nil]⟩
  | w :: l, out, hc, hv, hs, hl => by
    obtain ⟨h1, h2, h3⟩ := join_step out w hc (hv w (by simp)) (fun z hz => hl z hz w (by simp))
    have hs' := List.pairwise_cons.1 hs
    obtain ⟨g1, g2⟩ := join_all l (joinS out w) h1 (fun u hu => hv u (by simp [hu])) hs'.2 (fun z hz u hu => h3 z hz u (hs'.1 u hu))
    refine ⟨g1, fun b t => ?_⟩
    rw [List.foldl_cons, g2, h2, has_cons, or_assoc]

/-- A window's parts that another one does not have. -/
def wo (a b : S32) : List S32 :=
  if a.f0 ≠ b.f0 ∨ b.f2 ≤ a.f1 ∨ a.f2 ≤ b.f1 then [a]
  else (if a.f1 < b.f1 then [⟨a.f0, a.f1, b.f1⟩] else []) ++ (if b.f2 < a.f2 then [⟨a.f0, b.f2, a.f2⟩] else [])
theorem wo_in (a b : S32) (ha : a.f1 < a.f2) (hb : b.f1 < b.f2) : ∀ u ∈ wo a b, u.f0 = a.f0 ∧ a.f1 ≤ u.f1 ∧ u.f1 < u.f2 ∧ u.f2 ≤ a.f2 := by
  intro u hu
  unfold wo at hu
  split at hu
  · simp at hu; subst hu; omega
  · rcases List.mem_append.1 hu with h | h
    · split at h
      · simp at h; subst h; refine ⟨rfl, ?_, ?_, ?_⟩ <;> dsimp <;> omega
      · cases h
    · split at h
      · simp at h; subst h; refine ⟨rfl, ?_, ?_, ?_⟩ <;> dsimp <;> omega
      · cases h
theorem wo_canon (a b : S32) (ha : a.f1 < a.f2) (hb : b.f1 < b.f2) : Canon (wo a b) := by
  refine ⟨fun u hu => (wo_in a b ha hb u hu).2.2.1, ?_⟩
  unfold wo
  split
  · simp
  · split <;> split <;> simp [S32.lt]
    omega
theorem wo_has (a b : S32) (hb : b.f1 < b.f2) (x t : Int) : has (wo a b) x t ↔ a.has x t ∧ ¬ b.has x t := by
  unfold wo
  split
  · rw [has_single]
    unfold S32.has
    omega
  · rw [has_append]
    have e1 : has (if a.f1 < b.f1 then [⟨a.f0, a.f1, b.f1⟩] else []) x t ↔ a.f1 < b.f1 ∧ a.f0 = x ∧ a.f1 ≤ t ∧ t < b.f1 := by
      split
      · rw [has_single]; unfold S32.has; dsimp; omega
      · constructor
        · intro h; exact absurd h (has_nil _ _)
        · intro h; omega
    have e2 : has (if b.f2 < a.f2 then [⟨a.f0, b.f2, a.f2⟩] else []) x t ↔ b.f2 < a.f2 ∧ a.f0 = x ∧ b.f2 ≤ t ∧ t < a.f2 := by
      split
      · rw [has_single]; unfold S32.has; dsimp; omega
      · constructor
        · intro h; exact absurd h (has_nil _ _)
        · intro h; omega
    rw [e1, e2]
    unfold S32.has
    omega
def cutS (l : List S32) (b : S32) : List S32 := l.flatMap fun a => wo a b
theorem cut_step (b : S32) (hb : b.f1 < b.f2) : ∀ (l : List S32), Canon l → Canon (cutS l b) ∧ ∀ x t, has (cutS l b) x t ↔ has l x t ∧ ¬ b.has x t
  | [], _ => ⟨⟨by simp [cutS], by simp [cutS]⟩, fun x t => by simp [cutS, has]⟩
  | a :: l, h => by
    obtain ⟨h1, h2⟩ := cut_step b hb l h.tail
    have ha := h.1 a (by simp)
    have hw := wo_canon a b ha hb
    have e : cutS (a :: l) b = wo a b ++ cutS l b := by simp [cutS]
    rw [e]
    refine ⟨⟨fun u hu => ?_, ?_⟩, fun x t => ?_⟩
    · rcases List.mem_append.1 hu with hu | hu
      · exact hw.1 u hu
      · exact h1.1 u hu
    · rw [List.pairwise_append]
      refine ⟨hw.2, h1.2, fun u hu v hv => ?_⟩
      have hu' := wo_in a b ha hb u hu
      obtain ⟨c, hc, hv⟩ := List.mem_flatMap.1 hv
      have hv' := wo_in c b (h.1 c (by simp [hc])) hb v hv
      have hac := (List.pairwise_cons.1 h.2).1 c hc
      unfold S32.lt at *
      omega
    · rw [has_append, h2, wo_has a b hb, has_cons, or_and_right]
theorem cut_all : ∀ (m l : List S32), Canon l → (∀ b ∈ m, b.f1 < b.f2) → Canon (m.foldl cutS l) ∧ ∀ x t, has (m.foldl cutS l) x t ↔ has l x t ∧ ¬ has m x t
  | [], l, h, _ => ⟨h, fun x t => by simp [has_nil]⟩
  | b :: m, l, h, hv => by
    obtain ⟨h1, h2⟩ := cut_step b (hv b (by simp)) l h
    obtain ⟨g1, g2⟩ := cut_all m (cutS l b) h1 (fun u hu => hv u (by simp [hu]))
    refine ⟨g1, fun x t => ?_⟩
    rw [List.foldl_cons, g2, h2, has_cons, not_or, and_assoc]
end Go.Proofs.Ytpchbdpepgeibaa.Pturn
