/- The document's windows are canonical and have just what they are to have; right rows are canonical; the laws in plain Lean. -/
import Derived.Test.YtpchbdpepgeibaaE
namespace Go.Proofs.Ytpchbdpepgeibaa.Pturn
open Go.RowKit Go.Proofs.YtpchbdpepgeibaaW.PrintWords

theorem mks_mem (b : Int) : ∀ (l : List S32) (o : List Int) (x : Int), x ∈ l.foldl (mkStep b) o ↔ x ∈ o ∨ ∃ w ∈ l, w.f0 = b ∧ (x = w.f1 ∨ x = w.f2)
  | [], o, x => by simp
  | w :: l, o, x => by
    rw [List.foldl_cons, mks_mem b l (mkStep b o w) x]
    have : x ∈ mkStep b o w ↔ x ∈ o ∨ (w.f0 = b ∧ (x = w.f1 ∨ x = w.f2)) := by
      unfold mkStep
      split
      · next h => rw [putL_mem, putL_mem]; simp [h, or_assoc]
      · next h => simp [h]
    rw [this]
    simp only [List.mem_cons, exists_eq_or_imp, or_assoc]
theorem mks_sorted (b : Int) : ∀ (l : List S32) (o : List Int), o.Pairwise (· < ·) → (l.foldl (mkStep b) o).Pairwise (· < ·)
  | [], o, h => h
  | w :: l, o, h => by
    rw [List.foldl_cons]
    refine mks_sorted b l _ ?_
    unfold mkStep
    split
    · exact putL_sorted _ _ (putL_sorted _ _ h)
    · exact h

/-- Two neighbours of a row. -/
def Nb (ks : List Int) (p q : Int) : Prop := ∃ a c, ks = a ++ p :: q :: c
theorem Nb_cons (x : Int) (ks : List Int) (p q : Int) (h : Nb ks p q) : Nb (x :: ks) p q := by
  obtain ⟨a, c, rfl⟩ := h
  exact ⟨x :: a, c, rfl⟩
theorem nb_between (ks : List Int) (hs : ks.Pairwise (· < ·)) (p q : Int) (h : Nb ks p q) : p < q ∧ p ∈ ks ∧ q ∈ ks ∧ ∀ x ∈ ks, x ≤ p ∨ q ≤ x := by
  obtain ⟨a, c, rfl⟩ := h
  rw [List.pairwise_append] at hs
  obtain ⟨h1, h2, h3⟩ := hs
  obtain ⟨h4, h5⟩ := List.pairwise_cons.1 h2
  obtain ⟨h6, h7⟩ := List.pairwise_cons.1 h5
  refine ⟨h4 q (by simp), by simp, by simp, fun x hx => ?_⟩
  rcases List.mem_append.1 hx with hx | hx
  · exact .inl (by have := h3 x hx p (by simp); omega)
  · rcases List.mem_cons.1 hx with rfl | hx
    · exact .inl (Int.le_refl _)
    · rcases List.mem_cons.1 hx with rfl | hx
      · exact .inr (Int.le_refl _)
      · exact .inr (by have := h6 x hx; omega)
theorem nb_ex : ∀ (ks : List Int), ks.Pairwise (· < ·) → ∀ (a b t : Int), a ∈ ks → b ∈ ks → a ≤ t → t < b → ∃ p q, Nb ks p q ∧ p ≤ t ∧ t < q
  | [], _, _, _, _, h, _, _, _ => by cases h
  | [x], _, a, b, t, ha, hb, h1, h2 => by simp at ha hb; omega
  | x :: y :: r, hs, a, b, t, ha, hb, h1, h2 => by
    by_cases hy : t < y
    · refine ⟨x, y, ⟨[], r, rfl⟩, ?_, hy⟩
      rcases List.mem_cons.1 ha with rfl | ha
      · exact h1
      · obtain ⟨h3, h4⟩ := List.pairwise_cons.1 hs
        obtain ⟨h5, h6⟩ := List.pairwise_cons.1 h4
        rcases List.mem_cons.1 ha with rfl | ha
        · omega
        · have := h5 a ha; omega
    · obtain ⟨h3, h4⟩ := List.pairwise_cons.1 hs
      have hb' : b ∈ y :: r := by
        rcases List.mem_cons.1 hb with rfl | hb
        · have := h3 y (by simp); omega
        · exact hb
      obtain ⟨p, q, hn, h⟩ := nb_ex (y :: r) h4 y b t (by simp) hb' (by omega) h2
      exact ⟨p, q, Nb_cons _ _ _ _ hn, h⟩

theorem innS_spec (ok : Int → Bool) (b : Int) : ∀ (ks : List Int) (out : List S32), ks.Pairwise (· < ·) → Canon out → (∀ w ∈ out, w.f0 < b ∨ (w.f0 = b ∧ ∀ p ∈ ks.head?, w.f2 ≤ p)) →
    Canon (innS ok b out ks) ∧ (∀ w ∈ innS ok b out ks, w.f0 < b + 1) ∧ ∀ x t, has (innS ok b out ks) x t ↔ has out x t ∨ (x = b ∧ ∃ p q, Nb ks p q ∧ ok p = true ∧ p ≤ t ∧ t < q)
  | [], out, hs, hc, hw => by
    rw [innS]
    · refine ⟨hc, fun w h => ?_, fun x t => ?_⟩
      · rcases hw w h with h | h <;> omega
      · constructor
        · exact .inl
        · rintro (h | ⟨_, p, q, ⟨a, c, e⟩, _⟩)
          · exact h
          · simp at e
    · simp
  | [p0], out, hs, hc, hw => by
    rw [innS]
    · refine ⟨hc, fun w h => ?_, fun x t => ?_⟩
      · rcases hw w h with h | h <;> omega
      · constructor
        · exact .inl
        · rintro (h | ⟨_, p, q, ⟨a, c, e⟩, _⟩)
          · exact h
          · have := congrArg List.length e; simp at this; omega
    · simp
  | p0 :: q0 :: r, out, hs, hc, hw => by
    obtain ⟨h1, h2⟩ := List.pairwise_cons.1 hs
    have hpq : p0 < q0 := h1 q0 (by simp)
    rw [innS]
    have hnb : ∀ p q, Nb (p0 :: q0 :: r) p q ↔ (p = p0 ∧ q = q0) ∨ Nb (q0 :: r) p q := by
      intro p q
      constructor
      · rintro ⟨a, c, e⟩
        cases a with
        | nil => simp at e; exact .inl ⟨e.1.symm, e.2.1.symm⟩
        | cons y a => simp at e; exact .inr ⟨a, c, e.2⟩
      · rintro (⟨rfl, rfl⟩ | h)
        · exact ⟨[], r, rfl⟩
        · exact Nb_cons _ _ _ _ h
    cases hok : ok p0 with
    | false =>
      rw [if_neg (by simp)]
      obtain ⟨g1, g2, g3⟩ := innS_spec ok b (q0 :: r) out h2 hc (fun w h => by
        rcases hw w h with h | ⟨h, h'⟩
        · exact .inl h
        · exact .inr ⟨h, fun p hp => by simp at hp; subst hp; have := h' p0 (by simp); omega⟩)
      refine ⟨g1, g2, fun x t => ?_⟩
      rw [g3]
      apply or_congr_right
      apply and_congr_right
      intro _
      constructor
      · rintro ⟨p, q, hn, h⟩
        exact ⟨p, q, (hnb p q).2 (.inr hn), h⟩
      · rintro ⟨p, q, hn, h, h'⟩
        rcases (hnb p q).1 hn with ⟨rfl, rfl⟩ | hn
        · rw [hok] at h; cases h
        · exact ⟨p, q, hn, h, h'⟩
    | true =>
      rw [if_pos rfl]
      have hz : ∀ z ∈ out.getLast?, z ∈ out := fun z hz => List.mem_of_getLast? (by simpa using hz)
      have ej := winS_join out b p0 q0 (fun z h hb => by
        rcases hw z (hz z h) with h' | ⟨_, h'⟩
        · omega
        · exact h' p0 (by simp)) hpq
      obtain ⟨j1, j2, j3⟩ := join_step out ⟨b, p0, q0⟩ hc hpq (fun z h => by
        rcases hw z (hz z h) with h' | ⟨h', h''⟩
        · exact .inl h'
        · refine .inr ⟨h', ?_⟩
          have := h'' p0 (by simp)
          have := hc.1 z (hz z h)
          show z.f1 ≤ p0
          omega)
      rw [ej]
      have hmem : ∀ w ∈ joinS out ⟨b, p0, q0⟩, w.f0 < b ∨ (w.f0 = b ∧ w.f2 ≤ q0) := by
        intro w hwj
        rw [← ej] at hwj
        unfold winS at hwj
        have hold : ∀ w ∈ out, w.f0 < b ∨ (w.f0 = b ∧ w.f2 ≤ q0) := fun w h => by
          rcases hw w h with h' | ⟨h', h''⟩
          · exact .inl h'
          · exact .inr ⟨h', by have := h'' p0 (by simp); omega⟩
        split at hwj
        · next hh =>
          rcases List.mem_or_eq_of_mem_set hwj with h | h
          · exact hold w h
          · subst h; exact .inr ⟨hh.2.1, Int.le_refl _⟩
        · rcases List.mem_append.1 hwj with h | h
          · exact hold w h
          · simp at h; subst h; exact .inr ⟨rfl, Int.le_refl _⟩
      obtain ⟨g1, g2, g3⟩ := innS_spec ok b (q0 :: r) _ h2 j1 (fun w h => by
        rcases hmem w h with h' | ⟨h', h''⟩
        · exact .inl h'
        · exact .inr ⟨h', fun p hp => by simp at hp; subst hp; exact h''⟩)
      refine ⟨g1, g2, fun x t => ?_⟩
      rw [g3, j2, or_assoc]
      apply or_congr_right
      unfold S32.has
      constructor
      · rintro (⟨h3, h4, h5⟩ | ⟨h3, p, q, hn, h⟩)
        · exact ⟨h3.symm, p0, q0, (hnb _ _).2 (.inl ⟨rfl, rfl⟩), hok, h4, h5⟩
        · exact ⟨h3, p, q, (hnb p q).2 (.inr hn), h⟩
      · rintro ⟨h3, p, q, hn, h, h'⟩
        rcases (hnb p q).1 hn with ⟨rfl, rfl⟩ | hn
        · exact .inl ⟨h3.symm, h'⟩
        · exact .inr ⟨h3, p, q, hn, h, h'⟩

theorem has_const (l all : List S32) (hsub : ∀ w ∈ l, w ∈ all) (b : Int) (p q t : Int) (hp : ∀ x ∈ mks all b, x ≤ p ∨ q ≤ x) (h1 : p ≤ t) (h2 : t < q) : hasB l b p = hasB l b t := by
  rw [Bool.eq_iff_iff, hasB_iff, hasB_iff]
  have hm : ∀ w ∈ l, w.f0 = b → (w.f1 ≤ p ∨ q ≤ w.f1) ∧ (w.f2 ≤ p ∨ q ≤ w.f2) := fun w hw hb =>
    ⟨hp _ ((mks_mem b all [] _).2 (.inr ⟨w, hsub w hw, hb, .inl rfl⟩)), hp _ ((mks_mem b all [] _).2 (.inr ⟨w, hsub w hw, hb, .inr rfl⟩))⟩
  constructor
  · rintro ⟨w, hw, g1, g2, g3⟩
    have := hm w hw g1
    exact ⟨w, hw, g1, by omega, by omega⟩
  · rintro ⟨w, hw, g1, g2, g3⟩
    have := hm w hw g1
    exact ⟨w, hw, g1, by omega, by omega⟩
theorem in_const (l m : List S32) (both : Bool) (b : Int) (p q t : Int) (hp : ∀ x ∈ mks (l ++ m) b, x ≤ p ∨ q ≤ x) (h1 : p ≤ t) (h2 : t < q) : inB l m both b p = inB l m both b t := by
  unfold inB
  rw [has_const l (l ++ m) (fun w h => by simp [h]) b p q t hp h1 h2, has_const m (l ++ m) (fun w h => by simp [h]) b p q t hp h1 h2]
theorem in_some (l m : List S32) (both : Bool) (b t : Int) (h : inB l m both b t = true) : ∃ w ∈ l ++ m, w.has b t := by
  have : hasB l b t = true ∨ hasB m b t = true := by
    unfold inB at h
    cases both <;> simp at h
    · exact .inl h.1
    · exact h
  rcases this with h | h
  · obtain ⟨w, hw, hh⟩ := (hasB_iff _ _ _).1 h
    exact ⟨w, by simp [hw], hh⟩
  · obtain ⟨w, hw, hh⟩ := (hasB_iff _ _ _).1 h
    exact ⟨w, by simp [hw], hh⟩
theorem in_nb (l m : List S32) (both : Bool) (b t : Int) : (∃ p q, Nb (mks (l ++ m) b) p q ∧ inB l m both b p = true ∧ p ≤ t ∧ t < q) ↔ inB l m both b t = true := by
  have hs : (mks (l ++ m) b).Pairwise (· < ·) := mks_sorted b (l ++ m) [] List.Pairwise.nil
  constructor
  · rintro ⟨p, q, hn, h, h1, h2⟩
    obtain ⟨_, _, _, h3⟩ := nb_between _ hs p q hn
    rw [← in_const l m both b p q t h3 h1 h2]
    exact h
  · intro h
    obtain ⟨w, hw, g1, g2, g3⟩ := in_some l m both b t h
    obtain ⟨p, q, hn, h1, h2⟩ := nb_ex _ hs w.f1 w.f2 t ((mks_mem b _ [] _).2 (.inr ⟨w, hw, g1, .inl rfl⟩)) ((mks_mem b _ [] _).2 (.inr ⟨w, hw, g1, .inr rfl⟩)) g2 g3
    obtain ⟨_, _, _, h3⟩ := nb_between _ hs p q hn
    exact ⟨p, q, hn, by rw [in_const l m both b p q t h3 h1 h2]; exact h, h1, h2⟩
theorem outF_spec (l m : List S32) (both : Bool) : ∀ (d : Nat) (b : Int) (out : List S32), Canon out → (∀ w ∈ out, w.f0 < b) →
    Canon (outF l m both (l ++ m) d b out) ∧ ∀ x t, has (outF l m both (l ++ m) d b out) x t ↔ has out x t ∨ (b ≤ x ∧ x < b + d ∧ inB l m both x t = true)
  | 0, b, out, hc, hw => by
    rw [outF]
    refine ⟨hc, fun x t => ⟨.inl, ?_⟩⟩
    rintro (h | ⟨h1, h2, _⟩)
    · exact h
    · omega
  | d + 1, b, out, hc, hw => by
    rw [outF]
    have hs : (mks (l ++ m) b).Pairwise (· < ·) := mks_sorted b (l ++ m) [] List.Pairwise.nil
    obtain ⟨g1, g2, g3⟩ := innS_spec (inB l m both b) b (mks (l ++ m) b) out hs hc (fun w h => .inl (hw w h))
    obtain ⟨i1, i2⟩ := outF_spec l m both d (b + 1) _ g1 g2
    refine ⟨i1, fun x t => ?_⟩
    rw [i2, g3, or_assoc]
    apply or_congr_right
    constructor
    · rintro (⟨rfl, h⟩ | ⟨h1, h2, h3⟩)
      · exact ⟨by omega, by omega, (in_nb l m both x t).1 h⟩
      · exact ⟨by omega, by omega, h3⟩
    · rintro ⟨h1, h2, h3⟩
      by_cases e : x = b
      · subst e; exact .inl ⟨rfl, (in_nb l m both x t).2 h3⟩
      · exact .inr ⟨by omega, by omega, h3⟩
theorem canon_nil : Canon [] := ⟨fun w h => (by cases h), List.Pairwise.nil⟩
theorem winW_spec (l m : List S32) (both : Bool) : Canon (winW l m both) ∧ ∀ x t, has (winW l m both) x t ↔ 1 ≤ x ∧ x < 100 ∧ inB l m both x t = true := by
  obtain ⟨h1, h2⟩ := outF_spec l m both 99 1 [] canon_nil (fun w h => by cases h)
  refine ⟨h1, fun x t => ?_⟩
  rw [winW, h2]
  have := has_nil x t
  simp [this]
theorem may_spec {w : S32} (h : mayB w = true) : 1 ≤ w.f0 ∧ w.f0 ≤ 99 ∧ 0 ≤ w.f1 ∧ w.f1 < w.f2 ∧ w.f2 ≤ 1000000000 := by unfold mayB at h; simpa using h
theorem all_may {m : List S32} (h : m.all mayB = true) (w : S32) (hw : w ∈ m) : 1 ≤ w.f0 ∧ w.f0 ≤ 99 ∧ 0 ≤ w.f1 ∧ w.f1 < w.f2 ∧ w.f2 ≤ 1000000000 := may_spec ((List.all_eq_true.1 h) w hw)
theorem pair_of_nb (l : List S32) (hv : ∀ w ∈ l, w.f1 < w.f2) (h : ∀ j, 0 < j → j < l.length → ltB (l.getD (j - 1) z32) (l.getD j z32) = true) : l.Pairwise S32.lt := by
  have key : ∀ (j : Nat), j < l.length → ∀ i, i < j → (l.getD i z32).lt (l.getD j z32) := by
    intro j
    induction j with
    | zero => intro _ i hi; omega
    | succ j ih =>
      intro hj i hi
      have h1 := h (j + 1) (by omega) hj
      rw [Nat.add_sub_cancel] at h1
      unfold ltB at h1
      simp only [decide_eq_true_eq] at h1
      have h1' : (l.getD j z32).lt (l.getD (j + 1) z32) := h1
      by_cases e : i = j
      · subst e; exact h1'
      · exact lt_trans' (hv _ (by rw [getD_eq l z32 j (by omega)]; exact List.getElem_mem _)) (ih (by omega) i (by omega)) h1'
  rw [List.pairwise_iff_getElem]
  intro i j hi hj hij
  have := key j hj i hij
  rwa [getD_eq l z32 i hi, getD_eq l z32 j hj] at this
theorem is_spec {l : List S32} (h : isB l = true) : Canon l ∧ (∀ w ∈ l, mayB w = true) ∧ l.length ≤ 100 := by
  unfold isB at h
  rw [Bool.and_eq_true, List.all_eq_true] at h
  obtain ⟨h1, h2⟩ := h
  have h1' : ∀ j, j < l.length → okAt l j = true := fun j hj => h1 j (List.mem_range.2 hj)
  have hm : ∀ w ∈ l, mayB w = true := fun w hw => by
    obtain ⟨j, hj, rfl⟩ := List.getElem_of_mem hw
    have := h1' j hj
    unfold okAt at this
    rw [Bool.and_eq_true] at this
    rw [← getD_eq l z32 j hj]
    exact this.1
  have hv : ∀ w ∈ l, w.f1 < w.f2 := fun w hw => (may_spec (hm w hw)).2.2.2.1
  refine ⟨⟨hv, pair_of_nb l hv fun j h0 hj => ?_⟩, hm, by simpa using h2⟩
  have := h1' j hj
  unfold okAt at this
  rw [Bool.and_eq_true, Bool.or_eq_true] at this
  rcases this.2 with h | h
  · simp at h; omega
  · exact h
theorem has_bed {l : List S32} (h : ∀ w ∈ l, mayB w = true) {x t : Int} (hh : has l x t) : 1 ≤ x ∧ x < 100 := by
  obtain ⟨w, hw, h1, h2⟩ := hh
  have := may_spec (h w hw)
  omega
theorem inB_iff (l m : List S32) (b t : Int) : (inB l m true b t = true ↔ has l b t ∨ has m b t) ∧ (inB l m false b t = true ↔ has l b t ∧ ¬ has m b t) := by
  unfold inB
  rw [← hasB_iff, ← hasB_iff]
  constructor
  · simp
  · simp
/-- WHATEVER CANONICAL ROW HAS WHAT BOTH HAVE IS THE DOCUMENT's. -/
theorem win_both {l m r : List S32} (hl : ∀ w ∈ l, mayB w = true) (hm : ∀ w ∈ m, mayB w = true) (hc : Canon r) (hr : ∀ b t, has r b t ↔ has l b t ∨ has m b t) : r = winW l m true := by
  obtain ⟨h1, h2⟩ := winW_spec l m true
  refine canon_unique hc h1 fun b t => ?_
  rw [h2, hr, (inB_iff l m b t).1]
  constructor
  · intro h
    have : 1 ≤ b ∧ b < 100 := by
      rcases h with h | h
      · exact has_bed hl h
      · exact has_bed hm h
    exact ⟨this.1, this.2, h⟩
  · exact fun h => h.2.2
theorem win_less {l m r : List S32} (hl : ∀ w ∈ l, mayB w = true) (hc : Canon r) (hr : ∀ b t, has r b t ↔ has l b t ∧ ¬ has m b t) : r = winW l m false := by
  obtain ⟨h1, h2⟩ := winW_spec l m false
  refine canon_unique hc h1 fun b t => ?_
  rw [h2, hr, (inB_iff l m b t).2]
  constructor
  · intro h
    have := has_bed hl h.1
    exact ⟨this.1, this.2, h⟩
  · exact fun h => h.2.2
/-- The program's Add: what is sorted, joined. -/
theorem join_win {l m s : List S32} (hl : isB l = true) (hm : m.all mayB = true) (hp : s.Perm (l ++ m)) (hs : s.Pairwise le) : s.foldl joinS [] = winW l m true := by
  obtain ⟨h1, h2, h3⟩ := is_spec hl
  have hm' : ∀ w ∈ m, mayB w = true := List.all_eq_true.1 hm
  have hv : ∀ w ∈ s, w.f1 < w.f2 := fun w hw => by
    rcases List.mem_append.1 (hp.mem_iff.1 hw) with h | h
    · exact (may_spec (h2 w h)).2.2.2.1
    · exact (may_spec (hm' w h)).2.2.2.1
  obtain ⟨j1, j2⟩ := join_all s [] canon_nil hv hs (fun z h => by simp at h)
  refine win_both h2 hm' j1 fun b t => ?_
  rw [j2]
  have h0 := has_nil b t
  have h4 : has s b t ↔ has (l ++ m) b t := by
    unfold has
    constructor
    · rintro ⟨w, hw, h⟩; exact ⟨w, hp.mem_iff.1 hw, h⟩
    · rintro ⟨w, hw, h⟩; exact ⟨w, hp.mem_iff.2 hw, h⟩
  rw [h4, has_append]
  simp [h0]
/-- The program's Cut. -/
theorem cut_win {l m : List S32} (hl : isB l = true) (hm : m.all mayB = true) : m.foldl cutS l = winW l m false := by
  obtain ⟨h1, h2, h3⟩ := is_spec hl
  obtain ⟨j1, j2⟩ := cut_all m l h1 (fun b hb => (all_may hm b hb).2.2.2.1)
  exact win_less h2 j1 j2
end Go.Proofs.Ytpchbdpepgeibaa.Pturn
