/- The document's functions of mute in plain Lean: what the printed ones come to. -/
import Derived.Test.YtpchbdpepgeibaaV
import Derived.Test.YtpchbdpepgeibaaPturnx3
namespace Go.Proofs.Ytpchbdpepgeibaa.Pturn
open Go.RowKit Go.Proofs.YtpchbdpepgeibaaW.PrintWords

theorem wr_up (i : Int) (h0 : 0 ≤ i) (h1 : i ≤ 1000000000) : wrap64 (i + 1) = i + 1 := by unfold wrap64; omega
theorem wr_dn (i : Int) (h0 : 0 ≤ i) (h1 : i ≤ 1000000000) : wrap64 (i - 1) = i - 1 := by unfold wrap64; omega
theorem rdT (l : List S32) (i : Nat) : rd_T32 l (i : Int) = l.getD i z32 := by unfold rd_T32; rw [Int.toNat_natCast]
theorem rdI (l : List Int) (i : Nat) : rd l (i : Int) = l.getD i 0 := by unfold rd; rw [Int.toNat_natCast]
theorem getD_eq {α : Type} (l : List α) (d : α) (i : Nat) (h : i < l.length) : l.getD i d = l[i] := by
  rw [List.getD_eq_getElem?_getD, List.getElem?_eq_getElem h]; rfl
theorem drop_cons {α : Type} (l : List α) (d : α) (i : Nat) (h : i < l.length) : l.drop i = l.getD i d :: l.drop (i + 1) := by
  rw [List.drop_eq_getElem_cons h, getD_eq l d i h]

def mayB (w : S32) : Bool := decide (1 ≤ w.f0 ∧ w.f0 ≤ 99 ∧ 0 ≤ w.f1 ∧ w.f1 < w.f2 ∧ w.f2 ≤ 1000000000)
theorem may_f (w : S32) : watchmanref10_May.f w.f0 w.f1 w.f2 = some (mayB w) := by
  unfold watchmanref10_May.f mayB
  by_cases h1 : w.f0 ≥ 1
  · by_cases h2 : w.f0 ≤ 99
    · by_cases h3 : w.f1 ≥ 0
      · by_cases h4 : w.f1 < w.f2
        · rw [if_pos h1, if_pos h2, if_pos h3, if_pos h4]
          congr 1
          rw [Bool.eq_iff_iff]
          simp
          omega
        · rw [if_pos h1, if_pos h2, if_pos h3, if_neg h4]
          congr 1; symm; simp; omega
      · rw [if_pos h1, if_pos h2, if_neg h3]
        congr 1; symm; simp; omega
    · rw [if_pos h1, if_neg h2]
      congr 1; symm; simp; omega
  · rw [if_neg h1]
    congr 1; symm; simp; omega

/-- The one lies before the other. -/
def ltB (a b : S32) : Bool := decide (a.f0 < b.f0 ∨ (a.f0 = b.f0 ∧ a.f2 < b.f1))
def okAt (l : List S32) (j : Nat) : Bool := mayB (l.getD j z32) && (decide (j = 0) || ltB (l.getD (j - 1) z32) (l.getD j z32))
def isB (l : List S32) : Bool := (List.range l.length).all (okAt l) && decide (l.length ≤ 100)
theorem isB_bad (l : List S32) (i : Nat) (h : i < l.length) (hb : okAt l i = false) : isB l = false := by
  unfold isB
  rw [Bool.and_eq_false_iff]
  left
  rw [List.all_eq_false]
  exact ⟨i, List.mem_range.2 h, by simp [hb]⟩
theorem isB_good (l : List S32) (h : ∀ j, j < l.length → okAt l j = true) : isB l = decide (l.length ≤ 100) := by
  unfold isB
  have : (List.range l.length).all (okAt l) = true := by rw [List.all_eq_true]; intro x hx; exact h x (List.mem_range.1 hx)
  rw [this, Bool.true_and]
theorem is_l0 (l : List S32) (hl : l.length ≤ 1000000) : ∀ (d i : Nat), i + d = l.length → (∀ j, j < i → okAt l j = true) → Ev (fun k => watchmanref10_Is.l0 k l (i : Int)) (isB l)
  | 0, i, hd, hj => by
    refine ⟨1, fun k hk => ?_⟩
    obtain ⟨m, rfl⟩ : ∃ m, k = m + 1 := ⟨k - 1, by omega⟩
    dsimp only
    rw [watchmanref10_Is.l0, if_neg (by omega), isB_good l (fun j h => hj j (by omega))]
    congr 1
    rw [Bool.eq_iff_iff]
    simp only [decide_eq_true_eq]
    omega
  | d + 1, i, hd, hj => by
    have hi : i < l.length := by omega
    cases hok : okAt l i with
    | false =>
      rw [isB_bad l i hi hok]
      refine ⟨1, fun k hk => ?_⟩
      obtain ⟨m, rfl⟩ : ∃ m, k = m + 1 := ⟨k - 1, by omega⟩
      dsimp only
      rw [watchmanref10_Is.l0, if_pos (by omega), if_pos (by omega), rdT, may_f, Option.bind_some]
      unfold okAt at hok
      cases hm : mayB (l.getD i z32) with
      | false => rw [if_neg (by simp)]
      | true =>
        rw [hm, Bool.true_and, Bool.or_eq_false_iff] at hok
        obtain ⟨h0, hlt⟩ := hok
        have hi0 : i ≠ 0 := by simpa using h0
        rw [if_pos rfl, if_pos (by omega), wr_dn _ (by omega) (by omega), if_pos (by omega), if_pos (by omega)]
        have e : ((i : Int) - 1) = ((i - 1 : Nat) : Int) := by omega
        rw [e, rdT]
        unfold ltB at hlt
        simp only [decide_eq_false_iff_not] at hlt
        by_cases h1 : (l.getD (i - 1) z32).f0 > (l.getD i z32).f0
        · rw [if_pos h1]
        · rw [if_neg h1, if_pos (by omega), if_pos (by omega)]
    | true =>
      obtain ⟨K, hK⟩ := is_l0 l hl d (i + 1) (by omega) (fun j h => by
        by_cases e : j = i
        · subst e; exact hok
        · exact hj j (by omega))
      refine ⟨K + 1, fun k hk => ?_⟩
      obtain ⟨m, rfl⟩ : ∃ m, k = m + 1 := ⟨k - 1, by omega⟩
      dsimp only
      rw [watchmanref10_Is.l0, if_pos (by omega), if_pos (by omega), rdT, may_f, Option.bind_some, wr_up _ (by omega) (by omega)]
      unfold okAt at hok
      rw [Bool.and_eq_true] at hok
      have hn := hK m (by omega)
      have hn' : watchmanref10_Is.l0 m l ((i : Int) + 1) = some (isB l) := hn
      rw [hok.1, if_pos rfl, hn']
      by_cases hi0 : i = 0
      · rw [if_neg (by omega)]
      · rw [if_pos (by omega), wr_dn _ (by omega) (by omega), if_pos (by omega), if_pos (by omega)]
        have e : ((i : Int) - 1) = ((i - 1 : Nat) : Int) := by omega
        rw [e, rdT]
        have hlt := hok.2
        rw [Bool.or_eq_true] at hlt
        have hlt : ltB (l.getD (i - 1) z32) (l.getD i z32) = true := by
          rcases hlt with h | h
          · simp [hi0] at h
          · exact h
        unfold ltB at hlt
        simp only [decide_eq_true_eq] at hlt
        rw [if_neg (by omega)]
        by_cases h2 : (l.getD (i - 1) z32).f0 = (l.getD i z32).f0
        · rw [if_pos h2, if_neg (by omega)]
        · rw [if_neg h2]
theorem is_ev (l : List S32) (hl : l.length ≤ 1000000) : Ev (fun k => watchmanref10_Is.f k l) (isB l) := is_l0 l hl l.length 0 (by omega) (fun j h => by omega)

def hitB (w : S32) (b t : Int) : Bool := decide (w.f0 = b ∧ w.f1 ≤ t ∧ t < w.f2)
def hasB (l : List S32) (b t : Int) : Bool := l.any fun w => hitB w b t
theorem hasB_iff (l : List S32) (b t : Int) : hasB l b t = true ↔ has l b t := by
  unfold hasB has hitB S32.has
  simp [List.any_eq_true]
theorem has_l0 (l : List S32) (hl : l.length ≤ 1000000) (b t : Int) : ∀ (d i : Nat), i + d = l.length → (∀ j, j < i → hitB (l.getD j z32) b t = false) → Ev (fun k => watchmanref10_Has.l0 k l b t (i : Int)) (hasB l b t)
  | 0, i, hd, hj => by
    refine ⟨1, fun k hk => ?_⟩
    obtain ⟨m, rfl⟩ : ∃ m, k = m + 1 := ⟨k - 1, by omega⟩
    dsimp only
    rw [watchmanref10_Has.l0, if_neg (by omega)]
    have : hasB l b t = false := by
      unfold hasB
      rw [List.any_eq_false]
      intro w hw
      obtain ⟨j, hjl, rfl⟩ := List.getElem_of_mem hw
      have := hj j (by omega)
      rw [getD_eq l z32 j hjl] at this
      simp [this]
    rw [this]
  | d + 1, i, hd, hj => by
    have hi : i < l.length := by omega
    cases hh : hitB (l.getD i z32) b t with
    | true =>
      refine ⟨1, fun k hk => ?_⟩
      obtain ⟨m, rfl⟩ : ∃ m, k = m + 1 := ⟨k - 1, by omega⟩
      dsimp only
      have ht : hasB l b t = true := by
        unfold hasB
        rw [List.any_eq_true]
        exact ⟨_, by rw [getD_eq l z32 i hi]; exact List.getElem_mem hi, hh⟩
      unfold hitB at hh
      simp only [decide_eq_true_eq] at hh
      rw [watchmanref10_Has.l0, if_pos (by omega), if_pos (by omega), rdT, if_pos hh.1, if_pos hh.2.1, if_pos hh.2.2, ht]
    | false =>
      obtain ⟨K, hK⟩ := has_l0 l hl b t d (i + 1) (by omega) (fun j h => by
        by_cases e : j = i
        · subst e; exact hh
        · exact hj j (by omega))
      refine ⟨K + 1, fun k hk => ?_⟩
      obtain ⟨m, rfl⟩ : ∃ m, k = m + 1 := ⟨k - 1, by omega⟩
      dsimp only
      have hn' : watchmanref10_Has.l0 m l b t ((i : Int) + 1) = some (hasB l b t) := hK m (by omega)
      rw [watchmanref10_Has.l0, if_pos (by omega), if_pos (by omega), rdT, wr_up _ (by omega) (by omega), hn']
      unfold hitB at hh
      simp only [decide_eq_false_iff_not] at hh
      by_cases h1 : (l.getD i z32).f0 = b
      · by_cases h2 : (l.getD i z32).f1 ≤ t
        · rw [if_pos h1, if_pos h2, if_neg (by omega)]
        · rw [if_pos h1, if_neg h2]
      · rw [if_neg h1]
theorem has_ev (l : List S32) (hl : l.length ≤ 1000000) (b t : Int) : Ev (fun k => watchmanref10_Has.f k l b t) (hasB l b t) := has_l0 l hl b t l.length 0 (by omega) (fun j h => by omega)

/-- A number in its place, once. -/
def putL : List Int → Int → List Int
  | [], n => [n]
  | a :: l, n => if a < n then a :: putL l n else if a = n then a :: l else n :: a :: l
theorem putL_append : ∀ (a l : List Int) (n : Int), (∀ x ∈ a, x < n) → putL (a ++ l) n = a ++ putL l n
  | [], _, _, _ => rfl
  | x :: a, l, n, h => by
    rw [List.cons_append, putL, if_pos (h x (by simp)), putL_append a l n (fun y hy => h y (by simp [hy]))]
    rfl
theorem putL_len : ∀ (l : List Int) (n : Int), (putL l n).length ≤ l.length + 1
  | [], _ => by simp [putL]
  | a :: l, n => by
    have := putL_len l n
    rw [putL]
    split
    · simp; omega
    · split <;> simp
theorem putL_mem : ∀ (l : List Int) (n x : Int), x ∈ putL l n ↔ x ∈ l ∨ x = n
  | [], n, x => by simp [putL]
  | a :: l, n, x => by
    rw [putL]
    split
    · rw [List.mem_cons, putL_mem l n x, List.mem_cons, or_assoc]
    · split
      · next h => subst h; simp; intro h; exact .inl h
      · simp only [List.mem_cons]; constructor
        · rintro (h | h | h)
          · exact .inr h
          · exact .inl (.inl h)
          · exact .inl (.inr h)
        · rintro ((h | h) | h)
          · exact .inr (.inl h)
          · exact .inr (.inr h)
          · exact .inl h
theorem putL_sorted : ∀ (l : List Int) (n : Int), l.Pairwise (· < ·) → (putL l n).Pairwise (· < ·)
  | [], _, _ => by simp [putL]
  | a :: l, n, h => by
    obtain ⟨h1, h2⟩ := List.pairwise_cons.1 h
    rw [putL]
    split
    · next hlt =>
      refine List.pairwise_cons.2 ⟨fun x hx => ?_, putL_sorted l n h2⟩
      rcases (putL_mem l n x).1 hx with hx | rfl
      · exact h1 x hx
      · exact hlt
    · split
      · exact h
      · next h3 h4 =>
        refine List.pairwise_cons.2 ⟨fun x hx => ?_, h⟩
        rcases List.mem_cons.1 hx with rfl | hx
        · omega
        · have := h1 x hx; omega
theorem put_l0 (l : List Int) (hl : l.length ≤ 1000000) (n : Int) : ∀ (d i : Nat), i + d = l.length → (∀ j, j < i → l.getD j 0 < n) → Ev (fun k => watchmanref10_put.l0 k l n (i : Int)) (putL l n)
  | 0, i, hd, hj => by
    refine ⟨1, fun k hk => ?_⟩
    obtain ⟨m, rfl⟩ : ∃ m, k = m + 1 := ⟨k - 1, by omega⟩
    dsimp only
    have hi : i = l.length := by omega
    have e : putL l n = l ++ [n] := by
      have := putL_append l [] n (fun x hx => by obtain ⟨j, hjl, rfl⟩ := List.getElem_of_mem hx; have := hj j (by omega); rwa [getD_eq l 0 j hjl] at this)
      rw [List.append_nil] at this
      rw [this]; rfl
    rw [watchmanref10_put.l0, if_neg (by omega), if_pos (by omega), if_pos (by omega), Option.bind_some, Int.toNat_natCast, if_pos (by simp; omega), Option.bind_some, if_pos (by simp; omega), Option.bind_some, Option.bind_some, if_pos (by simp; omega), e]
    simp [hi]
  | d + 1, i, hd, hj => by
    have hi : i < l.length := by omega
    by_cases hlt : l.getD i 0 < n
    · obtain ⟨K, hK⟩ := put_l0 l hl n d (i + 1) (by omega) (fun j h => by
        by_cases e : j = i
        · subst e; exact hlt
        · exact hj j (by omega))
      refine ⟨K + 1, fun k hk => ?_⟩
      obtain ⟨m, rfl⟩ : ∃ m, k = m + 1 := ⟨k - 1, by omega⟩
      dsimp only
      have hn' : watchmanref10_put.l0 m l n ((i : Int) + 1) = some (putL l n) := hK m (by omega)
      rw [watchmanref10_put.l0, if_pos (by omega), if_pos (by omega), rdI, if_pos hlt, wr_up _ (by omega) (by omega), hn']
    · refine ⟨1, fun k hk => ?_⟩
      obtain ⟨m, rfl⟩ : ∃ m, k = m + 1 := ⟨k - 1, by omega⟩
      dsimp only
      have e : putL l n = l.take i ++ putL (l.drop i) n := by
        conv => lhs; rw [← List.take_append_drop i l]
        exact putL_append _ _ _ (fun x hx => by
          obtain ⟨j, hjl, rfl⟩ := List.getElem_of_mem hx
          simp at hjl
          have := hj j (by omega)
          rw [getD_eq l 0 j (by omega)] at this
          simpa using this)
      rw [watchmanref10_put.l0, if_pos (by omega), if_pos (by omega), rdI, if_neg hlt]
      rw [e, drop_cons l 0 i hi, putL, if_neg hlt]
      by_cases he : l.getD i 0 = n
      · rw [if_pos he, if_pos he, ← drop_cons l 0 i hi, List.take_append_drop]
      · rw [if_neg he, if_neg he, if_pos (by omega), Option.bind_some, Int.toNat_natCast, if_pos (by simp; omega), Option.bind_some, if_pos (by simp; omega), Option.bind_some, Option.bind_some, if_pos (by simp; omega), ← drop_cons l 0 i hi]
        simp
theorem put_ev (l : List Int) (hl : l.length ≤ 1000000) (n : Int) : Ev (fun k => watchmanref10_put.f k l n) (putL l n) := put_l0 l hl n l.length 0 (by omega) (fun j h => by omega)

def mkStep (b : Int) (o : List Int) (w : S32) : List Int := if w.f0 = b then putL (putL o w.f1) w.f2 else o
def mks (l : List S32) (b : Int) : List Int := l.foldl (mkStep b) []
theorem mkStep_len (b : Int) (o : List Int) (w : S32) : (mkStep b o w).length ≤ o.length + 2 := by
  unfold mkStep
  split
  · have h1 := putL_len (putL o w.f1) w.f2
    have h2 := putL_len o w.f1
    omega
  · omega
theorem marks_l0 (l : List S32) (hl : l.length ≤ 1000) (b : Int) : ∀ (d i : Nat) (o : List Int), i + d = l.length → o.length + 2 * d ≤ 10000 → Ev (fun k => watchmanref10_marks.l0 k l b o (i : Int)) ((l.drop i).foldl (mkStep b) o)
  | 0, i, o, hd, ho => by
    refine ⟨1, fun k hk => ?_⟩
    obtain ⟨m, rfl⟩ : ∃ m, k = m + 1 := ⟨k - 1, by omega⟩
    dsimp only
    rw [watchmanref10_marks.l0, if_neg (by omega), List.drop_of_length_le (by omega)]
    rfl
  | d + 1, i, o, hd, ho => by
    have hi : i < l.length := by omega
    have hs := mkStep_len b o (l.getD i z32)
    obtain ⟨K, hK⟩ := marks_l0 l hl b d (i + 1) (mkStep b o (l.getD i z32)) (by omega) (by omega)
    have hp := putL_len o (l.getD i z32).f1
    obtain ⟨K1, h1⟩ := put_ev o (by omega) (l.getD i z32).f1
    obtain ⟨K2, h2⟩ := put_ev (putL o (l.getD i z32).f1) (by omega) (l.getD i z32).f2
    refine ⟨K + K1 + K2 + 1, fun k hk => ?_⟩
    obtain ⟨m, rfl⟩ : ∃ m, k = m + 1 := ⟨k - 1, by omega⟩
    dsimp only
    have hn' : watchmanref10_marks.l0 m l b (mkStep b o (l.getD i z32)) ((i : Int) + 1) = _ := hK m (by omega)
    have g1 := h1 m (by omega)
    have g2 := h2 m (by omega)
    dsimp only at g1 g2
    rw [drop_cons l z32 i hi, List.foldl_cons, watchmanref10_marks.l0, if_pos (by omega), if_pos (by omega), rdT, wr_up _ (by omega) (by omega)]
    unfold mkStep at hn' ⊢
    by_cases hb : (l.getD i z32).f0 = b
    · rw [if_pos hb] at hn' ⊢
      rw [if_pos hb, g1, Option.bind_some, g2, Option.bind_some, hn']
    · rw [if_neg hb] at hn' ⊢
      rw [if_neg hb, hn']
theorem marks_ev (l : List S32) (hl : l.length ≤ 1000) (b : Int) : Ev (fun k => watchmanref10_marks.f k l b) (mks l b) := marks_l0 l hl b l.length 0 [] (by omega) (by simp; omega)
end Go.Proofs.Ytpchbdpepgeibaa.Pturn
