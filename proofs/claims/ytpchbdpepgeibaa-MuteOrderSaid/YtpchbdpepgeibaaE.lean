/- The document's windows of mute: the printed function comes to the row of the segments; these are canonical. -/
import Derived.Test.YtpchbdpepgeibaaD
namespace Go.Proofs.Ytpchbdpepgeibaa.Pturn
open Go.RowKit Go.Proofs.YtpchbdpepgeibaaW.PrintWords

/-- One more segment. -/
def winS (out : List S32) (b p q : Int) : List S32 :=
  if 0 < out.length ∧ (out.getD (out.length - 1) z32).f0 = b ∧ (out.getD (out.length - 1) z32).f2 = p then out.set (out.length - 1) ⟨(out.getD (out.length - 1) z32).f0, (out.getD (out.length - 1) z32).f1, q⟩ else out ++ [⟨b, p, q⟩]
theorem winS_len (out : List S32) (b p q : Int) : (winS out b p q).length ≤ out.length + 1 := by
  unfold winS; split <;> simp
theorem winS_join (out : List S32) (b p q : Int) (h : ∀ z ∈ out.getLast?, z.f0 = b → z.f2 ≤ p) (hpq : p < q) : winS out b p q = joinS out ⟨b, p, q⟩ := by
  rcases List.eq_nil_or_concat out with rfl | ⟨l, z, rfl⟩
  · simp [winS, joinS]
  · simp only [List.concat_eq_append] at h ⊢
    rw [joinS_snoc]
    unfold winS
    have e : (l ++ [z]).getD ((l ++ [z]).length - 1) z32 = z := by simp
    rw [e]
    have hz := h z (by simp)
    by_cases h1 : z.f0 = b ∧ z.f2 = p
    · rw [if_pos ⟨by simp, h1⟩, if_pos ⟨h1.1, by show p ≤ z.f2; omega⟩]
      have : max z.f2 q = q := by omega
      show (l ++ [z]).set ((l ++ [z]).length - 1) _ = l ++ [⟨z.f0, z.f1, max z.f2 q⟩]
      rw [this]
      simp
    · rw [if_neg (fun hh => h1 hh.2), if_neg (fun hh => h1 ⟨hh.1, by have := hz hh.1; have : p ≤ z.f2 := hh.2; omega⟩)]
def innS (ok : Int → Bool) (b : Int) (out : List S32) : List Int → List S32
  | p :: q :: r => innS ok b (if ok p then winS out b p q else out) (q :: r)
  | _ => out
def inB (l m : List S32) (both : Bool) (b t : Int) : Bool := if both then hasB l b t || hasB m b t else hasB l b t && !hasB m b t
def outF (l m : List S32) (both : Bool) (all : List S32) : Nat → Int → List S32 → List S32
  | 0, _, out => out
  | d + 1, b, out => outF l m both all d (b + 1) (innS (inB l m both b) b out (mks all b))
def winW (l m : List S32) (both : Bool) : List S32 := outF l m both (l ++ m) 99 1 []

theorem j3_eq (l m all out : List S32) (both : Bool) (b : Int) (ks : List Int) (i m' : Nat) (x14 : Bool) (hi1 : i + 1 < ks.length) (hk : ks.length ≤ 10000) (ho : out.length ≤ 1000000) (R : List S32)
    (hn' : watchmanref10_windows.l1 m' l m both all (if x14 = true then winS out b (ks.getD i 0) (ks.getD (i + 1) 0) else out) b ks ((i : Int) + 1) = some R) : watchmanref10_windows.j3 (m' + 1) l m both all out b ks (i : Int) x14 = some R := by
  rw [watchmanref10_windows.j3]
  have e3 : wrap64 ((i : Int) + 1) = ((i + 1 : Nat) : Int) := wr_up _ (by omega) (by omega)
  have e3' : ((i : Int) + 1) = ((i + 1 : Nat) : Int) := by omega
  rw [e3'] at hn'
  cases x14 with
  | false =>
    rw [if_neg (by simp)] at hn' ⊢
    rw [e3]
    exact hn'
  | true =>
    rw [if_pos rfl] at hn' ⊢
    rw [e3, rdI, rdI]
    have c1 : (0 : Int) ≤ (i : Int) := by omega
    have c2 : (i : Int) < (ks.length : Int) := by omega
    have c3 : (0 : Int) ≤ ((i + 1 : Nat) : Int) := by omega
    have c4 : ((i + 1 : Nat) : Int) < (ks.length : Int) := by omega
    have c5 : out.length < 5864062014805 := by omega
    simp only [if_pos c1, if_pos c2, if_pos c3, if_pos c4, if_pos c5]
    by_cases h0 : 0 < out.length
    · have e4 : wrap64 ((out.length : Int) - 1) = ((out.length - 1 : Nat) : Int) := by rw [wr_dn _ (by omega) (by omega)]; omega
      rw [if_pos (by omega), e4, rdT, if_pos (by omega), if_pos (by omega), Int.toNat_natCast]
      by_cases h5 : (out.getD (out.length - 1) z32).f0 = b
      · rw [if_pos h5]
        by_cases h6 : (out.getD (out.length - 1) z32).f2 = ks.getD i 0
        · rw [if_pos h6]
          rw [show winS out b (ks.getD i 0) (ks.getD (i + 1) 0) = _ from if_pos ⟨h0, h5, h6⟩] at hn'
          exact hn'
        · rw [if_neg h6]
          rw [show winS out b (ks.getD i 0) (ks.getD (i + 1) 0) = _ from if_neg (fun hh => h6 hh.2.2)] at hn'
          exact hn'
      · rw [if_neg h5]
        rw [show winS out b (ks.getD i 0) (ks.getD (i + 1) 0) = _ from if_neg (fun hh => h5 hh.2.1)] at hn'
        exact hn'
    · rw [if_neg (by omega)]
      rw [show winS out b (ks.getD i 0) (ks.getD (i + 1) 0) = _ from if_neg (fun hh => h0 hh.1)] at hn'
      exact hn'
theorem l1_ev (l m all : List S32) (both : Bool) (hl : l.length ≤ 1000) (hm : m.length ≤ 1000) (b : Int) (hb : 0 ≤ b ∧ b ≤ 1000) (ks : List Int) (R : List S32) : ∀ (d i : Nat) (out : List S32), i + 1 + d = ks.length + 1 → ks.length ≤ 10000 → out.length + d ≤ 1000000 →
    Ev (fun k => watchmanref10_windows.l0 k l m both all (innS (inB l m both b) b out (ks.drop i)) (b + 1)) R →
    Ev (fun k => watchmanref10_windows.l1 k l m both all out b ks (i : Int)) R
  | 0, i, out, hd, hk, ho, ⟨K, hK⟩ => by
    refine ⟨K + 1, fun k hk => ?_⟩
    obtain ⟨m', rfl⟩ : ∃ m, k = m + 1 := ⟨k - 1, by omega⟩
    dsimp only
    have hn' := hK m' (by omega)
    dsimp only at hn'
    rw [List.drop_of_length_le (by omega), innS] at hn'
    · rw [watchmanref10_windows.l1, wr_up _ (by omega) (by omega), if_neg (by omega), wr_up _ (by omega) (by omega), hn']
    · simp
  | d + 1, i, out, hd, hkl, ho, ⟨K, hK⟩ => by
    have hi : i < ks.length := by omega
    by_cases hi1 : i + 1 < ks.length
    · have e1 := drop_cons ks 0 i hi
      have e2 := drop_cons ks 0 (i + 1) hi1
      have hin : innS (inB l m both b) b out (ks.drop i) = innS (inB l m both b) b (if inB l m both b (ks.getD i 0) then winS out b (ks.getD i 0) (ks.getD (i + 1) 0) else out) (ks.drop (i + 1)) := by
        rw [e1, e2, innS]
      rw [hin] at hK
      have hw := winS_len out b (ks.getD i 0) (ks.getD (i + 1) 0)
      have ho2 : (if inB l m both b (ks.getD i 0) then winS out b (ks.getD i 0) (ks.getD (i + 1) 0) else out).length + d ≤ 1000000 := by split <;> omega
      obtain ⟨K0, h0⟩ := l1_ev l m all both hl hm b hb ks R d (i + 1) _ (by omega) hkl ho2 ⟨K, hK⟩
      obtain ⟨K1, h1⟩ := has_ev l (by omega) b (ks.getD i 0)
      obtain ⟨K2, h2⟩ := has_ev m (by omega) b (ks.getD i 0)
      refine ⟨K0 + K1 + K2 + 3, fun k hk => ?_⟩
      obtain ⟨m', rfl⟩ : ∃ m, k = m + 3 := ⟨k - 3, by omega⟩
      dsimp only
      have g1 := h1 (m' + 2) (by omega)
      have g2 := h2 (m' + 2) (by omega)
      have hn' : watchmanref10_windows.l1 m' l m both all _ b ks ((i : Int) + 1) = some R := h0 m' (by omega)
      dsimp only at g1 g2
      rw [watchmanref10_windows.l1, wr_up _ (by omega) (by omega), if_pos (by omega), if_pos (by omega), if_pos (by omega), rdI, g1, Option.bind_some, g2, Option.bind_some]
      have h3 : ∀ x14 : Bool, x14 = inB l m both b (ks.getD i 0) → watchmanref10_windows.j3 (m' + 1) l m both all out b ks (i : Int) x14 = some R := by
        intro x14 hx
        subst hx
        exact j3_eq l m all out both b ks i m' _ hi1 hkl (by omega) R hn'
      cases hA : hasB l b (ks.getD i 0) with
      | true =>
        rw [if_pos rfl, watchmanref10_windows.j2]
        cases both with
        | true => rw [if_pos rfl]; exact h3 _ (by unfold inB; rw [hA]; rfl)
        | false => rw [if_neg (by simp), if_pos rfl]; exact h3 _ (by unfold inB; rw [hA]; rfl)
      | false =>
        rw [if_neg (by simp), watchmanref10_windows.j2]
        cases both with
        | true => rw [if_pos rfl]; exact h3 _ (by unfold inB; rw [hA]; rfl)
        | false => rw [if_neg (by simp), if_neg (by simp)]; exact h3 _ (by unfold inB; rw [hA]; rfl)
    · have e1 := drop_cons ks 0 i hi
      rw [e1, List.drop_of_length_le (by omega : ks.length ≤ i + 1), innS] at hK
      · refine ⟨K + 1, fun k hk => ?_⟩
        obtain ⟨m', rfl⟩ : ∃ m, k = m + 1 := ⟨k - 1, by omega⟩
        dsimp only
        have hn' := hK m' (by omega)
        dsimp only at hn'
        rw [watchmanref10_windows.l1, wr_up _ (by omega) (by omega), if_neg (by omega), wr_up _ (by omega) (by omega), hn']
      · simp
theorem innS_len (ok : Int → Bool) (b : Int) : ∀ (ks : List Int) (out : List S32), (innS ok b out ks).length ≤ out.length + ks.length
  | [], out => by rw [innS]; · simp
                  · simp
  | [p], out => by rw [innS]; · simp
                   · simp
  | p :: q :: r, out => by
    rw [innS]
    have := innS_len ok b (q :: r) (if ok p then winS out b p q else out)
    have hw := winS_len out b p q
    have : (if ok p then winS out b p q else out).length ≤ out.length + 1 := by split <;> omega
    simp at *
    omega
theorem mks_len (l : List S32) (b : Int) : ∀ (o : List Int), (l.foldl (mkStep b) o).length ≤ o.length + 2 * l.length := by
  induction l with
  | nil => intro o; simp
  | cons w l ih =>
    intro o
    have h1 := ih (mkStep b o w)
    have h2 := mkStep_len b o w
    simp at *
    omega
theorem l0_ev (l m all : List S32) (both : Bool) (hl : l.length ≤ 1000) (hm : m.length ≤ 1000) (hall : all.length ≤ 1000) : ∀ (d : Nat) (b : Int) (out : List S32), b + d = 100 → 0 ≤ b → out.length + 10000 * d ≤ 1000000 →
    Ev (fun k => watchmanref10_windows.l0 k l m both all out b) (outF l m both all d b out)
  | 0, b, out, hd, hb, ho => by
    refine ⟨1, fun k hk => ?_⟩
    obtain ⟨m', rfl⟩ : ∃ m, k = m + 1 := ⟨k - 1, by omega⟩
    dsimp only
    rw [watchmanref10_windows.l0, if_neg (by omega), outF]
  | d + 1, b, out, hd, hb, ho => by
    obtain ⟨K1, h1⟩ := marks_ev all hall b
    have hk := mks_len all b []
    have hk' : (mks all b).length ≤ 2000 := by unfold mks; simp at hk; omega
    have hin := innS_len (inB l m both b) b (mks all b) out
    have h0 := l0_ev l m all both hl hm hall d (b + 1) (innS (inB l m both b) b out (mks all b)) (by omega) (by omega) (by omega)
    obtain ⟨K2, h2⟩ := l1_ev l m all both hl hm b (by omega) (mks all b) _ (mks all b).length 0 out (by omega) (by omega) (by omega) h0
    refine ⟨K1 + K2 + 1, fun k hk => ?_⟩
    obtain ⟨m', rfl⟩ : ∃ m, k = m + 1 := ⟨k - 1, by omega⟩
    dsimp only
    have g1 := h1 m' (by omega)
    have g2 := h2 m' (by omega)
    dsimp only at g1 g2
    rw [watchmanref10_windows.l0, if_pos (by omega), g1, Option.bind_some, outF]
    exact g2
theorem windows_ev (l m : List S32) (both : Bool) (hl : l.length ≤ 200) (hm : m.length ≤ 200) : Ev (fun k => watchmanref10_windows.f k l m both) (winW l m both) := by
  have h := l0_ev l m (l ++ m) both (by omega) (by omega) (by simp; omega) 99 1 [] (by omega) (by omega) (by simp)
  refine Ev.congr (fun k => ?_) h
  unfold watchmanref10_windows.f
  rw [if_pos (by simp; omega), Option.bind_some, if_pos (by simp; omega)]
  rfl

def turnV (l m : List S32) (both : Bool) : List S32 × Int :=
  if isB l && m.all mayB then (if (winW l m both).length > 100 then ([], 81) else (winW l m both, 0)) else ([], 1)
theorem turn_l0 (l m : List S32) (both : Bool) (hl : l.length ≤ 200) (hm : m.length ≤ 200) (hi : isB l = true) : ∀ (d i : Nat), i + d = m.length → (∀ j, j < i → mayB (m.getD j z32) = true) → Ev (fun k => watchmanref10_turn.l0 k l m both (i : Int)) (turnV l m both)
  | 0, i, hd, hj => by
    obtain ⟨K, hK⟩ := windows_ev l m both hl hm
    refine ⟨K + 1, fun k hk => ?_⟩
    obtain ⟨m', rfl⟩ : ∃ m, k = m + 1 := ⟨k - 1, by omega⟩
    dsimp only
    have g := hK m' (by omega)
    dsimp only at g
    have hall : m.all mayB = true := by
      rw [List.all_eq_true]
      intro w hw
      obtain ⟨j, hjl, rfl⟩ := List.getElem_of_mem hw
      have := hj j (by omega)
      rwa [getD_eq m z32 j hjl] at this
    rw [watchmanref10_turn.l0, if_neg (by omega), g, Option.bind_some]
    unfold turnV
    rw [hi, hall]
    by_cases h : (winW l m both).length > 100
    · rw [if_pos (by omega), if_pos (by rfl), if_pos h]
    · rw [if_neg (by omega), if_pos (by rfl), if_neg h]
  | d + 1, i, hd, hj => by
    have hil : i < m.length := by omega
    cases hmy : mayB (m.getD i z32) with
    | false =>
      refine ⟨1, fun k hk => ?_⟩
      obtain ⟨m', rfl⟩ : ∃ m, k = m + 1 := ⟨k - 1, by omega⟩
      dsimp only
      have hall : m.all mayB = false := by
        rw [List.all_eq_false]
        exact ⟨_, List.getElem_mem hil, by rw [← getD_eq m z32 i hil, hmy]; simp⟩
      rw [watchmanref10_turn.l0, if_pos (by omega), if_pos (by omega), rdT, may_f, Option.bind_some, hmy, if_neg (by simp)]
      unfold turnV
      rw [hall]
      simp
    | true =>
      obtain ⟨K, hK⟩ := turn_l0 l m both hl hm hi d (i + 1) (by omega) (fun j h => by
        by_cases e : j = i
        · subst e; exact hmy
        · exact hj j (by omega))
      refine ⟨K + 1, fun k hk => ?_⟩
      obtain ⟨m', rfl⟩ : ∃ m, k = m + 1 := ⟨k - 1, by omega⟩
      dsimp only
      have hn' : watchmanref10_turn.l0 m' l m both ((i : Int) + 1) = some (turnV l m both) := hK m' (by omega)
      rw [watchmanref10_turn.l0, if_pos (by omega), if_pos (by omega), rdT, may_f, Option.bind_some, hmy, if_pos rfl, wr_up _ (by omega) (by omega), hn']
theorem turn_ev (l m : List S32) (both : Bool) (hl : l.length ≤ 200) (hm : m.length ≤ 200) : Ev (fun k => watchmanref10_turn.f k l m both) (turnV l m both) := by
  obtain ⟨K1, h1⟩ := is_ev l (by omega)
  cases hi : isB l with
  | false =>
    refine ⟨K1, fun k hk => ?_⟩
    have g := h1 k hk
    dsimp only at g ⊢
    unfold watchmanref10_turn.f
    rw [g, Option.bind_some, hi, if_neg (by simp)]
    unfold turnV
    rw [hi]
    simp
  | true =>
    obtain ⟨K2, h2⟩ := turn_l0 l m both hl hm hi m.length 0 (by omega) (fun j h => by omega)
    refine ⟨K1 + K2, fun k hk => ?_⟩
    have g := h1 k (by omega)
    have g2 := h2 k (by omega)
    dsimp only at g g2 ⊢
    unfold watchmanref10_turn.f
    rw [g, Option.bind_some, hi, if_pos rfl]
    exact g2
end Go.Proofs.Ytpchbdpepgeibaa.Pturn
