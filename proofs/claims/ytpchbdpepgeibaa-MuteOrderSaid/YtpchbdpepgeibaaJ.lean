/- Contracts of mute.all, find, Has, Till. -/
import Derived.Test.YtpchbdpepgeibaaI
import Derived.Test.YtpchbdpepgeibaaShelf
namespace Go.Proofs.Ytpchbdpepgeibaa
open Go.RowKit Go.Shelf Go.Proofs.YtpchbdpepgeibaaW.PrintWords Pturn

instance instInhS32 : Inhabited S32 := ⟨z32⟩
theorem bang_getD (l : List S32) (j : Nat) : l[j]! = l.getD j z32 := by
  rw [List.getD_eq_getElem?_getD, List.getElem!_eq_getElem?_getD]; rfl
theorem cw_read {w : World} {b off : Nat} {l : List S32} (h : CW w (some ⟨b, off, none⟩) l) : ∀ j, j < l.length → ∀ i v, (wc l[j]!)[i]? = some v → w.cell? ⟨b, off + j * 3 + i, none⟩ = some v := by
  intro j hj i v hv
  have hi : i < 3 := (List.getElem?_eq_some_iff.1 hv).1
  have := h.cells (j * 3 + i) v (by rw [wcs_get l j hj i hi, ← bang_getD]; exact hv)
  rwa [← Nat.add_assoc] at this

/-- slices.IndexFunc of no element. -/
theorem index_none (A : Option Addr) (c g : Nat) (cb : Array Value) (w : World) :
    Calls Try.prog 39 #[.slice A 0 c, .func (.func g) #[] cb] w fun e w' => e = .returned (.int .i64 (-1)) ∧ w = w' := by
  go_enter Try.func39, Try.ntmps39
  go_wp2_with fail
  refine wp_loop_rounds 1 ?_
  simp only [rounds_succ]
  go_wp2_with fail
  go_ret
  exact ⟨rfl, rfl⟩
theorem index_any (A : Option Addr) (c : Nat) (l : List S32) (g : Nat) (cb : Array Value) (p : S32 → Bool) (w : World) (h : CW w A l) (hl : l.length ≤ 100000) (eg : ∀ args w, (callFunc g args).run Try.prog w = .ok (.enter g args) w)
    (hp : PredBelow Try.prog g cb (fun x => .agg (wc x).toArray) p w) :
    Calls Try.prog 39 #[.slice A l.length c, .func (.func g) #[] cb] w fun e w' => e = .returned (.int .i64 (Lib.idxBy (fun _ y => p y) l z32)) ∧ Below w.heap.size w w' := by
  by_cases h0 : l.length = 0
  · have : l = [] := List.eq_nil_of_length_eq_zero h0
    subst this
    exact (index_none A c g cb w).mono fun e w' ⟨he, hw⟩ => ⟨he, by rw [← hw]; exact .refl _ _⟩
  · obtain ⟨b, off, rfl, hb⟩ := h.has1 (by omega)
    have hcon := AnyQ.slices_IndexFunc Try.idxW 3 Try.isAgg32 Try.sizeOf32 wc (fun _ => rfl) p g cb eg b off l.length c l w hp (Nat.le_refl _) (by omega) hb (cw_read h)
    rw [List.take_length] at hcon
    exact hcon
theorem contains_none (A : Option Addr) (c g : Nat) (cb : Array Value) (w : World) :
    Calls Try.prog 29 #[.slice A 0 c, .func (.func g) #[] cb] w fun e w' => e = .returned (.bool false) ∧ w = w' := by
  have HI := Lib.hid (index_none A c g cb)
  go_enter Try.func29, Try.ntmps29
  go_wp2_with fail
  refine (HI.out _).mono ?_
  rintro e w1 ⟨rfl, rfl⟩
  go_wp2_with fail
  go_ret
  exact ⟨rfl, rfl⟩
theorem contains_any (A : Option Addr) (c : Nat) (l : List S32) (g : Nat) (cb : Array Value) (p : S32 → Bool) (w : World) (h : CW w A l) (hl : l.length ≤ 100000) (eg : ∀ args w, (callFunc g args).run Try.prog w = .ok (.enter g args) w)
    (hp : PredBelow Try.prog g cb (fun x => .agg (wc x).toArray) p w) :
    Calls Try.prog 29 #[.slice A l.length c, .func (.func g) #[] cb] w fun e w' => e = .returned (.bool (l.any p)) ∧ Below w.heap.size w w' := by
  by_cases h0 : l.length = 0
  · have : l = [] := List.eq_nil_of_length_eq_zero h0
    subst this
    exact (contains_none A c g cb w).mono fun e w' ⟨he, hw⟩ => ⟨he, by rw [← hw]; exact .refl _ _⟩
  · obtain ⟨b, off, rfl, hb⟩ := h.has1 (by omega)
    have hcon := AnyQ.slices_ContainsFunc Try.conW 3 Try.isAgg32 Try.sizeOf32 wc (fun _ => rfl) p g cb eg b off l.length c l w hp (Nat.le_refl _) (by omega) hb (cw_read h)
    rw [List.take_length] at hcon
    exact hcon
theorem any_all (l : List S32) : (!(l.any fun w => !mayB w)) = l.all mayB := by
  induction l with
  | nil => rfl
  | cons w l ih =>
    simp at ih ⊢
    rw [ih]
    simp
theorem all_any (A : Option Addr) (c : Nat) (l : List S32) (w : World) (h : CW w A l) (hl : l.length ≤ 100000) :
    Calls Try.prog 20 #[.slice A l.length c] w fun e w' => e = .returned (.bool (l.all mayB)) ∧ Below w.heap.size w w' := by
  rw [← any_all]
  have HC := Lib.hid (contains_any A c l 30 #[] (fun w => !mayB w) w h hl (enters_of Try.func30 (by kernel_rfl) rfl) (fun W x hb => (all1_any x.f0 x.f1 x.f2 W).mono fun e w' ⟨he, h2⟩ => ⟨he, hb.trans (h2.mono hb.size)⟩))
  generalize l.any (fun w => !mayB w) = R at *
  generalize l.length = n at *
  clear h
  go_enter Try.func20, Try.ntmps20
  go_wp2_with fail
  refine HC.out.mono ?_
  rintro e w1 ⟨rfl, hb⟩
  go_wp2_with fail
  go_ret
  exact ⟨rfl, hb⟩
theorem find1_any (f0 f1 f2 b t : Int) (B : Nat) (w W : World) (hw : Below w.heap.size w W) (hB : B + 1 < w.heap.size) (h0 : w.cell? ⟨B, 0, none⟩ = some (.int .i64 b)) (h1 : w.cell? ⟨B + 1, 0, none⟩ = some (.int .i64 t)) :
    Calls Try.prog 40 #[.agg #[.int .i64 f0, .int .i64 f1, .int .i64 f2], .pointer (some ⟨B, 0, none⟩), .pointer (some ⟨B + 1, 0, none⟩)] W fun e w' => e = .returned (.bool (hitB ⟨f0, f1, f2⟩ b t)) ∧ Below w.heap.size w w' := by
  have g0 : W.cell? ⟨B, 0, none⟩ = some (.int .i64 b) := (hw.cell (p := ⟨B, 0, none⟩) (by show B < _; omega)).trans h0
  have g1 : W.cell? ⟨B + 1, 0, none⟩ = some (.int .i64 t) := (hw.cell (p := ⟨B + 1, 0, none⟩) (by show B + 1 < _; omega)).trans h1
  have hz := hw.size
  have hz1 : B < W.heap.size := by omega
  have hz2 : B + 1 < W.heap.size := by omega
  have hz3 : B ≠ W.heap.size := by omega
  have hz4 : B + 1 ≠ W.heap.size := by omega
  have HW := Lib.hid hw
  have HM := Lib.hid (fun W => has_any f0 f1 f2 b t W)
  generalize hitB ⟨f0, f1, f2⟩ b t = R at *
  clear h0 h1 hw hB
  go_enter Try.func40, Try.ntmps40
  go_wp2_with fail
  refine (HM.out _).mono ?_
  rintro e w1 ⟨rfl, hb⟩
  go_wp2_with fail
  go_ret
  exact ⟨rfl, (HW.out.trans ((Below.refl _ W).alloc hz _)).trans (hb.mono (by simp; omega))⟩
def idxW (l : List S32) (b t : Int) : Int := Lib.idxBy (fun _ y => hitB y b t) l z32
theorem idx_cases (l : List S32) (b t : Int) : ((∀ j, j < l.length → hitB (l.getD j z32) b t = false) ∧ idxW l b t = -1) ∨ ∃ k : Nat, k < l.length ∧ hitB (l.getD k z32) b t = true ∧ (∀ j, j < k → hitB (l.getD j z32) b t = false) ∧ idxW l b t = (k : Int) := by
  by_cases h : ∃ k, k < l.length ∧ hitB (l.getD k z32) b t = true
  · right
    obtain ⟨k0, h0, h1⟩ := h
    have : ∃ k, (k < l.length ∧ hitB (l.getD k z32) b t = true) ∧ ∀ j, j < k → hitB (l.getD j z32) b t = false := by
      induction k0 using Nat.strongRecOn with
      | ind k ih =>
        by_cases hh : ∃ j, j < k ∧ hitB (l.getD j z32) b t = true
        · obtain ⟨j, hj, hj1⟩ := hh
          exact ih j hj (by omega) hj1
        · refine ⟨k, ⟨h0, h1⟩, fun j hj => ?_⟩
          cases e : hitB (l.getD j z32) b t with
          | false => rfl
          | true => exact absurd ⟨j, hj, e⟩ hh
    obtain ⟨k, ⟨h2, h3⟩, h4⟩ := this
    refine ⟨k, h2, h3, h4, ?_⟩
    have := Lib.idxByFrom_hit (fun _ y => hitB y b t) z32 l k 0 h2 (by rw [bang_getD]; exact h3) (fun j hj => by rw [bang_getD]; exact h4 j hj)
    rw [Nat.zero_add] at this
    exact this
  · left
    have h' : ∀ j, j < l.length → hitB (l.getD j z32) b t = false := fun j hj => by
      cases e : hitB (l.getD j z32) b t with
      | false => rfl
      | true => exact absurd ⟨j, hj, e⟩ h
    refine ⟨h', ?_⟩
    have key : ∀ (l : List S32) (i : Nat), (∀ j, j < l.length → hitB (l.getD j z32) b t = false) → Lib.idxByFrom (fun _ y => hitB y b t) z32 l i = -1 := by
      intro l
      induction l with
      | nil => intro i _; rfl
      | cons w l ih =>
        intro i hh
        rw [Lib.idxByFrom]
        have h0 := hh 0 (by simp)
        simp at h0
        rw [h0, if_neg (by simp)]
        exact ih (i + 1) (fun j hj => by have := hh (j + 1) (by simpa using hj); simpa using this)
    exact key l 0 h'
theorem idx_has (l : List S32) (b t : Int) : decide (0 ≤ idxW l b t) = hasB l b t := by
  rcases idx_cases l b t with ⟨h1, h2⟩ | ⟨k, h1, h2, h3, h4⟩
  · rw [h2]
    have : hasB l b t = false := by
      unfold hasB
      rw [List.any_eq_false]
      intro w hw
      obtain ⟨j, hj, rfl⟩ := List.getElem_of_mem hw
      have := h1 j hj
      rw [getD_eq l z32 j hj] at this
      simp [this]
    rw [this]; rfl
  · rw [h4]
    have : hasB l b t = true := by
      unfold hasB
      rw [List.any_eq_true]
      exact ⟨_, by rw [getD_eq l z32 k h1]; exact List.getElem_mem h1, h2⟩
    rw [this]
    simp
theorem find_any (A : Option Addr) (c : Nat) (l : List S32) (b t : Int) (w : World) (h : CW w A l) (hl : l.length ≤ 100000) :
    Calls Try.prog 27 #[.slice A l.length c, .int .i64 b, .int .i64 t] w fun e w' => e = .returned (.int .i64 (idxW l b t)) ∧ Below w.heap.size w w' := by
  have h' : CW ((w.alloc (.cells #[.int .i64 b] 3)).alloc (.cells #[.int .i64 t] 3)) A l := (h.grow (grow_alloc _ _)).grow (grow_alloc _ _)
  have HC := Lib.hid (index_any A c l 40 #[.pointer (some ⟨w.heap.size, 0, none⟩), .pointer (some ⟨w.heap.size + 1, 0, none⟩)] (fun y => hitB y b t) _ h' hl (enters_of Try.func40 (by kernel_rfl) rfl) (fun W x hb => find1_any x.f0 x.f1 x.f2 b t w.heap.size _ W hb (by simp) (by simp) (by simp)))
  have HC' : Hid (Calls Try.prog 39 _ _ fun e w' => e = .returned (.int .i64 (idxW l b t)) ∧ _) := HC
  clear HC h h'
  generalize idxW l b t = R at *
  generalize l.length = n at *
  go_enter Try.func27, Try.ntmps27
  go_wp2_with fail
  refine HC'.out.mono ?_
  rintro e w1 ⟨rfl, hb⟩
  go_wp2_with fail
  go_ret
  exact ⟨rfl, (((Below.refl _ _).alloc (Nat.le_refl _) _).alloc (by simp) _).trans (hb.mono (by simp; omega))⟩
theorem hasm_any (A : Option Addr) (c : Nat) (l : List S32) (b t : Int) (w : World) (h : CW w A l) (hl : l.length ≤ 100000) :
    Calls Try.prog 16 #[.slice A l.length c, .int .i64 b, .int .i64 t] w fun e w' => e = .returned (.bool (hasB l b t)) ∧ Below w.heap.size w w' := by
  have HF := Lib.hid (find_any A c l b t w h hl)
  rw [← idx_has]
  clear h
  generalize idxW l b t = R at *
  generalize l.length = n at *
  go_enter Try.func16, Try.ntmps16
  go_wp2_with fail
  refine HF.out.mono ?_
  rintro e w1 ⟨rfl, hb⟩
  go_wp2_with fail
  go_ret
  exact ⟨rfl, hb⟩
def tillV (l : List S32) (b t : Int) : Int × Bool := if idxW l b t < 0 then (0, false) else ((l.getD (idxW l b t).toNat z32).f2, true)
theorem till_any (A : Option Addr) (c : Nat) (l : List S32) (b t : Int) (w : World) (h : CW w A l) (hl : l.length ≤ 100000) :
    Calls Try.prog 10 #[.slice A l.length c, .int .i64 b, .int .i64 t] w fun e w' => e = .returned (.tuple #[.int .i64 (tillV l b t).1, .bool (tillV l b t).2]) ∧ Below w.heap.size w w' := by
  have HF := Lib.hid (find_any A c l b t w h hl)
  rcases idx_cases l b t with ⟨h1, h2⟩ | ⟨k, h1, h2, h3, h4⟩
  · have e : tillV l b t = (0, false) := by unfold tillV; rw [h2, if_pos (by omega)]
    rw [e]
    rw [h2] at HF
    clear h h1 h2 e
    generalize l.length = n at *
    go_enter Try.func10, Try.ntmps10
    go_wp2_with fail
    refine HF.out.mono ?_
    rintro e w1 ⟨rfl, hb⟩
    go_wp2_with fail
    go_ret2
    exact ⟨rfl, hb⟩
  · have e : tillV l b t = ((l.getD k z32).f2, true) := by unfold tillV; rw [h4, if_neg (by omega), Int.toNat_natCast]
    rw [e]
    rw [h4] at HF
    have HH := Lib.hid (fun W (g : w.grownBy W none) => (h.grow g) k h1)
    have hk1 : (k : Int) < (l.length : Int) := by omega
    clear h h2 h3 h4 e
    generalize (l.getD k z32) = x at *
    generalize l.length = n at *
    go_enter Try.func10, Try.ntmps10
    go_wp2_with fail
    refine HF.out.mono ?_
    rintro e w1 ⟨rfl, hb⟩
    obtain ⟨bb, off, rfl, hbs, _, _, h2⟩ := HH.out w1 (grow_of_below hb)
    go_wp2_with fail
    go_ret2
    exact ⟨rfl, hb⟩
end Go.Proofs.Ytpchbdpepgeibaa
