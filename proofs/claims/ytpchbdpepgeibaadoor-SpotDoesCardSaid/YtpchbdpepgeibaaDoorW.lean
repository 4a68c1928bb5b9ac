/- Words for rows of windows: read (CW) and of the call's own (wcs). -/
import Derived.Test.YtpchbdpepgeibaaDoorK1
import Derived.Test.YtpchbdpepgeibaaDoorE
namespace Go.Proofs.YtpchbdpepgeibaaDoor
open Go.RowKit Go.Proofs.YtpchbdpepgeibaaDoorW.PrintWords Go.Proofs.YtpchbdpepgeibaaDoorW.PrintLast Go.Proofs.YtpchbdpepgeibaaDoorW.PrintMore

def wc (w : S23) : List Value := [.int .i64 w.f0, .int .i64 w.f1]
def wcs (l : List S23) : List Value := l.flatMap wc
theorem wcs_nil : wcs [] = [] := rfl
theorem wcs_cons (w : S23) (l : List S23) : wcs (w :: l) = wc w ++ wcs l := rfl
theorem wcs_append (l m : List S23) : wcs (l ++ m) = wcs l ++ wcs m := by simp [wcs]
theorem wcs_one (w : S23) : wcs [w] = wc w := by simp [wcs]
theorem wcs_length : ∀ (l : List S23), (wcs l).length = l.length * 2
  | [] => rfl
  | w :: l => by rw [wcs_cons, List.length_append, wcs_length l]; simp [wc]; omega
theorem wcs_get : ∀ (l : List S23) (j : Nat), j < l.length → ∀ i, i < 2 → (wcs l)[j * 2 + i]? = (wc (l.getD j z23))[i]?
  | [], j, h, _, _ => by simp at h
  | w :: l, 0, _, i, hi => by
    rw [wcs_cons, List.getElem?_append_left (by simp [wc]; omega)]
    simp
  | w :: l, j + 1, h, i, hi => by
    have hl : (wc w).length = 2 := rfl
    rw [wcs_cons, List.getElem?_append_right (by rw [hl]; omega), hl]
    have := wcs_get l j (by simpa using h) i hi
    rw [show (j + 1) * 2 + i - 2 = j * 2 + i by omega, this]
    simp
theorem wcs_one_cell (l : List S23) : ∀ u ∈ wcs l, u.oneCell' = true := by
  intro u hu
  obtain ⟨w, _, hw⟩ := List.mem_flatMap.1 hu
  simp [wc] at hw
  rcases hw with rfl | rfl | rfl <;> rfl
/-- The slice at A of l.length windows reads as l. -/
def CW (w : World) (A : Option Addr) (l : List S23) : Prop := ∀ j, j < l.length → ∃ b off, A = some ⟨b, off, none⟩ ∧ b < w.heap.size ∧
  w.cell? ⟨b, off + j * 2, none⟩ = some (.int .i64 (l.getD j z23).f0) ∧ w.cell? ⟨b, off + j * 2 + 1, none⟩ = some (.int .i64 (l.getD j z23).f1)
theorem CW.nil (w : World) (A : Option Addr) : CW w A [] := fun j hj => by simp at hj
theorem CW.grow {w w' : World} {A : Option Addr} {l : List S23} (h : CW w A l) (g : w.grownBy w' none) : CW w' A l := fun j hj => by
  obtain ⟨b, off, e, hb, h0, h1⟩ := h j hj
  exact ⟨b, off, e, Nat.lt_of_lt_of_le hb g.size, by rw [grow_cell g hb]; exact h0, by rw [grow_cell g hb]; exact h1⟩
theorem CW.has1 {w : World} {A : Option Addr} {l : List S23} (h : CW w A l) (hl : 0 < l.length) : ∃ b off, A = some ⟨b, off, none⟩ ∧ b < w.heap.size := by
  obtain ⟨b, off, e, hb, _⟩ := h 0 hl
  exact ⟨b, off, e, hb⟩
theorem CW.cells {w : World} {b off : Nat} {l : List S23} (h : CW w (some ⟨b, off, none⟩) l) : ∀ j u, (wcs l)[j]? = some u → w.cell? ⟨b, off + j, none⟩ = some u := by
  intro j u hu
  have hj : j < l.length * 2 := by have := (List.getElem?_eq_some_iff.1 hu).1; rwa [wcs_length] at this
  obtain ⟨q, r, rfl, hr⟩ : ∃ q r, j = q * 2 + r ∧ r < 2 := ⟨j / 2, j % 2, by omega, by omega⟩
  obtain ⟨b', off', eA, _, h0, h1⟩ := h q (by omega)
  cases eA
  rw [wcs_get l q (by omega) r hr] at hu
  generalize l.getD q z23 = x at *
  have h3 : r = 0 ∨ r = 1 := by omega
  rcases h3 with rfl | rfl <;> simp [wc] at hu <;> subst hu
  · exact h0
  · rw [← Nat.add_assoc]; exact h1
theorem cw_of_cells {w : World} {b off : Nat} {l : List S23} (hb : b < w.heap.size) (h : ∀ j u, (wcs l)[j]? = some u → w.cell? ⟨b, off + j, none⟩ = some u) : CW w (some ⟨b, off, none⟩) l := by
  intro j hj
  refine ⟨b, off, rfl, hb, ?_, ?_⟩
  · have := h (j * 2 + 0) _ (by rw [wcs_get l j hj 0 (by omega)]; rfl)
    rwa [Nat.add_zero] at this
  · have := h (j * 2 + 1) _ (by rw [wcs_get l j hj 1 (by omega)]; rfl)
    rwa [← Nat.add_assoc] at this
theorem own_slice {w : World} {base e size n : Nat} {v : Value} {xs : List Value} (h : w.ownsRow base e size v n xs) : ∃ A c, v = .slice A n c ∧ n ≤ c := by
  rcases h.2 with ⟨rfl, rfl⟩ | ⟨g, cap, cur, rfl, _, _, hn, _⟩
  · exact ⟨_, _, rfl, Nat.le_refl _⟩
  · exact ⟨_, _, rfl, hn⟩
theorem cw_of_own {w : World} {base n c : Nat} {A : Option Addr} {l : List S23} (h : w.ownsRow base 23 2 (.slice A n c) n (wcs l)) : CW w A l := by
  have hl : l.length * 2 = n * 2 := by have := h.1; rwa [wcs_length] at this
  by_cases h0 : l.length = 0
  · intro j hj; omega
  · obtain ⟨g, cap, hv, _, hlt⟩ := h.form (by omega)
    have hA : A = some ⟨g, 0, none⟩ := by injection hv
    subst hA
    refine cw_of_cells hlt fun j u hu => ?_
    have := h.cells (g := g) rfl j u hu
    rwa [add_at] at this
/-- A row of windows of the call's own. -/
def RW (w : World) (base : Nat) (v : Value) (l : List S23) : Prop := w.ownsRow base 23 2 v l.length (wcs l)
theorem RW.reads {w : World} {base : Nat} {v : Value} {l : List S23} (h : RW w base v l) : ∃ A c, v = .slice A l.length c ∧ l.length ≤ c ∧ CW w A l := by
  obtain ⟨A, c, rfl, hc⟩ := own_slice h
  exact ⟨A, c, rfl, hc, cw_of_own h⟩
theorem RW.nil (w : World) (base : Nat) : RW w base (.slice none 0 0) [] := World.ownsRow_nil _ _ _ _
theorem RW.grow {w w' : World} {base : Nat} {v : Value} {l : List S23} (h : RW w base v l) (g : w.grownBy w' none) : RW w' base v l := own_none h g

/-- What the print tells of a row of windows is what is told here. -/
theorem cw_of_c {w : World} {A : Option Addr} {l : List S23} (h : Kd.C PBeds.k23 w A l.length l) : CW w A l := by
  intro j hj
  obtain ⟨ad, e, h0, h1⟩ := PBeds.at_T23 h (j : Int) (by omega) (by omega)
  obtain ⟨ad0, e0, h00, _⟩ := PBeds.at_T23 h 0 (by omega) (by omega)
  rw [e] at e0
  injection e0 with e0
  subst e0
  obtain ⟨b, off, spot⟩ := ad
  cases spot with
  | some s => simp [World.cell?, Addr.add] at h00; split at h00 <;> simp at h00
  | none =>
    rw [Int.toNat_natCast, add_at] at h0 h1
    rw [rd_get] at h0 h1
    exact ⟨b, off, e, block_lt_of_cell h0, h0, h1⟩
theorem cw_to_c {w : World} {A : Option Addr} {l : List S23} (h : CW w A l) (hl : l.length ≤ 100000) : Kd.C PBeds.k23 w A l.length l := by
  refine ⟨rfl, by omega, fun hp => ?_⟩
  obtain ⟨b, off, rfl, _⟩ := h.has1 hp
  refine ⟨_, rfl, fun j p hj => ?_⟩
  have hj' : j < l.length := (List.getElem?_eq_some_iff.1 hj).1
  have hp' : l.getD j z23 = p := by rw [List.getD_eq_getElem?_getD, hj]; rfl
  refine ⟨wc p, rfl, ?_, fun i u hu => ?_⟩
  · exact PBeds.k23_mk w p
  · have hi : i < 2 := (List.getElem?_eq_some_iff.1 hu).1
    rw [add_at]
    exact h.cells _ u (by rw [show j * PBeds.k23.sz + i = j * 2 + i from rfl, wcs_get l j hj' i hi, hp']; exact hu)
theorem rw_of_r {w : World} {base : Nat} {ok : Nat → Prop} {v : Value} {l : List S23} (h : Kd.R PBeds.k23 23 w base ok v l) : RW w base v l := by
  obtain ⟨_, inner, ho, hr⟩ := h
  have : inner = wcs l := by
    have hlen : inner.length = l.length * 2 := hr.1
    have hr2 : ∀ j p, l[j]? = some p → (inner.drop (j * 2)).take 2 = wc p := fun j p hp => PBeds.k23_openM (hr.2 j p hp)
    apply List.ext_getElem?
    intro i
    by_cases hi : i < l.length * 2
    · have e : i = (i / 2) * 2 + i % 2 := by omega
      have hj : i / 2 < l.length := by omega
      have h1 := hr2 (i / 2) (l.getD (i / 2) z23) (by rw [List.getD_eq_getElem?_getD, List.getElem?_eq_getElem hj]; rfl)
      have h2 := wcs_get l (i / 2) hj (i % 2) (by omega)
      rw [e, h2, ← h1, List.getElem?_take_of_lt (by omega), List.getElem?_drop]
    · rw [List.getElem?_eq_none (by omega), List.getElem?_eq_none (by rw [wcs_length]; omega)]
  subst this
  exact ho

theorem info23 : (Tryd.prog.info? 23).map (fun i => (i.zero, i.size, i.bytes)) = some (some (.agg #[.int .i64 0, .int .i64 0]), 2, 16) := by kernel_rfl
/-- An append to a row of the call's own, of whatever reads as m. -/
theorem append_cw (w : World) (base : Nat) (v : Value) (l : List S23) (hown : RW w base v l) (A : Option Addr) (c : Nat) (m : List S23) (hc : CW w A m) (hl : l.length + m.length ≤ 100000) (hb : base ≤ w.heap.size) :
    ∃ v' w', (Builtin.append_ #[24, 24] 24 #[v, .slice A m.length c]).run Tryd.prog w = .ok v' w' ∧ RW w' base v' (l ++ m) ∧ w.grownBy w' v.ownBlock := by
  obtain ⟨i3, hi3, hz3, hs3, hb3⟩ := info_parts info23
  unfold RW at *
  cases m with
  | nil =>
    obtain ⟨A', c', rfl, hle⟩ := own_slice hown
    refine ⟨_, _, run_append_zero w 24 24 23 i3 Tryd.underlying24 hi3 A' l.length c' hle A c, ?_, ⟨rfl, rfl, rfl, Nat.le_refl _, fun _ _ _ => rfl⟩⟩
    rw [List.append_nil]
    exact hown
  | cons z m =>
    obtain ⟨b, off, rfl, hbs⟩ := hc.has1 (by simp)
    have hcc := hc.cells
    obtain ⟨v', w', h1, h2, h3, _⟩ := run_append_own_at (P := Tryd.prog) (w := w) base 24 24 23 i3 (.agg #[.int .i64 0, .int .i64 0]) 2 16 Tryd.underlying24 hi3 hz3 hs3 hb3 rfl (by decide) v l.length (wcs l) hown
      ⟨b, off, none⟩ (z :: m).length c (wcs (z :: m)) (wcs_length _) (fun j u hj => by rw [add_at]; exact hcc j u hj) (wcs_one_cell _) (by unfold maxLen; omega) (by omega) hb
    refine ⟨v', w', h1, ?_, h3⟩
    rw [wcs_append, List.length_append]
    exact h2
theorem cw_new (w : World) (x : S23) : CW (w.alloc (.cells #[.int .i64 x.f0, .int .i64 x.f1] 23)) (some ⟨w.heap.size, 0, none⟩) [x] := by
  refine cw_of_cells (by simp) fun j u hu => ?_
  rw [cell_of_row _ _ _ _ _ _ (heap_alloc_new w _), ← Array.getElem?_toList, Nat.zero_add]
  exact hu
end Go.Proofs.YtpchbdpepgeibaaDoor
