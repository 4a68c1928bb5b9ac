/- A slice of windows that came in, as the row hands it over. -/
import Derived.Test.YtpchbdpepgeibaaU
import Derived.Deep.Slices
import Derived.Deep.Fields
import Derived.ChangeSame
import Derived.RowKit3
namespace Go.Proofs.Ytpchbdpepgeibaa
open Go.ChangeShapes Go.WideShapes Go.Deep Go.RowKit Go.Proofs.YtpchbdpepgeibaaW.PrintWords Pturn

section
variable {H : Type} {enc : TypeId × Value → H} {P : Program} {w : World} {base : Nat} {spare : Nat → Bool} {held : Bool}
theorem open_slice_fields {t e : TypeId} {fs : Array Field} {fuel : Nat} {cs : List Value} {x : DataW H × List MemPlace} (ht : P.underlying t = some (.slice e)) (he : P.underlying e = some (.struct fs))
    (hone : oneCellFields P fs = true) (hC : P.cellsOf e = fs.size) (h : DataW.trod enc P w base spare held fuel t cs = some x) :
    (cs = [.slice none 0 0] ∧ x = (.nil, [])) ∨
    ∃ (a : Addr) (len cap m : Nat) (D : Nat → DataW H) (Pl : Nat → List MemPlace), cs = [.slice (some a) len cap] ∧ base ≤ a.block ∧ len ≤ cap ∧ cap ≤ maxLen ∧ m = (if spare a.block then cap else len) ∧
      x = (.slice ((List.range len).map D) ((List.range (m - len)).map fun j => D (len + j)), MemPlace.row a (m * fs.size) ++ (List.range m).flatMap Pl) ∧
      ∀ i, i < m → ∃ (ys : List (DataW H × List MemPlace)) (n : Nat), D i = .agg (ys.map (·.1)) ∧ Pl i = ys.flatMap (·.2) ∧ ys.length = fs.size ∧
        ∀ (j : Nat) (f : Field), fs[j]? = some f → ∃ (v : Value) (y : DataW H × List MemPlace), w.cell? (a.add (i * fs.size + j)) = some v ∧ ys[j]? = some y ∧ DataW.trod enc P w base spare held n f.type [v] = some y := by
  rcases open_slice ht h with h0 | ⟨a, len, cap, m, n, D, Pl, hcs, hb, hl, hm, hmm, hx, hi⟩
  · exact .inl h0
  · refine .inr ⟨a, len, cap, m, D, Pl, hcs, hb, hl, hm, hmm, by rw [hC] at hx; exact hx, fun i him => ?_⟩
    obtain ⟨cs', hc, ht'⟩ := hi i him
    rw [hC] at hc
    obtain ⟨ys, n', hn', hy, hlen, hyl, hf⟩ := DataW.trod_struct he ht'
    obtain ⟨_, hcl, hat⟩ := World.cells?_some hc
    simp only [Prod.mk.injEq] at hy
    refine ⟨ys, n', hy.1, hy.2, hyl, fun j f hj => ?_⟩
    obtain ⟨ho, hk⟩ := hone_of hone j f hj
    have hjl : j < fs.size := (Array.getElem?_eq_some_iff.1 hj).1
    have hcell := hat j hjl
    have hv : cs'[j]? = some (cs'[j]'(by omega)) := List.getElem?_eq_getElem (by omega)
    have h1 := hf j f hj
    rw [ho, hk] at h1
    have hone' : (cs'.drop j).take 1 = [cs'[j]'(by omega)] := by
      rw [List.drop_eq_getElem_cons (by omega)]
      rfl
    rw [hone'] at h1
    have hys : ys[j]? = some (ys[j]'(by omega)) := List.getElem?_eq_getElem (by omega)
    refine ⟨_, _, ?_, hys, h1.trans hys⟩
    rw [← Go.Deep.add_add, hcell, hv]
end

/-- What the walk is told of a slice of windows that came in. -/
def Wins (w : World) (a : Option Addr) (len cap : Nat) (zs : List S32) : Prop := zs.length = len ∧ len ≤ cap ∧ cap ≤ maxLen ∧ CW w a zs
theorem int_cell {H : Type} {enc : TypeId × Value → H} {w : World} {base n : Nat} {spare : Nat → Bool} {held : Bool} {v : Value} {y : DataW H × List MemPlace} (h : DataW.trod enc Try.prog w base spare held n 3 [v] = some y) : ∃ z, v = .int .i64 z := by
  obtain ⟨z, hz, _⟩ := DataW.trod_int Try.underlying3 h
  simp at hz
  exact ⟨z, hz⟩
theorem open_wins {H : Type} {enc : TypeId × Value → H} {w : World} {base : Nat} {spare : Nat → Bool} {held : Bool} {a : Option Addr} {len cap : Nat} {d : DataW H} {p : List MemPlace} (h : DataW.Trod enc Try.prog w base spare held 22 (.slice a len cap) d p) :
    ∃ zs : List S32, Wins w a len cap zs := by
  obtain ⟨fuel, hf⟩ := h
  rcases open_slice_fields Try.underlying22 Try.underlying32 (by kernel_rfl) (by kernel_rfl) hf with ⟨hcs, _⟩ | ⟨x, l, c, m, D, Pl, hcs, _, hl, hm, hmm, _, hi⟩
  · simp [Value.cells] at hcs
    obtain ⟨rfl, rfl, rfl⟩ := hcs
    exact ⟨[], rfl, Nat.le_refl _, by decide, CW.nil _ _⟩
  · simp [Value.cells] at hcs
    obtain ⟨rfl, rfl, rfl⟩ := hcs
    have hlm : len ≤ m := by rw [hmm]; split <;> omega
    have key : ∀ i, i < len → ∃ z : S32, w.cell? (x.add (i * 3)) = some (.int .i64 z.f0) ∧ w.cell? (x.add (i * 3 + 1)) = some (.int .i64 z.f1) ∧ w.cell? (x.add (i * 3 + 2)) = some (.int .i64 z.f2) := fun i hil => by
      obtain ⟨ys, n, _, _, _, hfi⟩ := hi i (by omega)
      obtain ⟨u0, y0, c0, _, t0⟩ := hfi 0 _ rfl
      obtain ⟨u1, y1, c1, _, t1⟩ := hfi 1 _ rfl
      obtain ⟨u2, y2, c2, _, t2⟩ := hfi 2 _ rfl
      obtain ⟨z0, rfl⟩ := int_cell t0
      obtain ⟨z1, rfl⟩ := int_cell t1
      obtain ⟨z2, rfl⟩ := int_cell t2
      exact ⟨⟨z0, z1, z2⟩, c0, c1, c2⟩
    have hex : ∀ n, n ≤ len → ∃ zs : List S32, zs.length = n ∧ ∀ i, i < n → w.cell? (x.add (i * 3)) = some (.int .i64 (zs.getD i z32).f0) ∧ w.cell? (x.add (i * 3 + 1)) = some (.int .i64 (zs.getD i z32).f1) ∧ w.cell? (x.add (i * 3 + 2)) = some (.int .i64 (zs.getD i z32).f2) := by
      intro n
      induction n with
      | zero => intro _; exact ⟨[], rfl, fun i h => by omega⟩
      | succ n ih =>
        intro hn
        obtain ⟨zs, hz, hzc⟩ := ih (by omega)
        obtain ⟨z, hzz⟩ := key n (by omega)
        refine ⟨zs ++ [z], by simp [hz], fun i h => ?_⟩
        by_cases e : i = n
        · subst e
          have : (zs ++ [z]).getD i z32 = z := by simp [← hz]
          rw [this]; exact hzz
        · have : (zs ++ [z]).getD i z32 = zs.getD i z32 := by
            rw [List.getD_eq_getElem?_getD, List.getElem?_append_left (by omega), List.getD_eq_getElem?_getD]
          rw [this]; exact hzc i (by omega)
    obtain ⟨zs, hz, hzc⟩ := hex len (Nat.le_refl _)
    refine ⟨zs, hz, hl, hm, fun j hj => ?_⟩
    obtain ⟨c0, c1, c2⟩ := hzc j (by omega)
    obtain ⟨b, off, spot⟩ := x
    cases spot with
    | some s =>
      exfalso
      have h0 := (hzc 0 (by omega)).1
      simp [World.cell?, Addr.add] at h0
      split at h0 <;> simp at h0
    | none =>
      rw [add_at] at c0 c1 c2
      exact ⟨b, off, rfl, block_lt_of_cell c0, c0, c1, c2⟩
end Go.Proofs.Ytpchbdpepgeibaa
