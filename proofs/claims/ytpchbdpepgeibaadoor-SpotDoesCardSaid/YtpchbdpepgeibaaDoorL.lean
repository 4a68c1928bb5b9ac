/- What the row's conditions give a walk; the witness's start. -/
import Derived.Test.YtpchbdpepgeibaaDoorH
import Derived.Test.YtpchbdpepgeibaaDoorRows
import Derived.ProofKit
import Derived.Lay
import Derived.LaidMore
import Derived.LaidOnce
import Derived.OpenShut
import Derived.ShutString
import Derived.ChangeOld
import Derived.SevenTiedAt
import Derived.Stop.Joined
import Derived.Shelf.Vars
import Derived.Deep.Slices
import Derived.Deep.Fields
import Derived.ChangeSame
import Derived.RowKit3
namespace Go.Proofs.YtpchbdpepgeibaaDoor
open Go.ChangeShapes Go.WideShapes Go.ChangeAt Go.RowKit

def laidL : List (String × DataW Unit) := [("math/bits.deBruijn32tab", Rows.laid_math_bits_deBruijn32tab), ("math/bits.deBruijn64tab", Rows.laid_math_bits_deBruijn64tab), ("internal/strconv.uint64pow10", Rows.laid_internal_strconv_uint64pow10), ("strconv.ErrRange", Rows.laid_strconv_ErrRange), ("strconv.ErrSyntax", Rows.laid_strconv_ErrSyntax)]
theorem own0 : ownKnob Tryd.prog.godebug = none := by kernel_rfl
theorem laidOut : laidOutB Tryd.prog = true := by kernel_rfl
set_option maxRecDepth 100000 in
theorem trod_if {H : Type} {enc : TypeId × Value → H} {P : Program} {w : World} {base : Nat} {spare : Nat → Bool} {held : Bool} {fuel : Nat} {t : TypeId} {cs : List Value} {x : DataW H × List MemPlace} {ms : Array (String × TypeId)}
    (ht : P.underlying t = some (.interface ms)) (h : DataW.trod enc P w base spare held fuel t cs = some x) : ∃ ev, cs = [ev] ∧ (ev = .nilIface ∨ ∃ te pe, ev = .iface te pe) := by
  cases fuel with
  | zero => cases h
  | succ fuel =>
    rw [DataW.trod.eq_def] at h
    simp only [ht] at h
    split at h <;> first | (rename_i h1; cases h1) | skip
    all_goals first | exact ⟨_, rfl, .inl rfl⟩ | exact ⟨_, rfl, .inr ⟨_, _, rfl⟩⟩ | cases h
set_option maxRecDepth 100000 in
theorem gw_laid {W : World} (hs : W.ShapedOpen Tryd.prog) (h : laidMetH Tryd.prog laidL W) : GW W := by
  rw [MakeChecks.laidMetH_plain _ _ _ (by kernel_rfl)] at h
  obtain ⟨ps, ⟨g0, t0, cs0, f0, p0, q0, hg0, ht0, hv0, hd0, ⟨g1, t1, cs1, f1, p1, q1, hg1, ht1, hv1, hd1, ⟨g2, t2, cs2, f2, p2, q2, hg2, ht2, hv2, hd2, ⟨g3, t3, cs3, f3, p3, q3, hg3, ht3, hv3, hd3, ⟨g4, t4, cs4, f4, p4, q4, hg4, ht4, hv4, hd4, _, _⟩, _⟩, _⟩, _⟩, _⟩, _, _⟩ := h
  obtain rfl := Option.some.inj ((show Tryd.prog.globalNamed "strconv.ErrRange" = some 2 by kernel_rfl).symm.trans hg3)
  obtain rfl := Option.some.inj ((show Tryd.prog.globalNamed "strconv.ErrSyntax" = some 1 by kernel_rfl).symm.trans hg4)
  obtain rfl := Option.some.inj ((show (Tryd.prog.globals[2]?).map (·.type) = some 55 by kernel_rfl).symm.trans ht3)
  obtain rfl := Option.some.inj ((show (Tryd.prog.globals[1]?).map (·.type) = some 55 by kernel_rfl).symm.trans ht4)
  obtain ⟨e3, c3, h3⟩ := trod_if Tryd.underlying55 hd3
  obtain ⟨e4, c4, h4⟩ := trod_if Tryd.underlying55 hd4
  refine ⟨cell_of_shapedOpen_int (zero := #[.int .i64 0]) (t := 3) hs (of_decide_eq_true (by kernel_rfl)) (by kernel_rfl) rfl (by kernel_rfl) (by kernel_rfl) Tryd.underlying3, ⟨e4, ?_, h4⟩, ⟨e3, ?_, h3⟩⟩
  · rw [World.var?_cell hg4 hv4 0]
    have : cs4.toList[0]? = some e4 := by rw [c4]; rfl
    simpa using this
  · rw [World.var?_cell hg3 hv3 0]
    have : cs3.toList[0]? = some e3 := by rw [c3]; rfl
    simpa using this
set_option maxRecDepth 100000 in
theorem door_met (os : Os) (args : Array Value) : laidMetH Tryd.prog laidL ((World.doorLaid Tryd.prog 62 os).forCall (fun _ _ => 0) ⟨#[], args, []⟩).memory :=
  laidMetH_of_parts3 (fuel := 8) (laidMet_of_run' 8 (by kernel_rfl) (by kernel_rfl)) (by kernel_rfl) (by kernel_rfl)
/-- A spot that came in by value. -/
def IsSpot (w : World) (v : Value) (z : Int × Int) : Prop := v = .agg #[.int .i64 z.1, .int .i64 z.2]
set_option maxRecDepth 100000 in
theorem open_spot {H : Type} {enc : TypeId × Value → H} {W : World} {base : Nat} {v : Value} {d : DataW H} {p : List MemPlace} (hv : Value.okWide Tryd.prog W .any base 23 v) (_h : DataW.Trod enc Tryd.prog W 0 (fun _ => true) true 23 v d p) : ∃ z, IsSpot W v z := by
  unfold Value.okWide at hv
  rw [Tryd.underlying23] at hv
  obtain ⟨cs, rfl, hs, ts, hts, _, hc⟩ := hv
  have h2 : cs.size = 2 := hs.trans (by kernel_rfl)
  obtain rfl : [3, 3] = ts := Option.some.inj ((show Tryd.prog.cellTypes Tryd.prog.depth 23 = some [3, 3] by kernel_rfl).symm.trans hts)
  have key : ∀ i, i < 2 → ∃ n, cs[i]? = some (.int .i64 n) := by
    intro i hi
    have hlt : i < cs.size := by omega
    obtain ⟨u, hu, hok⟩ := hc i cs[i] (by simp [hlt])
    have hu3 : u = 3 := by
      have : i = 0 ∨ i = 1 := by omega
      rcases this with rfl | rfl <;> simpa using hu.symm
    subst hu3
    unfold Cell.okWide at hok
    rw [Tryd.underlying3] at hok
    unfold Cell.ok at hok
    rw [Tryd.underlying3] at hok
    refine ?_
    cases hv : cs[i] <;> rw [hv] at hok <;> simp at hok
    case int k' n => exact ⟨n, by simp [hlt, hv, hok.1]⟩
  obtain ⟨b, hb⟩ := key 0 (by omega)
  obtain ⟨c, hcc⟩ := key 1 (by omega)
  refine ⟨(b, c), ?_⟩
  unfold IsSpot
  congr 1
  apply Array.ext_getElem?
  intro i
  match i with
  | 0 => rw [hb]; rfl
  | 1 => rw [hcc]; rfl
  | i + 2 => rw [Array.getElem?_eq_none (by omega)]; rfl
namespace Slices
open Go.Deep Go.Proofs.YtpchbdpepgeibaaDoorW.PrintWords
section
variable {H : Type} {enc : TypeId × Value → H} {P : Program} {w : World} {base : Nat} {spare : Nat → Bool} {held : Bool}
theorem open_slice_fields {t e : TypeId} {fs : Array Field} {fuel : Nat} {cs : List Value} {x : DataW H × List MemPlace} (ht : P.underlying t = some (.slice e)) (he : P.underlying e = some (.struct fs))
    (hone : oneCellFields P fs = true) (hC : P.cellsOf e = fs.size) (h : DataW.trod enc P w base spare held fuel t cs = some x) :
    (cs = [.slice none 0 0] ∧ x = (.nil, [])) ∨
    ∃ (a : Addr) (len cap m : Nat) (D : Nat → DataW H) (Pl : Nat → List MemPlace), cs = [.slice (some a) len cap] ∧ base ≤ a.block ∧ len ≤ cap ∧ cap ≤ maxLen ∧ m = (if spare a.block then cap else len) ∧
      x = (.slice ((List.range len).map D) ((List.range (m - len)).map fun j => D (len + j)), MemPlace.row a (m * fs.size) ++ (List.range m).flatMap Pl) ∧
      ∀ i, i < m → ∃ (ys : List (DataW H × List MemPlace)) (n : Nat), D i = .agg (ys.map (·.1)) ∧ Pl i = ys.flatMap (·.2) ∧ ys.length = fs.size ∧
        ∀ (j : Nat) (f : Field), fs[j]? = some f → ∃ (v : Value) (y : DataW H × List MemPlace), w.cell? (a.add (i * fs.size + j)) = some v ∧ ys[j]? = some y ∧ DataW.trod enc P w base spare held n f.type [v] = some y := by
  rcases open_slice ht h with h0 | ⟨a, len, cap, m, n, D, Pl, hcs, hb, hl, hm, hmm, hx, hi⟩
  · exact .inl h0
  · refine .inr ⟨a, len, cap, m, D, Pl, hcs, hb, hl, hm, hmm, by rw [hC] at hx; exact hx, fun i him => ?_⟩
    obtain ⟨cs', hc, ht'⟩ := hi i him
    rw [hC] at hc
    obtain ⟨ys, n', hn', hy, hlen, hyl, hf⟩ := DataW.trod_struct he ht'
    obtain ⟨_, hcl, hat⟩ := World.cells?_some hc
    simp only [Prod.mk.injEq] at hy
    refine ⟨ys, n', hy.1, hy.2, hyl, fun j f hj => ?_⟩
    obtain ⟨ho, hk⟩ := hone_of hone j f hj
    have hjl : j < fs.size := (Array.getElem?_eq_some_iff.1 hj).1
    have hcell := hat j hjl
    have hv : cs'[j]? = some (cs'[j]'(by omega)) := List.getElem?_eq_getElem (by omega)
    have h1 := hf j f hj
    rw [ho, hk] at h1
    have hone' : (cs'.drop j).take 1 = [cs'[j]'(by omega)] := by
      rw [List.drop_eq_getElem_cons (by omega)]
      rfl
    rw [hone'] at h1
    have hys : ys[j]? = some (ys[j]'(by omega)) := List.getElem?_eq_getElem (by omega)
    refine ⟨_, _, ?_, hys, h1.trans hys⟩
    rw [← Go.Deep.add_add, hcell, hv]
end

/-- What the walk is told of a slice of spots that came in. -/
def Spots (w : World) (a : Option Addr) (len cap : Nat) (zs : List S23) : Prop := zs.length = len ∧ len ≤ cap ∧ cap ≤ maxLen ∧ CW w a zs
theorem int_cell {H : Type} {enc : TypeId × Value → H} {w : World} {base n : Nat} {spare : Nat → Bool} {held : Bool} {v : Value} {y : DataW H × List MemPlace} (h : DataW.trod enc Tryd.prog w base spare held n 3 [v] = some y) : ∃ z, v = .int .i64 z := by
  obtain ⟨z, hz, _⟩ := DataW.trod_int Tryd.underlying3 h
  simp at hz
  exact ⟨z, hz⟩
theorem open_spots {H : Type} {enc : TypeId × Value → H} {w : World} {base : Nat} {spare : Nat → Bool} {held : Bool} {a : Option Addr} {len cap : Nat} {d : DataW H} {p : List MemPlace} (h : DataW.Trod enc Tryd.prog w base spare held 24 (.slice a len cap) d p) :
    ∃ zs : List S23, Spots w a len cap zs := by
  obtain ⟨fuel, hf⟩ := h
  rcases open_slice_fields Tryd.underlying24 Tryd.underlying23 (by kernel_rfl) (by kernel_rfl) hf with ⟨hcs, _⟩ | ⟨x, l, c, m, D, Pl, hcs, _, hl, hm, hmm, _, hi⟩
  · simp [Value.cells] at hcs
    obtain ⟨rfl, rfl, rfl⟩ := hcs
    exact ⟨[], rfl, Nat.le_refl _, by decide, CW.nil _ _⟩
  · simp [Value.cells] at hcs
    obtain ⟨rfl, rfl, rfl⟩ := hcs
    have hlm : len ≤ m := by rw [hmm]; split <;> omega
    have key : ∀ i, i < len → ∃ z : S23, w.cell? (x.add (i * 2)) = some (.int .i64 z.f0) ∧ w.cell? (x.add (i * 2 + 1)) = some (.int .i64 z.f1) := fun i hil => by
      obtain ⟨ys, n, _, _, _, hfi⟩ := hi i (by omega)
      obtain ⟨u0, y0, c0, _, t0⟩ := hfi 0 _ rfl
      obtain ⟨u1, y1, c1, _, t1⟩ := hfi 1 _ rfl
      obtain ⟨z0, rfl⟩ := int_cell t0
      obtain ⟨z1, rfl⟩ := int_cell t1
      exact ⟨⟨z0, z1⟩, c0, c1⟩
    have hex : ∀ n, n ≤ len → ∃ zs : List S23, zs.length = n ∧ ∀ i, i < n → w.cell? (x.add (i * 2)) = some (.int .i64 (zs.getD i z23).f0) ∧ w.cell? (x.add (i * 2 + 1)) = some (.int .i64 (zs.getD i z23).f1) := by
      intro n
      induction n with
      | zero => intro _; exact ⟨[], rfl, fun i h => by omega⟩
      | succ n ih =>
        intro hn
        obtain ⟨zs, hz, hzc⟩ := ih (by omega)
        obtain ⟨z, hzz⟩ := key n (by omega)
        refine ⟨zs ++ [z], by simp [hz], fun i h => ?_⟩
        by_cases e : i = n
        · subst e
          have : (zs ++ [z]).getD i z23 = z := by simp [← hz]
          rw [this]; exact hzz
        · have : (zs ++ [z]).getD i z23 = zs.getD i z23 := by
            rw [List.getD_eq_getElem?_getD, List.getElem?_append_left (by omega), List.getD_eq_getElem?_getD]
          rw [this]; exact hzc i (by omega)
    obtain ⟨zs, hz, hzc⟩ := hex len (Nat.le_refl _)
    refine ⟨zs, hz, hl, hm, fun j hj => ?_⟩
    obtain ⟨c0, c1⟩ := hzc j (by omega)
    obtain ⟨b, off, spot⟩ := x
    cases spot with
    | some s =>
      exfalso
      have h0 := (hzc 0 (by omega)).1
      simp [World.cell?, Addr.add] at h0
      split at h0 <;> simp at h0
    | none =>
      rw [add_at] at c0 c1
      exact ⟨b, off, rfl, block_lt_of_cell c0, c0, c1⟩
end Slices
end Go.Proofs.YtpchbdpepgeibaaDoor
