/- What the row's conditions give a walk; the witness's start. -/
import Derived.Test.YtpchbdpepgeibaaDoorH
import Derived.Test.YtpchbdpepgeibaaDoorRows
import Derived.ProofKit
import Derived.Lay
import Derived.LaidMore
import Derived.LaidOnce
import Derived.OpenShut
import Derived.ShutString
import Derived.ChangeOld
import Derived.SevenTiedAt
import Derived.Stop.Joined
import Derived.Shelf.Vars
namespace Go.Proofs.YtpchbdpepgeibaaDoor
open Go.ChangeShapes Go.WideShapes Go.ChangeAt Go.RowKit

def laidL : List (String × DataW Unit) := [("math/bits.deBruijn32tab", Rows.laid_math_bits_deBruijn32tab), ("math/bits.deBruijn64tab", Rows.laid_math_bits_deBruijn64tab), ("internal/strconv.uint64pow10", Rows.laid_internal_strconv_uint64pow10), ("strconv.ErrRange", Rows.laid_strconv_ErrRange), ("strconv.ErrSyntax", Rows.laid_strconv_ErrSyntax)]
theorem own0 : ownKnob Tryd.prog.godebug = none := by kernel_rfl
theorem laidOut : laidOutB Tryd.prog = true := by kernel_rfl
set_option maxRecDepth 100000 in
theorem trod_if {H : Type} {enc : TypeId × Value → H} {P : Program} {w : World} {base : Nat} {spare : Nat → Bool} {held : Bool} {fuel : Nat} {t : TypeId} {cs : List Value} {x : DataW H × List MemPlace} {ms : Array (String × TypeId)}
    (ht : P.underlying t = some (.interface ms)) (h : DataW.trod enc P w base spare held fuel t cs = some x) : ∃ ev, cs = [ev] ∧ (ev = .nilIface ∨ ∃ te pe, ev = .iface te pe) := by
  cases fuel with
  | zero => cases h
  | succ fuel =>
    rw [DataW.trod.eq_def] at h
    simp only [ht] at h
    split at h <;> first | (rename_i h1; cases h1) | skip
    all_goals first | exact ⟨_, rfl, .inl rfl⟩ | exact ⟨_, rfl, .inr ⟨_, _, rfl⟩⟩ | cases h
set_option maxRecDepth 100000 in
theorem gw_laid {W : World} (hs : W.ShapedOpen Tryd.prog) (h : laidMetH Tryd.prog laidL W) : GW W := by
  rw [MakeChecks.laidMetH_plain _ _ _ (by kernel_rfl)] at h
  obtain ⟨ps, ⟨g0, t0, cs0, f0, p0, q0, hg0, ht0, hv0, hd0, ⟨g1, t1, cs1, f1, p1, q1, hg1, ht1, hv1, hd1, ⟨g2, t2, cs2, f2, p2, q2, hg2, ht2, hv2, hd2, ⟨g3, t3, cs3, f3, p3, q3, hg3, ht3, hv3, hd3, ⟨g4, t4, cs4, f4, p4, q4, hg4, ht4, hv4, hd4, _, _⟩, _⟩, _⟩, _⟩, _⟩, _, _⟩ := h
  obtain rfl := Option.some.inj ((show Tryd.prog.globalNamed "strconv.ErrRange" = some 2 by kernel_rfl).symm.trans hg3)
  obtain rfl := Option.some.inj ((show Tryd.prog.globalNamed "strconv.ErrSyntax" = some 1 by kernel_rfl).symm.trans hg4)
  obtain rfl := Option.some.inj ((show (Tryd.prog.globals[2]?).map (·.type) = some 55 by kernel_rfl).symm.trans ht3)
  obtain rfl := Option.some.inj ((show (Tryd.prog.globals[1]?).map (·.type) = some 55 by kernel_rfl).symm.trans ht4)
  obtain ⟨e3, c3, h3⟩ := trod_if Tryd.underlying55 hd3
  obtain ⟨e4, c4, h4⟩ := trod_if Tryd.underlying55 hd4
  refine ⟨cell_of_shapedOpen_int (zero := #[.int .i64 0]) (t := 3) hs (of_decide_eq_true (by kernel_rfl)) (by kernel_rfl) rfl (by kernel_rfl) (by kernel_rfl) Tryd.underlying3, ⟨e4, ?_, h4⟩, ⟨e3, ?_, h3⟩⟩
  · rw [World.var?_cell hg4 hv4 0]
    have : cs4.toList[0]? = some e4 := by rw [c4]; rfl
    simpa using this
  · rw [World.var?_cell hg3 hv3 0]
    have : cs3.toList[0]? = some e3 := by rw [c3]; rfl
    simpa using this
set_option maxRecDepth 100000 in
theorem door_met (os : Os) (args : Array Value) : laidMetH Tryd.prog laidL ((World.doorLaid Tryd.prog 62 os).forCall (fun _ _ => 0) ⟨#[], args, []⟩).memory :=
  laidMetH_of_parts3 (fuel := 8) (laidMet_of_run' 8 (by kernel_rfl) (by kernel_rfl)) (by kernel_rfl) (by kernel_rfl)
/-- A spot that came in by value. -/
def IsSpot (w : World) (v : Value) (z : Int × Int) : Prop := v = .agg #[.int .i64 z.1, .int .i64 z.2]
set_option maxRecDepth 100000 in
theorem open_spot {H : Type} {enc : TypeId × Value → H} {W : World} {base : Nat} {v : Value} {d : DataW H} {p : List MemPlace} (hv : Value.okWide Tryd.prog W .any base 23 v) (_h : DataW.Trod enc Tryd.prog W 0 (fun _ => true) true 23 v d p) : ∃ z, IsSpot W v z := by
  unfold Value.okWide at hv
  rw [Tryd.underlying23] at hv
  obtain ⟨cs, rfl, hs, ts, hts, _, hc⟩ := hv
  have h2 : cs.size = 2 := hs.trans (by kernel_rfl)
  obtain rfl : [3, 3] = ts := Option.some.inj ((show Tryd.prog.cellTypes Tryd.prog.depth 23 = some [3, 3] by kernel_rfl).symm.trans hts)
  have key : ∀ i, i < 2 → ∃ n, cs[i]? = some (.int .i64 n) := by
    intro i hi
    have hlt : i < cs.size := by omega
    obtain ⟨u, hu, hok⟩ := hc i cs[i] (by simp [hlt])
    have hu3 : u = 3 := by
      have : i = 0 ∨ i = 1 := by omega
      rcases this with rfl | rfl <;> simpa using hu.symm
    subst hu3
    unfold Cell.okWide at hok
    rw [Tryd.underlying3] at hok
    unfold Cell.ok at hok
    rw [Tryd.underlying3] at hok
    refine ?_
    cases hv : cs[i] <;> rw [hv] at hok <;> simp at hok
    case int k' n => exact ⟨n, by simp [hlt, hv, hok.1]⟩
  obtain ⟨b, hb⟩ := key 0 (by omega)
  obtain ⟨c, hcc⟩ := key 1 (by omega)
  refine ⟨(b, c), ?_⟩
  unfold IsSpot
  congr 1
  apply Array.ext_getElem?
  intro i
  match i with
  | 0 => rw [hb]; rfl
  | 1 => rw [hcc]; rfl
  | i + 2 => rw [Array.getElem?_eq_none (by omega)]; rfl
end Go.Proofs.YtpchbdpepgeibaaDoor
