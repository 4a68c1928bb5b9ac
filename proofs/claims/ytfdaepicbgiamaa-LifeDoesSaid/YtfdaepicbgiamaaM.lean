/- Laws of a map of ints that is only added to (look-up, store of a new key) and of an append whose run is known. -/
import Derived.Test.YtfdaepicbgiamaaRows
import Derived.WalkKit
import Derived.MapKept
namespace Go.Proofs.Ytfdaepicbgiamaa
open Go.RowKit

theorem wpList_skipRun {P : Program} {ops : Array Oper} {Q : Exit → Act → World → Prop} {a : Act} {w w' : World} {rest : List Oper} {o : Oper} (hg : o.guard = none)
    (hrun : (execOp a.eval o).run P w = .ok .skip w') (h : wpList P ops Q rest (a.put o.dst undef) w') : wpList P ops Q (o :: rest) a w :=
  wpList_plain hg fun K hK => by rw [Oper.wp, hrun]; exact hK _ _ h
theorem wpList_valRun {P : Program} {ops : Array Oper} {Q : Exit → Act → World → Prop} {a : Act} {w w' : World} {v : Value} {rest : List Oper} {o : Oper} (hg : o.guard = none)
    (hrun : (execOp a.eval o).run P w = .ok (.value v) w') (h : wpList P ops Q rest (a.put o.dst v) w') : wpList P ops Q (o :: rest) a w :=
  wpList_plain hg fun K hK => by rw [Oper.wp, hrun]; exact hK _ _ h

theorem execOp_append (ρ : Operand → Value) (d : Option Tmp) (x y : Operand) (T ty : TypeId) (pos : String) (af : Array Edge) (g : Option (Nat × Bool)) :
    execOp ρ ⟨d, .call { callee := .builtin .append, args := #[x, y], argTypes := #[T, T] }, ty, pos, af, g⟩ = (do let v ← Builtin.append_ #[T, T] ty #[ρ x, ρ y]; pure (.value v)) := by
  simp [execOp, resolve, invoke, builtin]
/-- An append whose run is known. -/
theorem wpList_append_run {P : Program} {ops : Array Oper} {Q : Exit → Act → World → Prop} {a : Act} {w w' : World} {v : Value} {rest : List Oper} {d : Option Tmp} {x y : Operand} {T ty : TypeId} {pos : String} {af : Array Edge} (V X : Value)
    (hx : a.eval x = V) (hy : a.eval y = X) (hrun : (Builtin.append_ #[T, T] ty #[V, X]).run P w = .ok v w') (h : wpList P ops Q rest (a.put d v) w') :
    wpList P ops Q (⟨d, .call { callee := .builtin .append, args := #[x, y], argTypes := #[T, T] }, ty, pos, af, none⟩ :: rest) a w :=
  wpList_valRun rfl (by rw [execOp_append, hx, hy, Sem.run_bind, hrun]; rfl) h

section
variable {P : Program}
/-- A map of ints that was only ever added to: its keys and values, the elder ones first. -/
def entsOf (L : List (Int × Value)) : Array MapEntry := (L.mapIdx fun i kv => (⟨.int .i64 kv.1, kv.2, i⟩ : MapEntry)).toArray
def mapObj (L : List (Int × Value)) : Obj := .map (entsOf L) L.length
def mget (L : List (Int × Value)) (k : Int) : Option Value := (L.find? (·.1 == k)).map (·.2)

theorem findNow_mk (k : Int) : ∀ (L : List (Int × Value)) (f : Nat → Nat) (i : Nat),
    ∃ r, Instr.findNow (.int .i64) (.int .i64 k) (L.mapIdx fun j kv => (⟨.int .i64 kv.1, kv.2, f j⟩ : MapEntry)) i = some r ∧ r.map (·.2) = mget L k
  | [], _, _ => ⟨none, rfl, rfl⟩
  | (k', v) :: L, f, i => by
    simp only [List.mapIdx_cons, Instr.findNow, Instr.sameNow, if_true]
    by_cases h : k = k'
    · subst h
      exact ⟨some (i, v), by simp, by simp [mget]⟩
    · have h1 : (k == k') = false := by simp [h]
      have h2 : (k' == k) = false := by simp; exact fun e => h e.symm
      obtain ⟨r, e1, e2⟩ := findNow_mk k L (fun j => f (j + 1)) (i + 1)
      exact ⟨r, by rw [h1]; exact e1, by rw [e2]; simp [mget, h2]⟩

theorem run_findKey_mk (w : World) (K : TypeId) (hK : P.underlying K = some (.int .i64)) (k : Int) (L : List (Int × Value)) :
    ∃ r, (Instr.findKey K (.int .i64 k) (entsOf L).toList).run P w = .ok r w ∧ r.map (·.2) = mget L k := by
  obtain ⟨r, e1, e2⟩ := findNow_mk k L id 0
  refine ⟨r, ?_, e2⟩
  have e1' : Instr.findNow (.int .i64) (.int .i64 k) (entsOf L).toList 0 = some r := by simpa [entsOf] using e1
  simp [Instr.findKey, run_underlying hK, e1']

theorem run_checkKey_int (w : World) (K : TypeId) (hK : P.underlying K = some (.int .i64)) (b : Bool) (k : Int) : (Instr.checkKey b 10000 K (.int .i64 k)).run P w = .ok () w := by
  rw [Instr.checkKey]
  simp [run_underlying hK]

theorem run_lookup_mk (w : World) (T K E : TypeId) (hT : P.underlying T = some (.map K E)) (hK : P.underlying K = some (.int .i64)) (z : Value) (hz : ∀ w, (zeroValue E).run P w = .ok z w)
    (b : Nat) (L : List (Int × Value)) (hb : w.heap[b]? = some (mapObj L)) (k : Int) (ok : Bool) :
    (Instr.lookup T (.map (some b)) (.int .i64 k) ok).run P w = .ok (if ok then .tuple #[(mget L k).getD z, .bool (mget L k).isSome] else (mget L k).getD z) w := by
  obtain ⟨r, e1, e2⟩ := run_findKey_mk (P := P) w K hK k L
  have hb' : w.heap[b]? = some (.map (entsOf L) L.length) := hb
  cases r with
  | none =>
    have e3 : mget L k = none := by simpa using e2.symm
    simp [Instr.lookup, run_underlying hT, MapKept.run_getObj_map hb', run_checkKey_int w K hK, e1, e3, hz]
  | some p =>
    have e3 : mget L k = some p.2 := by simpa using e2.symm
    simp [Instr.lookup, run_underlying hT, MapKept.run_getObj_map hb', run_checkKey_int w K hK, e1, e3]

theorem entsOf_push (L : List (Int × Value)) (k : Int) (v : Value) : (entsOf L).push ⟨.int .i64 k, v, L.length⟩ = entsOf (L ++ [(k, v)]) := by
  simp [entsOf, List.mapIdx_append]

def putMap (w : World) (mb : Nat) (L : List (Int × Value)) : World := { w with heap := w.heap.setIfInBounds mb (mapObj L) }
theorem run_update_new (w : World) (T K E : TypeId) (hT : P.underlying T = some (.map K E)) (hK : P.underlying K = some (.int .i64))
    (b : Nat) (L : List (Int × Value)) (hb : w.heap[b]? = some (mapObj L)) (k : Int) (v : Value) (hn : mget L k = none) :
    (Instr.mapUpdate T (.map (some b)) (.int .i64 k) v).run P w = .ok () (putMap w b (L ++ [(k, v)])) := by
  obtain ⟨r, e1, e2⟩ := run_findKey_mk (P := P) w K hK k L
  have hb' : w.heap[b]? = some (.map (entsOf L) L.length) := hb
  cases r with
  | some p => rw [hn] at e2; simp at e2
  | none => 
    have hp := entsOf_push L k v
    simp [Instr.mapUpdate, run_underlying hT, MapKept.run_getObj_map hb', run_checkKey_int w K hK, e1, MapKept.run_setObj_map _ hb', hp, mapObj, putMap]
end
end Go.Proofs.Ytfdaepicbgiamaa
