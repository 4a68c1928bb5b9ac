/- Words and small laws for walks (no program): runs of operations, worlds that grow, slices of ints that are read or owned. -/
import Derived.Test.YtpchbdpepgeibaaDoorWWords
import Derived.WalkKit
import Derived.WalkSpells
import Derived.WalkLawsBesides
import Derived.BigQuiet
import Derived.Deep.QuietTactic
import Derived.Deep.LoopGhost
import Derived.Lib.Hide
import Derived.MapKept
import Derived.Maps.AppendAt
import Derived.Sort.OwnSortedInts
namespace Go.Proofs.YtpchbdpepgeibaaDoor
open Go.RowKit Go.Proofs.YtpchbdpepgeibaaDoorW.PrintWords

theorem wpList_skipRun {P : Program} {ops : Array Oper} {Q : Exit → Act → World → Prop} {a : Act} {w w' : World} {rest : List Oper} {o : Oper} (hg : o.guard = none)
    (hrun : (execOp a.eval o).run P w = .ok .skip w') (h : wpList P ops Q rest (a.put o.dst undef) w') : wpList P ops Q (o :: rest) a w :=
  wpList_plain hg fun K hK => by rw [Oper.wp, hrun]; exact hK _ _ h

theorem wpList_valRun {P : Program} {ops : Array Oper} {Q : Exit → Act → World → Prop} {a : Act} {w w' : World} {v : Value} {rest : List Oper} {o : Oper} (hg : o.guard = none)
    (hrun : (execOp a.eval o).run P w = .ok (.value v) w') (h : wpList P ops Q rest (a.put o.dst v) w') : wpList P ops Q (o :: rest) a w :=
  wpList_plain hg fun K hK => by rw [Oper.wp, hrun]; exact hK _ _ h

theorem execOp_append (ρ : Operand → Value) (d : Option Tmp) (x y : Operand) (T ty : TypeId) (pos : String) (af : Array Edge) (g : Option (Nat × Bool)) :
    execOp ρ ⟨d, .call { callee := .builtin .append, args := #[x, y], argTypes := #[T, T] }, ty, pos, af, g⟩ = (do let v ← Builtin.append_ #[T, T] ty #[ρ x, ρ y]; pure (.value v)) := by
  simp [execOp, resolve, invoke, builtin]

/-- An append whose run is known. -/
theorem wpList_append_run {P : Program} {ops : Array Oper} {Q : Exit → Act → World → Prop} {a : Act} {w w' : World} {v : Value} {rest : List Oper} {d : Option Tmp} {x y : Operand} {T ty : TypeId} {pos : String} {af : Array Edge} (V X : Value)
    (hx : a.eval x = V) (hy : a.eval y = X) (hrun : (Builtin.append_ #[T, T] ty #[V, X]).run P w = .ok v w') (h : wpList P ops Q rest (a.put d v) w') :
    wpList P ops Q (⟨d, .call { callee := .builtin .append, args := #[x, y], argTypes := #[T, T] }, ty, pos, af, none⟩ :: rest) a w :=
  wpList_valRun rfl (by rw [execOp_append, hx, hy, Sem.run_bind, hrun]; rfl) h


theorem wpList_of_val {P : Program} {ops : Array Oper} {Q : Exit → Act → World → Prop} {a : Act} {w w' : World} {v : Value} {rest : List Oper} {o : Oper} {s : Sem Value} (hg : o.guard = none)
    (he : execOp a.eval o = (do let v ← s; pure (.value v))) (hrun : s.run P w = .ok v w') (h : wpList P ops Q rest (a.put o.dst v) w') : wpList P ops Q (o :: rest) a w :=
  wpList_valRun hg (by rw [he, Sem.run_bind, hrun]; rfl) h

theorem wpList_of_unit {P : Program} {ops : Array Oper} {Q : Exit → Act → World → Prop} {a : Act} {w w' : World} {rest : List Oper} {o : Oper} {s : Sem Unit} (hg : o.guard = none)
    (he : execOp a.eval o = (do s; pure .skip)) (hrun : s.run P w = .ok () w') (h : wpList P ops Q rest (a.put o.dst undef) w') : wpList P ops Q (o :: rest) a w :=
  wpList_skipRun hg (by rw [he, Sem.run_bind, hrun]; rfl) h

theorem grow_alloc (w : World) (o : Obj) : w.grownBy (w.alloc o) none := ⟨rfl, rfl, rfl, by simp, fun k hk _ => Below.heap_alloc _ _ _ (by omega)⟩

theorem grow_drew (w : World) : w.grownBy w.drew none := ⟨rfl, rfl, rfl, Nat.le_refl _, fun _ _ _ => rfl⟩

theorem grow_drewN (w : World) (n : Nat) : w.grownBy (w.drewN n) none := ⟨rfl, rfl, rfl, Nat.le_refl _, fun _ _ _ => rfl⟩

theorem grow_trans {a b c : World} (h : a.grownBy b none) (k : b.grownBy c none) : a.grownBy c none :=
  ⟨k.os.trans h.os, k.tape.trans h.tape, k.output.trans h.output, Nat.le_trans h.size k.size, fun i hi _ => (k.block i (Nat.lt_of_lt_of_le hi h.size) (by simp)).trans (h.block i hi (by simp))⟩

theorem grow_cell {w w' : World} (h : w.grownBy w' none) {b o : Nat} (hb : b < w.heap.size) : w'.cell? ⟨b, o, none⟩ = w.cell? ⟨b, o, none⟩ := World.cell?_of_block (h.block b hb (by simp))

/-- The slice at A of zs.length elements reads as zs. -/
def CI (w : World) (A : Option Addr) (zs : List Int) : Prop := ∀ j, j < zs.length → ∃ b off, A = some ⟨b, off, none⟩ ∧ b < w.heap.size ∧ w.cell? ⟨b, off + j, none⟩ = some (.int .i64 (zs.getD j 0))

theorem CI.grow {w w' : World} {A : Option Addr} {zs : List Int} (h : CI w A zs) (g : w.grownBy w' none) : CI w' A zs := fun j hj => by
  obtain ⟨b, off, e, hb, hc⟩ := h j hj
  exact ⟨b, off, e, Nat.lt_of_lt_of_le hb g.size, by rw [grow_cell g hb]; exact hc⟩

theorem take_succ (zs : List Int) (k : Nat) (h : k < zs.length) : zs.take (k + 1) = zs.take k ++ [zs.getD k 0] := by
  rw [List.take_succ_eq_append_getElem h]; simp [List.getD, h]

def ints (l : List Int) : List Value := l.map (Value.int .i64)

theorem ints_length (l : List Int) : (ints l).length = l.length := by simp [ints]

theorem grow_below {w0 wr w' : World} {B : Nat} (h : Below B w0 wr) (g : wr.grownBy w' none) (hB : B ≤ wr.heap.size) : Below B w0 w' :=
  h.grown g hB (by intro k hk; cases hk)

theorem grow_then {a b c : World} {row : Option Nat} (h : a.grownBy b none) (g : b.grownBy c row) (hr : ∀ k, row = some k → a.heap.size ≤ k) : a.grownBy c none :=
  ⟨g.os.trans h.os, g.tape.trans h.tape, g.output.trans h.output, Nat.le_trans h.size g.size, fun i hi _ => (g.block i (Nat.lt_of_lt_of_le hi h.size) (fun e => by have := hr i e.symm; omega)).trans (h.block i hi (by simp))⟩

theorem q_some {w : World} {base n E sz : Nat} {v : Value} {xs : List Value} (h : QRow w base E sz v n xs) (hn : 0 < n) : ∃ a n c, v = .slice (some a) n c := by
  rcases h.2 with ⟨h0, _⟩ | ⟨g, off, cap, cur, e, _⟩
  · omega
  · exact ⟨_, _, _, e⟩

theorem lt_of_heap {w : World} {b : Nat} {o : Obj} (h : w.heap[b]? = some o) : b < w.heap.size := by
  rcases Nat.lt_or_ge b w.heap.size with h' | h'
  · exact h'
  · rw [Array.getElem?_eq_none h'] at h; cases h

theorem q_other {w w1 : World} {base n size : Nat} {e : TypeId} {v : Value} {xs : List Value} (h : QRow w base e size v n xs) {row : Option Nat} (hg : w.grownBy w1 row) (hne : ∀ k, v.ownBlock = some k → some k ≠ row) : QRow w1 base e size v n xs :=
  q_move h fun k hk => hg.block k (q_lt h k hk) (hne k hk)

theorem ci_of_q {w : World} {B n : Nat} {A : Option Addr} {c : Nat} {l : List Int} (h : QRow w B 3 1 (.slice A n c) n (ints l)) : CI w A l := by
  intro j hj
  have hl : n = l.length := by have := h.1; rw [ints_length] at this; omega
  obtain ⟨ad, e, hc⟩ := q_cells h (by omega)
  have h0 := hc j (.int .i64 (l.getD j 0)) (by simp [ints, List.getD, hj])
  obtain ⟨b, off, spot⟩ := ad
  cases spot with
  | some s =>
    have h00 := hc 0 (.int .i64 (l.getD 0 0)) (by simp [ints, List.getD, show 0 < l.length by omega])
    simp [World.cell?, Addr.add] at h00; split at h00 <;> simp at h00
  | none =>
    rw [add_at] at h0
    exact ⟨b, off, e, block_lt_of_cell h0, h0⟩

theorem own_none {w w1 : World} {base n E sz : Nat} {v : Value} {xs : List Value} (h : w.ownsRow base E sz v n xs) (g : w.grownBy w1 none) : w1.ownsRow base E sz v n xs :=
  own_other h g (by cases e : v.ownBlock with | none => exact .inl rfl | some k => exact .inr (by simp))

theorem own_not {w : World} {base n E sz : Nat} {v : Value} {xs : List Value} (h : w.ownsRow base E sz v n xs) {k : Nat} {o : Obj} (hk : w.heap[k]? = some o) (hno : ∀ c, o ≠ .cells c E (0, 0)) : v.ownBlock ≠ some k := fun e => by
  obtain ⟨c, hc⟩ := own_typed h k e
  rw [hk] at hc
  injection hc with hc
  exact hno c hc

theorem sorted_eq (zs : List Int) (ks ms : List Int) (h : zs.Perm ks) (hm : ms.Perm ks) (hs : ms.Pairwise (fun a b => decide (a ≤ b) = true)) : (zs.mergeSort fun x y => decide (x ≤ y)) = ms := by
  refine List.Perm.eq_of_pairwise (le := fun a b => decide (a ≤ b) = true) ?_ (List.pairwise_mergeSort ?_ ?_ zs) hs (((List.mergeSort_perm zs _).trans h).trans hm.symm)
  · intro a b _ _ h1 h2; simp at h1 h2; omega
  · intro a b c h1 h2; simp at h1 h2 ⊢; omega
  · intro a b; simp; omega

theorem ci_new (w : World) (zs : List Int) (cs : Array Value) (h : cs.toList = ints zs) : CI (w.alloc (.cells cs 3)) (some ⟨w.heap.size, 0, none⟩) zs := by
  intro j hj
  refine ⟨w.heap.size, 0, rfl, by simp, ?_⟩
  rw [cell_of_row _ _ _ _ _ _ (heap_alloc_new w _), ← Array.getElem?_toList, h]
  simp [ints, List.getD, hj]

/-- A slice of integers that came in, as the frames tell it, reads as its first numbers. -/
theorem row_ci {w : World} {a : Option Addr} {len cap : Nat} {zs : List Int}
    (h : (a = none ∧ len = 0 ∧ cap = 0 ∧ zs = []) ∨ ∃ x, a = some x ∧ len ≤ cap ∧ cap ≤ maxLen ∧ zs.length = cap ∧ (∀ i, i < zs.length → w.cell? (x.add i) = some (.int .i64 (zs.getD i 0))) ∧ ∀ n ∈ zs, (Lit.int .i64 n).wf = true) :
    len = (zs.take len).length ∧ CI w a (zs.take len) := by
  rcases h with ⟨rfl, rfl, rfl, rfl⟩ | ⟨x, rfl, hl, _, hz, hc, _⟩
  · exact ⟨rfl, fun j hj => by simp at hj⟩
  · have hlen : len = (zs.take len).length := by rw [List.length_take]; omega
    refine ⟨hlen, fun j hj => ?_⟩
    have hjz : j < zs.length := by omega
    have hjl : j < len := by omega
    obtain ⟨b, off, spot⟩ := x
    cases spot with
    | some s =>
      have h00 := hc 0 (by omega)
      simp [World.cell?, Addr.add] at h00; split at h00 <;> simp at h00
    | none =>
      have h0 := hc j hjz
      rw [Go.Proofs.YtpchbdpepgeibaaDoorW.PrintWords.add_at] at h0
      refine ⟨b, off, rfl, block_lt_of_cell h0, ?_⟩
      rw [h0]
      simp [List.getD, hjl]

theorem run_append_zero {P : Program} (w : World) (t ty e : TypeId) (i : TypeInfo) (ht : P.underlying t = some (.slice e)) (hi : P.info? e = some i) (base : Option Addr) (sLen sCap : Nat) (hle : sLen ≤ sCap) (A : Option Addr) (c : Nat) :
    (Builtin.append_ #[t, t] ty #[.slice base sLen sCap, .slice A 0 c]).run P w = .ok (.slice base sLen sCap) w := by
  cases A <;> cases base <;> simp [Builtin.append_, run_underlying ht, sizeOf, typeInfo, hi, Builtin.lenOf, hle, Builtin.firstCells, loadCells, loadCellsFrom, storeCells, Result.andThen]

theorem ci_of_c {w : World} {A : Option Addr} {l : List Int} (h : (Kd.int .i64).C w A l.length l) : CI w A l := by
  intro j hj
  obtain ⟨ad, e, hc⟩ := Kd.at_int h (j : Int) (by omega) (by omega)
  obtain ⟨ad0, e0, hc0⟩ := Kd.at_int h 0 (by omega) (by omega)
  rw [e] at e0
  injection e0 with e0
  subst e0
  obtain ⟨b, off, spot⟩ := ad
  cases spot with
  | some s => simp [World.cell?, Addr.add] at hc0; split at hc0 <;> simp at hc0
  | none =>
    rw [add_at] at hc
    exact ⟨b, off, e, block_lt_of_cell hc, by simpa [rd] using hc⟩

theorem grow_of_below {w w' : World} (h : Below w.heap.size w w') : w.grownBy w' none := ⟨h.os, h.tape, h.output, h.size, fun k hk _ => h.block k hk⟩

theorem ci_to_c {w : World} {A : Option Addr} {l : List Int} (h : CI w A l) (hl : l.length ≤ 100000) : (Kd.int .i64).C w A l.length l := by
  refine ⟨rfl, by omega, fun hp => ?_⟩
  obtain ⟨b, off, rfl, _, _⟩ := h 0 hp
  refine ⟨_, rfl, fun j p hj => ⟨[.int .i64 p], rfl, rfl, fun i u hu => ?_⟩⟩
  have hj' : j < l.length := (List.getElem?_eq_some_iff.1 hj).1
  obtain ⟨b', off', e, _, hc⟩ := h j hj'
  cases e
  have hi : i = 0 := by have := (List.getElem?_eq_some_iff.1 hu).1; simp at this; exact this
  subst hi
  have hu' : u = .int .i64 p := by simpa using hu.symm
  subst hu'
  rw [add_at]
  have e2 : j * Kd.sz (Kd.int .i64) + 0 = j := by show j * 1 + 0 = j; omega
  rw [e2, hc]
  simp [List.getD, hj]

theorem ret_bool {a b : Bool} (h : a = b) : Ending.returned (.bool a) = .returned (.bool b) := by rw [h]

theorem ci_of_own {w : World} {B n : Nat} {v : Value} {l : List Int} (h : w.ownsRow B 3 1 v n (ints l)) (hn : n = l.length) : ∃ A c, v = .slice A l.length c ∧ CI w A l := by
  subst hn
  obtain ⟨A, c, rfl, _⟩ := q_slice (q_of_own h)
  exact ⟨A, c, rfl, ci_of_q (q_of_own h)⟩

end Go.Proofs.YtpchbdpepgeibaaDoor
