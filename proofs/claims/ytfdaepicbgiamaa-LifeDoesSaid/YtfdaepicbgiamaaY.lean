/- Contract of life.ways: the map that it makes holds the rows of V. -/
import Derived.Test.YtfdaepicbgiamaaB
import Derived.Test.YtfdaepicbgiamaaWWords
import Derived.Test.YtfdaepicbgiamaaShelf
namespace Go.Proofs.Ytfdaepicbgiamaa
open Go.RowKit Go.Proofs.YtfdaepicbgiamaaW.PrintWords

def ints (l : List Int) : List Value := l.map (Value.int .i64)
theorem ints_length (l : List Int) : (ints l).length = l.length := by simp [ints]

def ER (w : World) (B : Nat) (qv : Value) (kv : Int × Value) (kl : Int × List Int) : Prop :=
  kv.1 = kl.1 ∧ QRow w B 3 1 kv.2 kl.2.length (ints kl.2) ∧ (∃ a n c, kv.2 = .slice (some a) n c) ∧ (∀ g, kv.2.ownBlock = some g → qv.ownBlock ≠ some g)

structure Inv (w0 : World) (mb : Nat) (L : List (Int × Value)) (s : St) (qv : Value) (wr : World) : Prop where
  below : Below w0.heap.size w0 wr
  mbge : w0.heap.size ≤ mb
  ents : wr.heap[mb]? = some (mapObj L)
  rows : All2 (ER wr w0.heap.size qv) L s.1
  row : QRow wr w0.heap.size 3 1 qv s.2.length (ints s.2)
  apart : qv.ownBlock ≠ some mb

theorem grow_below {w0 wr w' : World} {B : Nat} (h : Below B w0 wr) (g : wr.grownBy w' none) (hB : B ≤ wr.heap.size) : Below B w0 w' :=
  h.grown g hB (by intro k hk; cases hk)

theorem grow_then {a b c : World} {row : Option Nat} (h : a.grownBy b none) (g : b.grownBy c row) (hr : ∀ k, row = some k → a.heap.size ≤ k) : a.grownBy c none :=
  ⟨g.os.trans h.os, g.tape.trans h.tape, g.output.trans h.output, Nat.le_trans h.size g.size, fun i hi _ => (g.block i (Nat.lt_of_lt_of_le hi h.size) (fun e => by have := hr i e.symm; omega)).trans (h.block i hi (by simp))⟩
theorem q_some {w : World} {base n : Nat} {v : Value} {xs : List Value} (h : QRow w base 3 1 v n xs) (hn : 0 < n) : ∃ a n c, v = .slice (some a) n c := by
  rcases h.2 with ⟨h0, _⟩ | ⟨g, off, cap, cur, e, _⟩
  · omega
  · exact ⟨_, _, _, e⟩
theorem lt_of_heap {w : World} {b : Nat} {o : Obj} (h : w.heap[b]? = some o) : b < w.heap.size := by
  rcases Nat.lt_or_ge b w.heap.size with h' | h'
  · exact h'
  · rw [Array.getElem?_eq_none h'] at h; cases h

theorem q_other {w w1 : World} {base n size : Nat} {e : TypeId} {v : Value} {xs : List Value} (h : QRow w base e size v n xs) {row : Option Nat} (hg : w.grownBy w1 row) (hne : ∀ k, v.ownBlock = some k → some k ≠ row) : QRow w1 base e size v n xs :=
  q_move h fun k hk => hg.block k (q_lt h k hk) (hne k hk)
theorem ER.grow {w w' : World} {B : Nat} {qv : Value} {kv : Int × Value} {kl : Int × List Int} (h : ER w B qv kv kl) {row : Option Nat} (g : w.grownBy w' row) (hr : row = none ∨ row = qv.ownBlock) : ER w' B qv kv kl := by
  obtain ⟨h1, h2, h3, h4⟩ := h
  refine ⟨h1, q_other h2 g (fun k e => ?_), h3, h4⟩
  rcases hr with rfl | rfl
  · simp
  · exact fun e' => h4 k e e'.symm

theorem Inv.grow {w0 : World} {mb : Nat} {L : List (Int × Value)} {s : St} {qv : Value} {wr w' : World} (h : Inv w0 mb L s qv wr) (g : wr.grownBy w' none) : Inv w0 mb L s qv w' := by
  obtain ⟨h1, h2, h3, h4, h5, h6⟩ := h
  refine ⟨grow_below h1 g h1.size, h2, ?_, h4.imp fun _ _ h => h.grow g (.inl rfl), q_move h5 (fun k hk => g.block k (q_lt h5 k hk) (by simp)), h6⟩
  rw [g.block mb (lt_of_heap h3) (by simp)]
  exact h3

theorem Inv.push {w0 : World} {mb : Nat} {L : List (Int × Value)} {F : List (Int × List Int)} {q : List Int} {qv qv' : Value} {wr w' : World} (x : Int) (h : Inv w0 mb L (F, q) qv wr)
    (hq : QRow w' w0.heap.size 3 1 qv' (q.length + 1) (ints q ++ ints [x])) (g : wr.grownBy w' qv.ownBlock) (hat : qv'.ownBlock = qv.ownBlock ∨ ∃ b, qv'.ownBlock = some b ∧ wr.heap.size ≤ b) : Inv w0 mb L (F, q ++ [x]) qv' w' := by
  obtain ⟨h1, h2, h3, h4, h5, h6⟩ := h
  have hlt := lt_of_heap h3
  refine ⟨h1.grown g h1.size (fun k hk => (q_typed h5 k hk).1), h2, by rw [g.block mb hlt (fun e => h6 e.symm)]; exact h3, h4.imp fun kv kl h => ?_, ?_, ?_⟩
  · obtain ⟨a1, a2, a3, a4⟩ := h.grow g (.inr rfl)
    refine ⟨a1, a2, a3, fun k hk => ?_⟩
    rcases hat with hat | ⟨b, hb, hsz⟩
    · rw [hat]; exact a4 k hk
    · rw [hb]
      have : k < wr.heap.size := q_lt h.2.1 k hk
      intro e
      injection e with e
      omega
  · have e1 : (q ++ [x]).length = q.length + 1 := by simp
    have e2 : ints (q ++ [x]) = ints q ++ ints [x] := by simp [ints]
    show QRow w' _ 3 1 qv' (q ++ [x]).length (ints (q ++ [x]))
    rw [e1, e2]
    exact hq
  · rcases hat with hat | ⟨b, hb, hsz⟩
    · rw [hat]; exact h6
    · rw [hb]; intro e; injection e with e; omega

theorem putMap_grow (w : World) (mb : Nat) (L : List (Int × Value)) : w.grownBy (putMap w mb L) (some mb) :=
  ⟨rfl, rfl, rfl, by simp [putMap], fun k hk hne => by simp [putMap, Array.getElem?_setIfInBounds]; intro e; exact absurd (by rw [e]) hne⟩

theorem Inv.add {w0 : World} {mb : Nat} {L : List (Int × Value)} {F : List (Int × List Int)} {q : List Int} {qv : Value} {wr : World} (h : Inv w0 mb L (F, q) qv wr)
    (k : Int) (l : List Int) (v : Value) (hv : QRow wr w0.heap.size 3 1 v l.length (ints l)) (hn : ∃ a n c, v = .slice (some a) n c) (hne : ∀ g, v.ownBlock = some g → qv.ownBlock ≠ some g) :
    Inv w0 mb (L ++ [(k, v)]) (F ++ [(k, l)], q) qv (putMap wr mb (L ++ [(k, v)])) := by
  obtain ⟨h1, h2, h3, h4, h5, h6⟩ := h
  have g := putMap_grow wr mb (L ++ [(k, v)])
  have hlt := lt_of_heap h3
  have hrow : ∀ {u n xs}, QRow wr w0.heap.size 3 1 u n xs → QRow (putMap wr mb (L ++ [(k, v)])) w0.heap.size 3 1 u n xs := fun {u n xs} hu => q_other hu g (by
    intro j e e'
    injection e' with e'
    subst e'
    obtain ⟨_, cells, hc⟩ := q_typed hu j e
    rw [h3] at hc
    cases hc)
  refine ⟨h1.grown g h1.size (fun j hj => by cases hj; exact h2), h2, ?_, All2.snoc ⟨rfl, hrow hv, hn, hne⟩ (h4.imp fun kv kl h => ⟨h.1, hrow h.2.1, h.2.2⟩), hrow h5, h6⟩
  simp [putMap, hlt]

def popV (A : Option Addr) (n c : Nat) : Value := .slice (if c = 1 then A else A.map (fun x : Addr => x.add 1)) (n - 1) (c - 1)
theorem Inv.pop {w0 : World} {mb : Nat} {L : List (Int × Value)} {F : List (Int × List Int)} {p : Int} {q : List Int} {A : Option Addr} {n c : Nat} {wr : World} (h : Inv w0 mb L (F, p :: q) (.slice A n c) wr) :
    n = q.length + 1 ∧ (∃ b off, A = some ⟨b, off, none⟩ ∧ b < wr.heap.size ∧ wr.cell? ⟨b, off, none⟩ = some (.int .i64 p)) ∧ Inv w0 mb L (F, q) (popV A n c) wr := by
  obtain ⟨h1, h2, h3, h4, h5, h6⟩ := h
  have hn : n = q.length + 1 := by
    obtain ⟨A', c', e, _⟩ := q_slice h5
    have := congrArg (fun v => match v with | .slice _ n _ => n | _ => 0) e
    simpa using this
  have h5' : QRow wr w0.heap.size 3 1 (.slice A n c) n (ints (p :: q)) := by
    have e : (F, p :: q).2.length = n := by simp [hn]
    rw [e] at h5
    exact h5
  have hb : (popV A n c).ownBlock = (Value.slice A n c).ownBlock := by
    unfold popV
    cases A with
    | none => simp [Value.ownBlock]
    | some a => by_cases hc : c = 1 <;> simp [hc, Value.ownBlock]; unfold Addr.add; split <;> rfl
  refine ⟨hn, ?_, h1, h2, h3, h4.imp fun kv kl h => ⟨h.1, h.2.1, h.2.2.1, fun g hg => by rw [hb]; exact h.2.2.2 g hg⟩, ?_, by rw [hb]; exact h6⟩
  · obtain ⟨ad, e, hc⟩ := q_cells h5' (by omega)
    have h0 := hc 0 _ rfl
    subst e
    obtain ⟨b, off, spot⟩ := ad
    have e0 : (⟨b, off, spot⟩ : Addr).add 0 = ⟨b, off, spot⟩ := by simp [Addr.add]
    rw [e0] at h0
    cases spot with
    | some s => simp [World.cell?] at h0; split at h0 <;> simp at h0
    | none => exact ⟨b, off, rfl, block_lt_of_cell h0, h0⟩
  · have hd := q_drop h5' (k := 1) (by omega)
    have e1 : (ints (p :: q)).drop (1 * 1) = ints q := rfl
    rw [e1, Nat.one_mul] at hd
    have e2 : n - 1 = q.length := by omega
    unfold popV
    rw [e2] at hd ⊢
    exact hd

theorem info3 : (Try.prog.info? 3).map (fun i => (i.zero, i.size, i.bytes)) = some (some (.int .i64 0), 1, 8) := by kernel_rfl
theorem wpList_of_val {P : Program} {ops : Array Oper} {Q : Exit → Act → World → Prop} {a : Act} {w w' : World} {v : Value} {rest : List Oper} {o : Oper} {s : Sem Value} (hg : o.guard = none)
    (he : execOp a.eval o = (do let v ← s; pure (.value v))) (hrun : s.run P w = .ok v w') (h : wpList P ops Q rest (a.put o.dst v) w') : wpList P ops Q (o :: rest) a w :=
  wpList_valRun hg (by rw [he, Sem.run_bind, hrun]; rfl) h
theorem wpList_of_unit {P : Program} {ops : Array Oper} {Q : Exit → Act → World → Prop} {a : Act} {w w' : World} {rest : List Oper} {o : Oper} {s : Sem Unit} (hg : o.guard = none)
    (he : execOp a.eval o = (do s; pure .skip)) (hrun : s.run P w = .ok () w') (h : wpList P ops Q rest (a.put o.dst undef) w') : wpList P ops Q (o :: rest) a w :=
  wpList_skipRun hg (by rw [he, Sem.run_bind, hrun]; rfl) h

def w0 (w : World) (f : Int) : World := (putMap ((w.alloc (.map #[] 0)).alloc (.cells #[] 3)) w.heap.size [(f, .slice (some ⟨w.heap.size + 1, 0, none⟩) 0 0)]).alloc (.cells #[.int .i64 f] 3)
theorem putMap_size (w : World) (b : Nat) (L : List (Int × Value)) : (putMap w b L).heap.size = w.heap.size := by simp [putMap]
theorem inv_start (w : World) (f : Int) : Inv w w.heap.size [(f, .slice (some ⟨w.heap.size + 1, 0, none⟩) 0 0)] (stAt f 0) (.slice (some ⟨w.heap.size + 2, 0, none⟩) 1 1) (w0 w f) := by
  have hb : Below w.heap.size w (putMap ((w.alloc (.map #[] 0)).alloc (.cells #[] 3)) w.heap.size [(f, .slice (some ⟨w.heap.size + 1, 0, none⟩) 0 0)]) :=
    (((Below.refl _ w).alloc (Nat.le_refl _) _).alloc (by simp) _).grown (putMap_grow _ _ _) (by simp; omega) (fun k hk => by cases hk; exact Nat.le_refl _)
  refine ⟨hb.alloc (by rw [putMap_size]; simp; omega) _, Nat.le_refl _, ?_, ⟨⟨rfl, ⟨rfl, .inr ⟨w.heap.size + 1, 0, 0, #[], rfl, by omega, ?_, Nat.le_refl _, by decide, rfl, rfl⟩⟩, ⟨_, _, _, rfl⟩, fun g hg => ?_⟩, trivial⟩, ⟨rfl, .inr ⟨w.heap.size + 2, 0, 1, #[.int .i64 f], by simp [stAt], by omega, ?_, Nat.le_refl _, by decide, rfl, rfl⟩⟩, ?_⟩
  · unfold w0
    rw [Go.heap_alloc_old _ _ (by rw [putMap_size]; simp; omega)]
    have : w.heap.size < ((w.alloc (.map #[] 0)).alloc (.cells #[] 3)).heap.size := by simp; omega
    simp only [putMap, Array.getElem?_setIfInBounds_self, this, if_true]
  · unfold w0
    rw [Go.heap_alloc_old _ _ (by rw [putMap_size]; simp)]
    rw [(putMap_grow _ _ _).block _ (by simp) (by simp)]
    have := heap_alloc_new (w.alloc (.map #[] 0)) (.cells #[] 3)
    simpa using this
  · simp [Value.ownBlock] at hg ⊢
    omega
  · have := heap_alloc_new (putMap ((w.alloc (.map #[] 0)).alloc (.cells #[] 3)) w.heap.size [(f, .slice (some ⟨w.heap.size + 1, 0, none⟩) 0 0)]) (.cells #[.int .i64 f] 3)
    rw [putMap_size] at this
    unfold w0
    simpa using this
  · simp [Value.ownBlock]

theorem clone_q (B : Nat) (a : Addr) (n c : Nat) (l : List Int) (w : World) (h : QRow w B 3 1 (.slice (some a) n c) l.length (ints l)) (hn : n = l.length) (hb : n ≤ 1000) :
    Calls Try.prog 26 #[.slice (some a) n c] w fun e w' => ∃ v', e = .returned v' ∧ QRow w' w.heap.size 3 1 v' l.length (ints l) ∧ w.grownBy w' none := by
  have hbg : ∀ {w' : World}, Below w.heap.size w w' → w.grownBy w' none := fun h => ⟨h.os, h.tape, h.output, h.size, fun k hk _ => h.block k hk⟩
  subst hn
  by_cases h0 : l.length = 0
  · have : l = [] := List.eq_nil_of_length_eq_zero h0
    subst this
    exact (Try.slices_Clone_int_zero a c w).mono fun e w' ⟨v', he, ho, _, hb'⟩ => ⟨v', he, q_of_own ho, hbg hb'⟩
  · obtain ⟨ad, e, hc⟩ := q_cells h (by omega)
    injection e with e
    subst e
    have hc' : ∀ j, j < l.length → w.cell? (a.add j) = some (.int .i64 (l.getD j 0)) := fun j hj => hc j _ (by simp [ints, List.getD, hj])
    have h00 := hc' 0 (by omega)
    obtain ⟨b, off, spot⟩ := a
    cases spot with
    | some s => simp [World.cell?, Addr.add] at h00; split at h00 <;> simp at h00
    | none =>
      refine (Try.slices_Clone_int b off l.length c l w (Nat.le_refl _) (by omega) fun j hj => by rw [← hc' j hj, add_at]).mono fun e w' ⟨v', he, ho, _, hb'⟩ => ⟨v', he, ?_, hbg hb'⟩
      rw [List.take_length] at ho
      exact q_of_own ho

attribute [local go_sem] putMap_size
set_option maxHeartbeats 400000 in
set_option maxRecDepth 100000 in
theorem ways_in (f : Int) (w : World) (h0 : 0 ≤ f) (h1 : f < 5) :
    Calls Try.prog 23 #[.int .i64 f] w fun e w' => ∃ mb L qv, e = .returned (.map (some mb)) ∧ Inv w mb L (stAt f 5) qv w' := by
  have hmm := @run_makeMap Try.prog
  go_enter Try.func23, Try.ntmps23
  go_wp2_with (refine wpList_of_unit (o := ⟨none, .insert 45 (.tmp 11) (.tmp 12) (.tmp 13), _, _, _, _⟩) (s := Instr.mapUpdate 45 (.map (some w.heap.size)) (.int .i64 f) (.slice (some ⟨w.heap.size + 1, 0, none⟩) 0 0)) rfl (by rfl) (run_update_new _ 45 3 22 Try.underlying45 Try.underlying3 w.heap.size [] ?ha _ _ rfl) ?_)
  case ha => exact Below.heap_alloc _ _ _ (by simp) |>.trans (heap_alloc_new _ _)
  go_loopg [4] 5 (fun k qv wr => ∃ L, Inv w w.heap.size L (stAt f (5 - k)) qv wr ∧ k ≤ 5)
  case atStart => exact ⟨_, inv_start w f, Nat.le_refl _⟩
  case round =>
    obtain ⟨L, hI, hk⟩ := hrel
    cases gk with
    | zero =>
      obtain ⟨A, c, rfl, hc⟩ := q_slice hI.row
      have e0 : (stAt f (5 - 0)).2.length = 0 := by rw [show 5 - 0 = 5 from rfl, at_end f h0 h1]; rfl
      rw [e0]
      have HI := Lib.hid hI
      clear hI e0 hmm
      go_wp2_with fail
      go_ret
      exact ⟨w.heap.size, L, _, rfl, HI.out⟩
    | succ k =>
      obtain ⟨p, r, hq, hok⟩ := ok_at f h0 h1 (5 - (k + 1)) (by omega)
      have hnext : stAt f (5 - k) = inn p 6 ((stAt f (5 - (k + 1))).1, r) := by rw [← stAt_succ f _ p r hq]; congr 1; omega
      have HN := Lib.hid hnext
      clear hnext
      generalize stAt f (5 - (k + 1)) = s at *
      obtain ⟨F, q⟩ := s
      simp only at hq
      subst hq
      simp only at HN
      obtain ⟨A, c, rfl, hc⟩ := q_slice hI.row
      obtain ⟨hn, ⟨b, off, rfl, hbs, hcell⟩, hI2⟩ := hI.pop
      obtain ⟨n, hn'⟩ : ∃ n, n = (p :: r).length := ⟨_, rfl⟩
      simp only [← hn'] at *
      have hcut : ∀ W : World, (Instr.slice 22 (.slice (some ⟨b, off, none⟩) n c) (some (.int .i64 1)) none none).run Try.prog W = .ok (popV (some ⟨b, off, none⟩) n c) W :=
        cut_from (P := Try.prog) 22 3 .i64 Try.underlying22 (i := _) rfl 1 (by kernel_rfl) (some ⟨b, off, none⟩) n c 1 (by omega) (by omega)
      generalize popV (some ⟨b, off, none⟩) n c = qv at *
      have hn1 : 1 ≤ n := by omega
      have hd : decide (0 < n) = true := decide_eq_true hn1
      clear hn hn' hI hbs
      go_wp2_with fail
      go_loopw [4, 6] (fun qv d wr2 => ∃ (m : Nat) (L : List (Int × Value)), m ≤ 6 ∧ d = .int .i64 ((m : Int) + 1) ∧ Inv w w.heap.size L (inn p m (F, r)) qv wr2) (fun _ d _ => 7 - (intOf d).toNat)
      case atStart => exact ⟨0, L, by omega, rfl, hI2⟩
      case round =>
        clear hcell hcut L hI2
        obtain ⟨m, L, hm, rfl, hI⟩ := hrel
        by_cases hm6 : m < 6
        · have hok' := hok m hm
          have hst : inn p (m + 1) (F, r) = stepS p ((m : Int) + 1) (inn p m (F, r)) := rfl
          have HS := Lib.hid hst
          clear hst hok
          generalize inn p m (F, r) = s at *
          obtain ⟨F', q⟩ := s
          go_wp2_with fail
          refine (next_any _ _ _).mono ?_
          rintro e w1 ⟨rfl, hg1⟩
          have hI1 := hI.grow hg1
          clear hI
          have hfind := All2.find (fun _ _ h => h.1) (nxv p ((m : Int) + 1)) hI1.rows
          have hl1 := run_lookup_mk w1 45 3 22 Try.underlying45 Try.underlying3 (.slice none 0 0) Try.zeroValue22 w.heap.size L hI1.ents (nxv p ((m : Int) + 1)) true
          have hms : (mget L (nxv p ((m : Int) + 1))).isSome = hasL F' (nxv p ((m : Int) + 1)) := by
            rcases hfind with ⟨e1, e2⟩ | ⟨a, b, e1, e2, _⟩
            · simp [mget, hasL, e1, e2]
            · simp [mget, hasL, e1, e2]
          rw [hms] at hl1
          by_cases hc : (nxo p ((m : Int) + 1) && !hasL F' (nxv p ((m : Int) + 1))) = true
          · have hst : stepS p ((m : Int) + 1) (F', q) = (F' ++ [(nxv p ((m : Int) + 1), getL F' p ++ [(m : Int) + 1])], q ++ [nxv p ((m : Int) + 1)]) := by unfold stepS; exact if_pos hc
            have HST := Lib.hid hst
            clear hst
            have hx : nxo p ((m : Int) + 1) = true := by simp at hc; exact hc.1
            have hy : hasL F' (nxv p ((m : Int) + 1)) = false := by simp at hc; exact hc.2
            have hnone : mget L (nxv p ((m : Int) + 1)) = none := by rw [hy] at hms; simpa using hms
            have hl2 := run_lookup_mk w1 45 3 22 Try.underlying45 Try.underlying3 (.slice none 0 0) Try.zeroValue22 w.heap.size L hI1.ents p false
            unfold okS at hok'
            simp only [Bool.and_eq_true, decide_eq_true_eq, List.all_eq_true] at hok'
            obtain ⟨⟨⟨⟨ok1, ok2⟩, ok3⟩, ok4⟩, ok5⟩ := hok'
            obtain ⟨kv, kl, e1, e2, hER⟩ : ∃ a b, L.find? (·.1 == p) = some a ∧ F'.find? (·.1 == p) = some b ∧ ER w1 w.heap.size u4 a b := by
              rcases All2.find (fun _ _ h => h.1) p hI1.rows with ⟨_, e2⟩ | h
              · simp [hasL, e2] at ok4
              · exact h
            have hgl : getL F' p = kl.2 := by simp [getL, e2]
            have hmg : (mget L p).getD (.slice none 0 0) = kv.2 := by simp [mget, e1]
            have hkl : kl.2.length ≤ 5 := ok3 _ (List.mem_of_find?_eq_some e2)
            rw [hmg] at hl2
            rw [hgl] at HST
            obtain ⟨-, hq, ⟨a, n', c', hkv⟩, hap⟩ := hER
            have hn' : n' = kl.2.length := by
              obtain ⟨A', c'', e', _⟩ := q_slice hq
              rw [hkv] at e'
              injection e'
            rw [hkv] at hl2 hq
            subst hn'
            clear hc hfind hms e1 e2 hgl hmg ok3 ok4
            generalize kl.2 = l at *
            go_wp2_with (first | (refine wpList_of_val (o := ⟨some 38, .lookup 45 (.tmp 36) (.tmp 37) true, _, _, _, _⟩) (s := Instr.lookup 45 (.map (some w.heap.size)) (.int .i64 (nxv p ((m : Int) + 1))) true) rfl (by rfl) hl1 ?_) | (refine wpList_of_val (o := ⟨some 50, .lookup 45 (.tmp 48) (.tmp 49) false, _, _, _, _⟩) (s := Instr.lookup 45 (.map (some w.heap.size)) (.int .i64 p) false) rfl (by rfl) hl2 ?_))
            refine (clone_q _ _ _ _ _ _ hq rfl (by omega)).mono ?_
            rintro e w2 ⟨v2, rfl, hq2, hg2⟩
            have hlt1 := lt_of_heap hI1.ents
            have hsz1 := hI1.below.size
            clear hl1 hl2 hq
            -- the append to the clone
            obtain ⟨i3, hi3, hz3, hs3, hb3⟩ := info_parts info3
            have hq3 : QRow (w2.alloc (.cells #[.int .i64 ((m : Int) + 1)] 3)) w1.heap.size 3 1 v2 l.length (ints l) := q_other hq2 (World.grownBy_alloc w2 _ none) (by simp)
            obtain ⟨v4, w4, hr4, hq4, hg4, hat4⟩ := q_append (P := Try.prog) (w2.alloc (.cells #[.int .i64 ((m : Int) + 1)] 3)) w1.heap.size 22 22 3 i3 (.int .i64 0) 1 8 Try.underlying22 hi3 hz3 hs3 hb3 rfl (by decide) v2 l.length (ints l) hq3
              ⟨w2.heap.size, 0, none⟩ 1 1 (ints [(m : Int) + 1]) rfl (by
                intro j u hj
                have hnew := heap_alloc_new w2 (.cells #[.int .i64 ((m : Int) + 1)] 3)
                rw [add_at, cell_of_row _ _ _ _ _ _ hnew]
                simpa [ints] using hj) (by simp [ints, Value.oneCell']) (by decide) (by unfold maxLen; omega) (by omega) (by have := hg2.size; simp; omega)
            have hbs2 : ∀ k, v2.ownBlock = some k → w1.heap.size ≤ k := fun k hk => (q_typed hq2 k hk).1
            have hbs4 : ∀ k, v4.ownBlock = some k → w1.heap.size ≤ k := fun k hk => (q_typed hq4 k hk).1
            have hI4 := hI1.grow (grow_then (grow_then hg2 (World.grownBy_alloc w2 (.cells #[.int .i64 ((m : Int) + 1)] 3) none) (by simp)) hg4 hbs2)
            have hl4 : (l ++ [(m : Int) + 1]).length = l.length + 1 := by simp
            have hi4 : ints (l ++ [(m : Int) + 1]) = ints l ++ ints [(m : Int) + 1] := by simp [ints]
            have hI5 := hI4.add (nxv p ((m : Int) + 1)) (l ++ [(m : Int) + 1]) v4 (by rw [hl4, hi4]; exact q_lower hq4 hsz1) (q_some hq4 (by omega)) (fun g hg e => by
              have h1 := hbs4 g hg
              have h2 := q_lt hI1.row g e
              omega)
            have hr5 := run_update_new w4 45 3 22 Try.underlying45 Try.underlying3 w.heap.size L hI4.ents (nxv p ((m : Int) + 1)) v4 hnone
            generalize putMap w4 w.heap.size (L ++ [(nxv p ((m : Int) + 1), v4)]) = w5 at *
            have hI6 := hI5.grow (World.grownBy_alloc w5 (.cells #[.int .i64 (nxv p ((m : Int) + 1))] 3) none)
            obtain ⟨v7, w7, hr7, hq7, hg7, hat7⟩ := q_append (P := Try.prog) (w5.alloc (.cells #[.int .i64 (nxv p ((m : Int) + 1))] 3)) w.heap.size 22 22 3 i3 (.int .i64 0) 1 8 Try.underlying22 hi3 hz3 hs3 hb3 rfl (by decide) u4 q.length (ints q) hI6.row
              ⟨w5.heap.size, 0, none⟩ 1 1 (ints [nxv p ((m : Int) + 1)]) rfl (by
                intro j u hj
                have hnew := heap_alloc_new w5 (.cells #[.int .i64 (nxv p ((m : Int) + 1))] 3)
                rw [add_at, cell_of_row _ _ _ _ _ _ hnew]
                simpa [ints] using hj) (by simp [ints, Value.oneCell']) (by decide) (by unfold maxLen; omega) (by omega) (by have := hI5.below.size; simp; omega)
            have hI7 := hI6.push (nxv p ((m : Int) + 1)) hq7 hg7 hat7
            clear hI6 hI5 hI4 hI1 hq7 hg7 hat7 hq4 hg4 hat4 hq3 hq2 hg2 hz3 hs3 hb3 hi3 hnone hl4 hi4
            go_wp2_with (first | (refine wpList_append_run (d := some 54) v2 (.slice (some ⟨w2.heap.size, 0, none⟩) 1 1) (by rfl) (by rfl) hr4 ?_) | (refine wpList_of_unit (o := ⟨none, .mapUpdate 45 (.tmp 46) (.tmp 47) (.tmp 54), _, _, _, _⟩) (s := Instr.mapUpdate 45 (.map (some w.heap.size)) (.int .i64 (nxv p ((m : Int) + 1))) v4) rfl (by rfl) hr5 ?_) | (refine wpList_append_run (d := some 58) u4 (.slice (some ⟨w5.heap.size, 0, none⟩) 1 1) (by rfl) (by rfl) hr7 ?_))
            go_roundw
            case rel => exact ⟨m + 1, _, by omega, by go_num, by rw [HS.out, HST.out]; exact hI7⟩
            case measure => simp [intOf]; omega
          · have hst : stepS p ((m : Int) + 1) (F', q) = (F', q) := by unfold stepS; exact if_neg hc
            have HST := Lib.hid hst
            clear hst
            by_cases hx : nxo p ((m : Int) + 1) = true
            · have hy : hasL F' (nxv p ((m : Int) + 1)) = true := by simpa [hx] using hc
              clear hc hfind hms
              go_wp2_with (refine wpList_of_val (o := ⟨some 38, .lookup 45 (.tmp 36) (.tmp 37) true, _, _, _, _⟩) (s := Instr.lookup 45 (.map (some w.heap.size)) (.int .i64 (nxv p ((m : Int) + 1))) true) rfl (by rfl) hl1 ?_)
              go_roundw
              case rel => exact ⟨m + 1, L, by omega, by go_num, by rw [HS.out, HST.out]; exact hI1⟩
              case measure => simp [intOf]; omega
            · have hx' : nxo p ((m : Int) + 1) = false := by simpa using hx
              clear hc hfind hms hx
              go_wp2_with (refine wpList_of_val (o := ⟨some 38, .lookup 45 (.tmp 36) (.tmp 37) true, _, _, _, _⟩) (s := Instr.lookup 45 (.map (some w.heap.size)) (.int .i64 (nxv p ((m : Int) + 1))) true) rfl (by rfl) hl1 ?_)
              go_roundw
              case rel => exact ⟨m + 1, L, by omega, by go_num, by rw [HS.out, HST.out]; exact hI1⟩
              case measure => simp [intOf]; omega
        · have : m = 6 := by omega
          subst this
          go_wp2_with fail
          go_roundg k
          case measure => omega
          case rel => exact ⟨L, by rw [HN.out]; exact hI, by omega⟩
end Go.Proofs.Ytfdaepicbgiamaa
