/- Contracts of life.Way and life.Reach. -/
import Derived.Test.YtfdaepicbgiamaaN
import Derived.Test.YtfdaepicbgiamaaY
import Derived.Sort.OwnSortedInts
import Derived.Maps.RangeWalk
namespace Go.Proofs.Ytfdaepicbgiamaa
open Go.RowKit Go.ChangeMaps Go.Proofs.YtfdaepicbgiamaaW.PrintWords

theorem ci_of_q {w : World} {B n : Nat} {A : Option Addr} {c : Nat} {l : List Int} (h : QRow w B 3 1 (.slice A n c) n (ints l)) : CI w A l := by
  intro j hj
  have hl : n = l.length := by have := h.1; rw [ints_length] at this; omega
  obtain ⟨ad, e, hc⟩ := q_cells h (by omega)
  have h0 := hc j (.int .i64 (l.getD j 0)) (by simp [ints, List.getD, hj])
  obtain ⟨b, off, spot⟩ := ad
  cases spot with
  | some s =>
    have h00 := hc 0 (.int .i64 (l.getD 0 0)) (by simp [ints, List.getD, show 0 < l.length by omega])
    simp [World.cell?, Addr.add] at h00; split at h00 <;> simp at h00
  | none =>
    rw [add_at] at h0
    exact ⟨b, off, e, block_lt_of_cell h0, h0⟩

set_option maxHeartbeats 400000 in
theorem way_in (f t : Int) (w : World) (h0 : 0 ≤ f) (h1 : f < 5) (h2 : 0 ≤ t) (h3 : t < 5) :
    Calls Try.prog 13 #[.int .i64 f, .int .i64 t] w fun e w' => ∃ A c, e = .returned (.tuple #[.slice A (getL (waysL f) t).length c, .bool true]) ∧ CI w' A (getL (waysL f) t) ∧ w.grownBy w' none := by
  have hall : hasL (waysL f) t = true := by
    obtain rfl | rfl | rfl | rfl | rfl : f = 0 ∨ f = 1 ∨ f = 2 ∨ f = 3 ∨ f = 4 := by omega
    all_goals
      obtain rfl | rfl | rfl | rfl | rfl : t = 0 ∨ t = 1 ∨ t = 2 ∨ t = 3 ∨ t = 4 := by omega
      all_goals decide +kernel
  go_enter Try.func13, Try.ntmps13
  go_wp2_with (go_at_call 21; refine (is_yes _ _ (by omega) (by omega)).mono ?_; rintro e w' ⟨rfl, rfl⟩)
  refine (ways_in _ _ h0 h1).mono ?_
  rintro e w1 ⟨mb, L, qv, rfl, hI⟩
  obtain ⟨kv, kl, e1, e2, hER⟩ : ∃ a b, L.find? (·.1 == t) = some a ∧ (waysL f).find? (·.1 == t) = some b ∧ ER w1 w.heap.size qv a b := by
    rcases All2.find (fun _ _ h => h.1) t hI.rows with ⟨_, e2⟩ | h
    · have e2' : (waysL f).find? (·.1 == t) = none := e2
      simp [hasL, e2'] at hall
    · exact h
  have hgl : getL (waysL f) t = kl.2 := by simp [getL, e2]
  have hmg : mget L t = some kv.2 := by simp [mget, e1]
  have hl := run_lookup_mk w1 45 3 22 Try.underlying45 Try.underlying3 (.slice none 0 0) Try.zeroValue22 mb L hI.ents t true
  rw [hmg] at hl
  obtain ⟨-, hq, ⟨a, n', c', hkv⟩, hap⟩ := hER
  have hn' : n' = kl.2.length := by
    obtain ⟨A', c'', e', _⟩ := q_slice hq
    rw [hkv] at e'
    injection e'
  rw [hkv] at hl hq
  subst hn'
  have hb := hI.below
  have HF := Lib.hid (And.intro hq (And.intro hgl hb))
  clear hI hgl hmg e1 e2 hq hkv hap hall hb
  go_wp2_with (refine wpList_of_val (o := ⟨some 20, .lookup 45 (.tmp 18) (.tmp 19) true, _, _, _, _⟩) (s := Instr.lookup 45 (.map (some mb)) (.int .i64 t) true) rfl (by rfl) hl ?_)
  go_ret2
  obtain ⟨hq, hgl, hb⟩ := HF.out
  rw [hgl]
  exact ⟨_, _, rfl, ci_of_q hq, ⟨hb.os, hb.tape, hb.output, hb.size, fun k hk _ => hb.block k hk⟩⟩

theorem way_out (f t : Int) (w : World) (h : f < 0 ∨ 5 ≤ f ∨ t < 0 ∨ 5 ≤ t) :
    Calls Try.prog 13 #[.int .i64 f, .int .i64 t] w fun e w' => e = .returned (.tuple #[.slice none 0 0, .bool false]) ∧ w = w' := by
  by_cases hf : f < 0 ∨ 5 ≤ f
  · go_enter Try.func13, Try.ntmps13
    go_wp2_with (go_at_call 21; refine (is_no _ _ hf).mono ?_; rintro e w' ⟨rfl, rfl⟩)
    go_ret2
    exact ⟨rfl, rfl⟩
  · have h0 : 0 ≤ f := by omega
    have h1 : f < 5 := by omega
    have ht : t < 0 ∨ 5 ≤ t := by omega
    clear h hf
    go_enter Try.func13, Try.ntmps13
    go_wp2_with fail
    refine (is_yes _ _ h0 h1).mono ?_
    rintro e w' ⟨rfl, rfl⟩
    go_wp2_with fail
    refine (is_no _ _ ht).mono ?_
    rintro e w' ⟨rfl, rfl⟩
    go_wp2_with fail
    go_ret2
    exact ⟨rfl, rfl⟩

theorem sort_q (base g cap n : Nat) (zs : List Int) (w : World) (h : w.ownsRow base 3 1 (.slice (some ⟨g, 0, none⟩) n cap) n (ints zs)) (hn : n = zs.length) (hb : n ≤ 1000000) :
    Calls Try.prog 25 #[.slice (some ⟨g, 0, none⟩) n cap] w fun e w' => e = .returned (.tuple #[]) ∧ w'.ownsRow base 3 1 (.slice (some ⟨g, 0, none⟩) n cap) n (ints (zs.mergeSort fun x y => decide (x ≤ y))) ∧ w.grownBy w' (some g) := by
  subst hn
  rcases h.2 with ⟨e, _⟩ | ⟨g', cap', cur, e, hg, hh, hnc, hcm, hcs, ht⟩
  · cases e
  · cases e
    refine (Try.slices_Sort_int g 0 cap zs w (holds_of_blockI hh (by simpa [ints] using ht)) (lt_of_heap hh) (by omega)).mono ?_
    rintro e w' ⟨rfl, n, os, rfl⟩
    exact ⟨rfl, ownsRow_sortedI (by simp) hg hh hnc hcm hcs, grownBy_sortedI _⟩

theorem sorted_eq (zs : List Int) (ks ms : List Int) (h : zs.Perm ks) (hm : ms.Perm ks) (hs : ms.Pairwise (fun a b => decide (a ≤ b) = true)) : (zs.mergeSort fun x y => decide (x ≤ y)) = ms := by
  refine List.Perm.eq_of_pairwise (le := fun a b => decide (a ≤ b) = true) ?_ (List.pairwise_mergeSort ?_ ?_ zs) hs (((List.mergeSort_perm zs _).trans h).trans hm.symm)
  · intro a b _ _ h1 h2; simp at h1 h2; omega
  · intro a b c h1 h2; simp at h1 h2 ⊢; omega
  · intro a b; simp; omega
theorem keys_all (f : Int) (h0 : 0 ≤ f) (h1 : f < 5) : ((waysL f).map (·.1)).Perm [0, 1, 2, 3, 4] := by
  obtain rfl | rfl | rfl | rfl | rfl : f = 0 ∨ f = 1 ∨ f = 2 ∨ f = 3 ∨ f = 4 := by omega
  all_goals decide +kernel

theorem own_none {w w1 : World} {base n : Nat} {v : Value} {xs : List Value} (h : w.ownsRow base 3 1 v n xs) (g : w.grownBy w1 none) : w1.ownsRow base 3 1 v n xs :=
  own_other h g (by cases e : v.ownBlock with | none => exact .inl rfl | some k => exact .inr (by simp))
theorem own_not {w : World} {base n : Nat} {v : Value} {xs : List Value} (h : w.ownsRow base 3 1 v n xs) {k : Nat} {o : Obj} (hk : w.heap[k]? = some o) (hno : ∀ c, o ≠ .cells c 3 (0, 0)) : v.ownBlock ≠ some k := fun e => by
  obtain ⟨c, hc⟩ := own_typed h k e
  rw [hk] at hc
  injection hc with hc
  exact hno c hc
structure RInv (w0 : World) (mb r : Nat) (L : List (Int × Value)) (left : Nat) (v : Value) (wr : World) : Prop where
  below : Below w0.heap.size w0 wr
  mbge : w0.heap.size ≤ mb
  rge : w0.heap.size ≤ r
  ents : wr.heap[mb]? = some (mapObj L)
  rows : ∃ seen zs, wr.heap[r]? = some (.mapIter (some mb) L.length seen L.length) ∧ wr.ownsRow w0.heap.size 3 1 v zs.length (ints zs) ∧ (zs ++ (leftOf (entsOf L) seen).toList.map keyInt).Perm (L.map (·.1)) ∧ (leftOf (entsOf L) seen).size = left

set_option maxHeartbeats 400000 in
theorem reach_in (f : Int) (w : World) (h0 : 0 ≤ f) (h1 : f < 5) :
    Calls Try.prog 19 #[.int .i64 f] w fun e w' => ∃ v, e = .returned v ∧ w'.ownsRow w.heap.size 3 1 v 5 (ints [0, 1, 2, 3, 4]) ∧ w.grownBy w' none := by
  go_enter Try.func19, Try.ntmps19
  go_wp2_with (go_at_call 21; refine (is_yes _ _ (by omega) (by omega)).mono ?_; rintro e w' ⟨rfl, rfl⟩)
  refine (ways_in _ _ h0 h1).mono ?_
  rintro e w1 ⟨mb, L, qv, rfl, hI⟩
  have hkeys : (L.map (·.1)).Perm [0, 1, 2, 3, 4] := by
    have : ∀ {L : List (Int × Value)} {F : List (Int × List Int)}, All2 (ER w1 w.heap.size qv) L F → L.map (·.1) = F.map (·.1) := by
      intro L
      induction L with
      | nil => intro F h; cases F with
        | nil => rfl
        | cons _ _ => exact h.elim
      | cons a L ih => intro F h; cases F with
        | nil => exact h.elim
        | cons b F => rw [List.map_cons, List.map_cons, ih h.2, h.1.1]
    rw [this hI.rows]
    exact keys_all f h0 h1
  have hr := run_range_mk w1 45 3 22 Try.underlying45 mb L hI.ents
  have HK := Lib.hid hkeys
  clear hkeys
  go_wp2_with (refine wpList_of_val (o := ⟨some 10, .range 45 (.tmp 9), _, _, _, _⟩) (s := Instr.range 45 (.map (some mb))) rfl (by rfl) hr ?_)
  go_frame
  go_loopg [3] L.length (fun k v wr => RInv w mb w1.heap.size L k v wr)
  case atStart => 
    have hlt := lt_of_heap hI.ents
    refine ⟨hI.below.alloc hI.below.size _, hI.mbge, hI.below.size, ?_, #[], [], ?_, World.ownsRow_nil _ _ _ _, ?_, ?_⟩
    · rw [Go.heap_alloc_old _ _ hlt]; exact hI.ents
    · exact heap_alloc_new _ _
    · rw [left_all, ents_keys]; exact .refl _
    · have := congrArg List.length (left_all (entsOf L)); rw [Array.length_toList, Array.length_toList] at this; rw [this]; simp [entsOf]
  case round =>
    obtain ⟨hb, hmb, hrb, hents, seen, zs, hit, hown, hperm, hleft⟩ := hrel
    have hsc : ∀ x ∈ (entsOf L).toList, x.born < L.length := fun x hx => by
      obtain ⟨i, kv, hi, rfl⟩ := ents_mem hx
      exact (List.getElem?_eq_some_iff.1 hi).1
    rcases run_next_at (P := Try.prog) wr 0 w1.heap.size mb L.length L.length seen (entsOf L) L.length hit hents hsc (Nat.le_refl _) with ⟨hz, hrun⟩ | ⟨e, he, w2, hw2, hrun⟩
    · have hl0 : (leftOf (entsOf L) seen).toList = [] := List.eq_nil_of_length_eq_zero (by rw [Array.length_toList]; exact hz)
      rw [hl0] at hperm
      have hp5 : zs.Perm [0, 1, 2, 3, 4] := by simpa using hperm.trans HK.out
      have hlen : zs.length = 5 := hp5.length_eq
      have hsort := sorted_eq zs _ [0, 1, 2, 3, 4] hp5 (.refl _) (by decide)
      rw [hlen] at hown
      obtain ⟨g, cap, rfl⟩ : ∃ g cap, u3 = .slice (some ⟨g, 0, none⟩) 5 cap := by
        rcases hown.2 with ⟨_, h⟩ | ⟨g, cap, cur, e, _⟩
        · cases h
        · exact ⟨g, cap, e⟩
      have HS := Lib.hid hsort
      have HL := Lib.hid hlen.symm
      have HB := Lib.hid hb
      have hog := own_base hown g rfl
      clear hsort hlen hp5 hperm hl0 hz hleft hit hents hsc hb hr hI
      go_wp2_with (refine wpList_of_val (o := ⟨some 11, .next (.tmp 10) false, _, _, _, _⟩) (s := Instr.next (.pointer (some ⟨w1.heap.size, 0, none⟩)) false 0) rfl (by rfl) hrun ?_)
      refine (sort_q _ _ _ _ zs _ hown HL.out (by omega)).mono ?_
      rintro e w3 ⟨rfl, hown3, hg3⟩
      rw [HS.out] at hown3
      have hg03 : Below w.heap.size w w3 := HB.out.grown hg3 HB.out.size (fun k hk => by cases hk; exact hog)
      have HF := Lib.hid (And.intro hown3 hg03)
      clear hown hown3 hg3 hg03 hrun
      go_wp2_with fail
      go_ret
      obtain ⟨ho, hb⟩ := HF.out
      exact ⟨_, rfl, ho, hb.os, hb.tape, hb.output, hb.size, fun k hk _ => hb.block k hk⟩
    · have hn := ents_born (L := L)
      have hnd : ((entsOf L).toList.map (·.born)).Nodup := by rw [hn]; exact List.nodup_range
      have hpush := left_push he hnd
      have hes : e ∈ (entsOf L).toList := by rw [leftOf_list] at he; exact (List.mem_filter.1 he).1
      obtain ⟨i, kv, hi, rfl⟩ := ents_mem hes
      have hrlt := lt_of_heap hit
      have hsz2 : w2.heap.size = wr.heap.size := by rcases hw2 with rfl | rfl <;> rfl
      have hg2 : wr.grownBy w2 none := by
        rcases hw2 with rfl | rfl
        · exact .refl _ _
        · exact grow_drew _
      have hents2 : w2.heap[mb]? = some (mapObj L) := by rw [hg2.block mb (lt_of_heap hents) (by simp)]; exact hents
      have hne : mb ≠ w1.heap.size := fun e => by rw [e] at hents; rw [hit] at hents; cases hents
      have hg3 := setBlock_grow w2 w1.heap.size (.mapIter (some mb) L.length (seen.push i) L.length)
      have hit3 := setBlock_at (w := w2) (r := w1.heap.size) (by rw [hsz2]; exact hrlt) (.mapIter (some mb) L.length (seen.push i) L.length)
      have hents3 : (setBlock w2 w1.heap.size (.mapIter (some mb) L.length (seen.push i) L.length)).heap[mb]? = some (mapObj L) := by
        rw [hg3.block mb (lt_of_heap hents2) (fun e => hne (by injection e))]; exact hents2
      have hown2 := own_none hown hg2
      have hit2 : w2.heap[w1.heap.size]? = some (.mapIter (some mb) L.length seen L.length) := by rw [hg2.block _ hrlt (by simp)]; exact hit
      have hown3 := own_other hown2 hg3 (.inr (own_not hown2 hit2 (fun c e => by cases e)))
      have hb3 : Below w.heap.size w (setBlock w2 w1.heap.size (.mapIter (some mb) L.length (seen.push i) L.length)) := (grow_below hb hg2 hb.size).grown hg3 (Nat.le_trans hb.size hg2.size) (fun k hk => by cases hk; exact hrb)
      have hrun2 := run_entry_at (P := Try.prog) (setBlock w2 w1.heap.size (.mapIter (some mb) L.length (seen.push i) L.length)) w1.heap.size mb L.length seen (entsOf L) L.length ⟨.int .i64 kv.1, kv.2, i⟩ hit3 hents3 hes hnd
      generalize setBlock w2 w1.heap.size (.mapIter (some mb) L.length (seen.push i) L.length) = W3 at *
      simp only at hrun hrun2
      have hlen : zs.length < 5 := by
        have h1 := hperm.length_eq
        have h2 := hpush.length_eq
        have h3 := HK.out.length_eq
        simp at h1 h2 h3
        omega
      have hgA := World.grownBy_alloc W3 (.cells #[.int .i64 kv.1] 3) none
      have hown4 := own_none hown3 hgA
      obtain ⟨i3, hi3, hz3, hs3, hb3'⟩ := info_parts info3
      obtain ⟨v5, w5, hr5, hown5, hg5, _, hat5⟩ := run_append_own_at (P := Try.prog) (w := W3.alloc (.cells #[.int .i64 kv.1] 3)) w.heap.size 22 22 3 i3 (.int .i64 0) 1 8 Try.underlying22 hi3 hz3 hs3 hb3' rfl (by decide) u3 zs.length (ints zs) hown4
        ⟨W3.heap.size, 0, none⟩ 1 1 (ints [kv.1]) rfl (by
          intro j u hj
          have hnew := heap_alloc_new W3 (.cells #[.int .i64 kv.1] 3)
          rw [add_at, cell_of_row _ _ _ _ _ _ hnew]
          simpa [ints] using hj) (by simp [ints, Value.oneCell']) (by unfold maxLen; omega) (by omega) (by have := hb3.size; simp; omega)
      have hlt3 := lt_of_heap hents3
      have hlt3' := lt_of_heap hit3
      have hents5 : w5.heap[mb]? = some (mapObj L) := by
        have hA : (W3.alloc (.cells #[.int .i64 kv.1] 3)).heap[mb]? = some (mapObj L) := by rw [hgA.block mb hlt3 (by simp)]; exact hents3
        rw [hg5.block mb (lt_of_heap hA) (fun e => own_not hown4 hA (fun c e => by cases e) e.symm)]
        exact hA
      have hit5 : w5.heap[w1.heap.size]? = some (.mapIter (some mb) L.length (seen.push i) L.length) := by
        have hA : (W3.alloc (.cells #[.int .i64 kv.1] 3)).heap[w1.heap.size]? = some (.mapIter (some mb) L.length (seen.push i) L.length) := by rw [hgA.block _ hlt3' (by simp)]; exact hit3
        rw [hg5.block _ (lt_of_heap hA) (fun e => own_not hown4 hA (fun c e => by cases e) e.symm)]
        exact hA
      have hfin : RInv w mb w1.heap.size L (leftOf (entsOf L) (seen.push i)).size v5 w5 := by
        refine ⟨(hb3.alloc hb3.size _).grown hg5 (by have := hb3.size; simp; omega) (fun k hk => own_base hown4 k hk), hmb, hrb, hents5, seen.push i, zs ++ [kv.1], hit5, ?_, ?_, rfl⟩
        · have e1 : (zs ++ [kv.1]).length = zs.length + 1 := by simp
          have e2 : ints (zs ++ [kv.1]) = ints zs ++ ints [kv.1] := by simp [ints]
          rw [e1, e2]
          exact hown5
        · have h1 := (hpush.map keyInt)
          simp only [List.map_cons] at h1
          rw [List.append_assoc]
          exact ((List.Perm.append_left zs h1).symm).trans hperm
      have hdec : (leftOf (entsOf L) (seen.push i)).size < gk := by
        have h2 := hpush.length_eq
        simp at h2
        omega
      have HF := Lib.hid (And.intro hfin hdec)
      clear hfin hdec hents5 hit5 hlt3 hlt3' hat5 hg5 hown5 hb3' hs3 hz3 hi3 hown4 hgA hlen hb3 hown3 hit2 hown2 hit3 hents3 hg3 hne hents2 hg2 hsz2 hrlt hi hes hpush hnd hn hleft hperm hown hit hents hb hsc he hr hI
      go_wp2_with (first | (refine wpList_of_val (o := ⟨some 11, .next (.tmp 10) false, _, _, _, _⟩) (s := Instr.next (.pointer (some ⟨w1.heap.size, 0, none⟩)) false 0) rfl (by rfl) hrun ?_) | (refine wpList_of_val (o := ⟨some 13, .entry (.tmp 10), _, _, _, _⟩) (s := Instr.entry (.pointer (some ⟨w1.heap.size, 0, none⟩))) rfl (by rfl) hrun2 ?_) | (refine wpList_append_run (d := some 18) u3 (.slice (some ⟨W3.heap.size, 0, none⟩) 1 1) (by rfl) (by rfl) hr5 ?_))
      go_roundg (leftOf (entsOf L) (seen.push i)).size
      case measure => exact HF.out.2
      case rel => exact HF.out.1
end Go.Proofs.Ytfdaepicbgiamaa
