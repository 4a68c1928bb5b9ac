/- The law LifeParts, as a contract. -/
import Derived.Test.YtfdaepicbgiamaaC
import Derived.Deep.Upon
namespace Go.Proofs.Ytfdaepicbgiamaa
open Go.RowKit Go.Proofs.YtfdaepicbgiamaaW.PrintWords

theorem run_append_zero {P : Program} (w : World) (t ty e : TypeId) (i : TypeInfo) (ht : P.underlying t = some (.slice e)) (hi : P.info? e = some i) (base : Option Addr) (sLen sCap : Nat) (hle : sLen ≤ sCap) (A : Option Addr) (c : Nat) :
    (Builtin.append_ #[t, t] ty #[.slice base sLen sCap, .slice A 0 c]).run P w = .ok (.slice base sLen sCap) w := by
  cases A <;> cases base <;> simp [Builtin.append_, run_underlying ht, sizeOf, typeInfo, hi, Builtin.lenOf, hle, Builtin.firstCells, loadCells, loadCellsFrom, storeCells, Result.andThen]

/-- An append to a row of the call's own, of whatever reads as zs. -/
theorem append_ci (w : World) (base : Nat) (v : Value) (xs : List Int) (hown : w.ownsRow base 3 1 v xs.length (ints xs)) (A : Option Addr) (c : Nat) (zs : List Int) (hc : CI w A zs) (hl : xs.length + zs.length ≤ 100000) (hb : base ≤ w.heap.size) :
    ∃ v' w', (Builtin.append_ #[22, 22] 22 #[v, .slice A zs.length c]).run Try.prog w = .ok v' w' ∧ w'.ownsRow base 3 1 v' (xs ++ zs).length (ints (xs ++ zs)) ∧ w.grownBy w' v.ownBlock := by
  obtain ⟨i3, hi3, hz3, hs3, hb3⟩ := info_parts info3
  have hi' : ints (xs ++ zs) = ints xs ++ ints zs := by simp [ints]
  cases zs with
  | nil =>
    obtain ⟨A', n', c', rfl, hle⟩ : ∃ A' n' c', v = .slice A' n' c' ∧ n' ≤ c' := by
      rcases hown.2 with ⟨h, _⟩ | ⟨g, cap, cur, h, _, _, hn, _⟩
      · exact ⟨_, _, _, h, Nat.le_refl _⟩
      · exact ⟨_, _, _, h, hn⟩
    refine ⟨_, _, run_append_zero w 22 22 3 i3 Try.underlying22 hi3 A' n' c' hle A c, ?_, ⟨rfl, rfl, rfl, Nat.le_refl _, fun _ _ _ => rfl⟩⟩
    rw [List.append_nil]
    exact hown
  | cons z zs =>
    obtain ⟨b, off, rfl, hbs, h0⟩ := hc 0 (by simp)
    obtain ⟨v', w', h1, h2, h3, _⟩ := run_append_own_at (P := Try.prog) (w := w) base 22 22 3 i3 (.int .i64 0) 1 8 Try.underlying22 hi3 hz3 hs3 hb3 rfl (by decide) v xs.length (ints xs) hown
      ⟨b, off, none⟩ (z :: zs).length c (ints (z :: zs)) (by simp [ints]) (fun j u hj => by
        have hj' : j < (z :: zs).length := by have := (List.getElem?_eq_some_iff.1 hj).1; simpa [ints] using this
        obtain ⟨b', off', e, _, hcell⟩ := hc j hj'
        cases e
        rw [add_at, hcell]
        rw [← hj]
        simp only [ints, List.getElem?_map, List.getElem?_eq_getElem hj', List.getD, Option.map_some, Option.getD_some]) (fun u hu => by obtain ⟨x, _, rfl⟩ := List.mem_map.1 hu; rfl) (by unfold maxLen; omega) (by omega) hb
    refine ⟨v', w', h1, ?_, h3⟩
    rw [hi', List.length_append]
    exact h2

theorem runL_append : ∀ (l m : List Int) (p n : Int), runL p n (l ++ m) = runL (runL p n l).1 (runL p n l).2 m
  | [], _, _, _ => rfl
  | d :: l, m, p, n => by
    simp only [List.cons_append, runL]
    split
    · exact runL_append l m _ _
    · exact runL_append l m _ _
theorem runL_add : ∀ (m : List Int) (p n : Int), runL p n m = ((runL p 0 m).1, n + (runL p 0 m).2)
  | [], p, n => by simp [runL]
  | d :: m, p, n => by
    simp only [runL]
    split
    · rw [runL_add m _ (n + 1), runL_add m _ (0 + 1)]; simp; omega
    · exact runL_add m _ n
theorem parts_fin (p : Int) (l m : List Int) : (runL (runL p 0 l).1 0 m).1 = (runL p 0 (l ++ m)).1 ∧ (runL p 0 l).2 + (runL (runL p 0 l).1 0 m).2 = (runL p 0 (l ++ m)).2 := by
  rw [runL_append l m p 0, runL_add m _ (runL p 0 l).2]
  exact ⟨rfl, rfl⟩

set_option maxHeartbeats 1000000 in
theorem parts_any (p : Int) (A B : Option Addr) (c d : Nat) (xs ys : List Int) (w : World) (hx : xs.length ≤ 100) (hy : ys.length ≤ 100) (hA : CI w A xs) (hB : CI w B ys) :
    Calls Try.prog 4 #[.int .i64 p, .slice A xs.length c, .slice B ys.length d] w fun e w' => e = .returned (.bool true) ∧ w.grownBy w' none := by
  obtain ⟨m, hm⟩ : ∃ m, m = xs.length := ⟨_, rfl⟩
  obtain ⟨n, hn⟩ : ∃ n, n = ys.length := ⟨_, rfl⟩
  have h1 := fun q W (h : CI W A xs) => run_any q A c xs W (by omega) h
  have h2 := fun q W (h : CI W B ys) => run_any q B d ys W (by omega) h
  have h3 := fun W v (ho : W.ownsRow w.heap.size 3 1 v 0 (ints [])) (h : CI W A xs) (hb : w.heap.size ≤ W.heap.size) => append_ci W w.heap.size v [] ho A c xs h (by simp; omega) hb
  have h4 := fun W v (ho : W.ownsRow w.heap.size 3 1 v ([] ++ xs).length (ints ([] ++ xs))) (h : CI W B ys) (hb : w.heap.size ≤ W.heap.size) => append_ci W w.heap.size v ([] ++ xs) ho B d ys h (by simp; omega) hb
  have hm' : m ≤ 100 := by omega
  have hn' : n ≤ 100 := by omega
  rw [← hm] at h1 h3 ⊢
  rw [← hn] at h2 h4 ⊢
  have HM := Lib.hid hm
  have HN := Lib.hid hn
  have HA := Lib.hid hA
  have HB := Lib.hid hB
  have H1 := Lib.hid h1
  have H2 := Lib.hid h2
  have H3 := Lib.hid h3
  have H4 := Lib.hid h4
  have HF := Lib.hid (parts_fin p xs ys)
  have hb1 := runL_le xs p 0
  have hb2 := runL_le ys (runL p 0 xs).1 0
  have hb3 := runL_le (xs ++ ys) p 0
  rw [List.length_append] at hb3
  clear hm hn hA hB h1 h2 h3 h4
  go_enter Try.func4, Try.ntmps4
  go_wp2_with fail
  refine (H1.out _ _ HA.out).mono ?_
  rintro e w1 ⟨rfl, g1⟩
  go_wp2_with fail
  refine (H2.out _ _ (HB.out.grow g1)).mono ?_
  rintro e w2 ⟨rfl, g2⟩
  have g02 := grow_trans g1 g2
  obtain ⟨v3, w3, hr3, ho3, g3⟩ := H3.out w2 (.slice none 0 0) (World.ownsRow_nil _ _ _ _) (HA.out.grow g02) g02.size
  have g03 := grow_trans g02 g3
  obtain ⟨v4, w4, hr4, ho4, g4⟩ := H4.out w3 v3 ho3 (HB.out.grow g03) g03.size
  have g04 := grow_then g03 g4 (fun k hk => own_base ho3 k hk)
  have HO := Lib.hid ho4
  clear g1 g2 g02 g3 g03 g4 ho3 ho4
  go_wp2_with (first | (refine wpList_append_run (d := some 36) (.slice none 0 0) (.slice A m c) (by rfl) (by rfl) hr3 ?_) | (refine wpList_append_run (d := some 39) v3 (.slice B n d) (by rfl) (by rfl) hr4 ?_))
  obtain ⟨A4, c4, rfl⟩ : ∃ A4 c4, v4 = .slice A4 ([] ++ xs ++ ys).length c4 := by
    rcases HO.out.2 with ⟨h, h0⟩ | ⟨g, cap, cur, h, _⟩
    · exact ⟨none, 0, by rw [h, h0]⟩
    · exact ⟨_, _, h⟩
  have hc4 : CI w4 A4 (xs ++ ys) := ci_of_q (q_of_own HO.out)
  have e4 : ([] ++ xs ++ ys).length = (xs ++ ys).length := rfl
  rw [e4]
  have h5 := run_any p A4 c4 (xs ++ ys) w4 (by rw [List.length_append]; omega) hc4
  have H5 := Lib.hid h5
  clear h5 hc4 hr3 hr4 e4
  refine H5.out.mono ?_
  rintro e w5 ⟨rfl, g5⟩
  have hf1 := HF.out.1
  have hf2 := HF.out.2
  have hbe1 : ((runL (runL p 0 xs).1 0 ys).1 == (runL p 0 (xs ++ ys)).1) = true := beq_iff_eq.2 hf1
  have hbe2 : ((runL p 0 xs).2 + (runL (runL p 0 xs).1 0 ys).2 == (runL p 0 (xs ++ ys)).2) = true := beq_iff_eq.2 hf2
  clear hf1 hf2 H5 HF
  generalize (runL p 0 xs).1 = q1 at *
  generalize (runL p 0 xs).2 = q2 at *
  generalize (runL q1 0 ys).1 = q3 at *
  generalize (runL q1 0 ys).2 = q4 at *
  generalize (runL p 0 (xs ++ ys)).1 = q5 at *
  generalize (runL p 0 (xs ++ ys)).2 = q6 at *
  have hx' : (xs.length : Int) ≤ 100 := by omega
  have hy' : (ys.length : Int) ≤ 100 := by omega
  go_wp2_with fail
  refine (lived_any _).mono ?_
  rintro e w6 ⟨rfl, g6⟩
  go_wp2_with fail
  go_ret
  exact ⟨rfl, grow_trans g04 (grow_trans g5 g6)⟩

theorem parts_big (p : Int) (A B : Option Addr) (c d m n : Nat) (w : World) (h : 100 < m ∨ 100 < n) (hm : m ≤ 9223372036854775807) (hn : n ≤ 9223372036854775807) :
    Calls Try.prog 4 #[.int .i64 p, .slice A m c, .slice B n d] w fun e w' => e = .returned (.bool true) ∧ w = w' := by
  by_cases h1 : 100 < m
  · go_enter Try.func4, Try.ntmps4
    go_wp2_with fail
    go_ret
    exact ⟨rfl, rfl⟩
  · have h2 : 100 < n := by omega
    go_enter Try.func4, Try.ntmps4
    go_wp2_with fail
    go_ret
    exact ⟨rfl, rfl⟩
end Go.Proofs.Ytfdaepicbgiamaa
