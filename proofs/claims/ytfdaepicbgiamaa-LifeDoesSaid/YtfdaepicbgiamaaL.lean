/- The law package's own rows (lived) are true. -/
import Derived.Test.YtfdaepicbgiamaaR
namespace Go.Proofs.Ytfdaepicbgiamaa
open Go.RowKit Go.Proofs.YtfdaepicbgiamaaW.PrintWords

theorem ci_new (w : World) (zs : List Int) (cs : Array Value) (h : cs.toList = ints zs) : CI (w.alloc (.cells cs 3)) (some ⟨w.heap.size, 0, none⟩) zs := by
  intro j hj
  refine ⟨w.heap.size, 0, rfl, by simp, ?_⟩
  rw [cell_of_row _ _ _ _ _ _ (heap_alloc_new w _), ← Array.getElem?_toList, h]
  simp [ints, List.getD, hj]

set_option maxHeartbeats 1000000 in
theorem lived_any (w : World) : Calls Try.prog 18 #[] w fun e w' => e = .returned (.bool true) ∧ w.grownBy w' none := by
  have a1 : nxo 4 6 = true := by decide
  have a2 : nxv 4 6 = 1 := by decide
  have a3 : nxo 0 3 = false := by decide
  have a4 : nxv 0 3 = 0 := by decide
  have a5 : getL (waysL 0) 2 = [1, 2] := by decide +kernel
  have a6 : runL 0 0 [3, 1, 2, 3] = (3, 3) := by decide +kernel
  have a7 : nameOf 3 = [97, 99, 107, 101, 100] := rfl
  go_enter Try.func18, Try.ntmps18
  go_wp2_with fail
  refine (next_any _ _ _).mono ?_
  rintro e w1 ⟨rfl, g1⟩
  go_wp2_with fail
  refine (next_any _ _ _).mono ?_
  rintro e w2 ⟨rfl, g2⟩
  go_wp2_with fail
  refine (way_in 0 2 _ (by omega) (by omega) (by omega) (by omega)).mono ?_
  rintro e w3 ⟨A, c, rfl, hc, g3⟩
  rw [a5] at hc ⊢
  go_wp2_with fail
  refine (run_any 0 _ _ [3, 1, 2, 3] _ (by decide) (ci_new _ _ _ rfl)).mono ?_
  rintro e w4 ⟨rfl, g4⟩
  go_wp2_with fail
  refine (name_any _ _).mono ?_
  rintro e w5 ⟨rfl, rfl⟩
  go_wp2_with fail
  have hga := World.grownBy_alloc w3 (.cells #[.int .i64 3, .int .i64 1, .int .i64 2, .int .i64 3] 3) none
  have gW := grow_trans (grow_trans g1 g2) (grow_trans g3 (grow_trans hga g4))
  have hc4 := hc.grow (grow_trans hga g4)
  clear g1 g2 g3 g4 hga hc
  refine (same_any _ _ _ _ [1, 2] [1, 2] _ (by decide) (by decide) (hc4.grow (World.grownBy_alloc _ _ none)) (ci_new _ _ _ rfl)).mono ?_
  rintro e w6 ⟨rfl, g6⟩
  have g6' := grow_trans gW (grow_trans (World.grownBy_alloc _ _ none) g6)
  clear g6 gW hc4
  go_wp2_with fail
  refine (reach_in 0 _ (by omega) (by omega)).mono ?_
  rintro e w7 ⟨v, rfl, ho, g7⟩
  obtain ⟨A2, c2, rfl⟩ : ∃ A c, v = .slice A 5 c := by
    rcases ho.2 with ⟨_, h⟩ | ⟨g, cap, cur, e, _⟩
    · cases h
    · exact ⟨_, _, e⟩
  have g8 := grow_trans g6' g7
  clear ho g7 g6'
  go_wp2_with fail
  go_ret
  exact ⟨rfl, g8⟩
end Go.Proofs.Ytfdaepicbgiamaa
