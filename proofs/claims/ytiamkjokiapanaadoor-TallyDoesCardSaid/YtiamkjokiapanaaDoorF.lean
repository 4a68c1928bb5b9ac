/- Contract of watchmanlaw22.counted. -/
import Derived.Test.YtiamkjokiapanaaDoorI
import Derived.Test.YtiamkjokiapanaaDoorE
namespace Go.Proofs.YtiamkjokiapanaaDoor
open Go.RowKit Go.Proofs.YtiamkjokiapanaaDoorW.PrintWords

theorem tab_grow {g : Nat} {tab : List Nat} {w w' : World} (h : TabAt g tab w) (hb : w.grownBy w' none) (hg : g < w.heap.size) : TabAt g tab w' := fun j hj => (grow_cell hb hg).trans (h j hj)

set_option maxHeartbeats 1000000 in
theorem counted_any (w : World) (hT : TabAt 1 Lib.deBruijn64tab w) (hg : 1 < w.heap.size) :
    Calls Tryd.prog 24 #[] w fun e w' => e = .returned (.bool true) ∧ w.grownBy w' none := by
  have H1 : leadN 7 3 = 1 := by decide +kernel
  have H2 : leadB 7 3 = true := by decide +kernel
  have H3 : addsN (rt 0) [0, 2, 9] = 5 := by decide +kernel
  have H4 : membN (rt 5) = [0, 2] := by decide +kernel
  have H5 : enoughN (rt 5) 3 = true := by decide +kernel
  have H6 : enoughN (rt 5) 5 = false := by decide +kernel
  have H7 : reachN 3 [5, 2, 0] = 2 := by
    unfold reachN
    rw [sorted_eq [5, 2, 0] [5, 2, 0] [0, 2, 5] (List.Perm.refl _) (by decide) (by decide)]
    decide
  have H8 : hasN (rt 5) 2 = true := by decide +kernel
  have H9 : sizeN (rt 5) = 2 := by decide +kernel
  go_enter Tryd.func24, Tryd.ntmps24
  go_wp2_with fail
  refine (leader_any 7 3 w).mono ?_
  rintro e w1 ⟨rfl, rfl⟩
  rw [H1, H2]
  go_wp2_with fail
  have g1 := grow_alloc w (.cells #[.int .i64 0, .int .i64 2, .int .i64 9] 3)
  refine (add_any 0 _ 3 [0, 2, 9] _ (by decide) (ci_new w [0, 2, 9] _ rfl)).mono ?_
  rintro e w2 ⟨rfl, rfl⟩
  rw [H3]
  generalize hW2 : w.alloc (.cells #[.int .i64 0, .int .i64 2, .int .i64 9] 3) = w2 at g1 ⊢
  have T2 := tab_grow hT g1 hg
  have s2 : w.heap.size ≤ w2.heap.size := g1.size
  go_wp2_with fail
  refine (members_any 5 w2 T2 (by omega)).mono ?_
  rintro e w3 ⟨v, rfl, ho, hb3⟩
  rw [H4] at ho
  have g3 := grow_trans g1 (grow_of_below hb3)
  obtain ⟨A, c, rfl, hci⟩ := ci_of_own ho rfl
  clear ho
  go_wp2_with fail
  have g4 := grow_alloc w3 (.cells #[.int .i64 0, .int .i64 2] 3)
  refine (same_any A _ c 2 [0, 2] [0, 2] _ (by decide) (by decide) (hci.grow g4) (ci_new w3 [0, 2] _ rfl)).mono ?_
  clear hci T2 hb3
  rintro e w5 ⟨rfl, g5⟩
  have g6 := grow_trans (grow_trans g3 g4) g5
  clear g1 g3 g4 g5
  go_wp2_with fail
  refine (enough_any 5 3 w5).mono ?_
  rintro e w6 ⟨rfl, k1, rfl⟩
  rw [H5]
  have g7 := grow_trans g6 (grow_drewN _ k1)
  clear g6
  go_wp2_with fail
  refine (enough_any 5 5 _).mono ?_
  rintro e w6 ⟨rfl, k2, rfl⟩
  rw [H6]
  have g8 := grow_trans g7 (grow_drewN _ k2)
  generalize (w5.drewN k1).drewN k2 = w6 at g8 ⊢
  clear g7
  go_wp2_with fail
  have g9 := grow_trans g8 (grow_alloc w6 (.cells #[.int .i64 5, .int .i64 2, .int .i64 0] 3))
  refine (reached_any 3 _ 3 [5, 2, 0] _ (by decide) (ci_new w6 [5, 2, 0] _ rfl)).mono ?_
  rintro e w7 ⟨rfl, g10⟩
  rw [H7]
  have g11 := grow_trans g9 g10
  clear g8 g9 g10
  go_wp2_with fail
  refine (has_any 5 2 w7).mono ?_
  rintro e w8 ⟨rfl, rfl⟩
  rw [H8]
  go_wp2_with fail
  refine (size_any 5 _).mono ?_
  rintro e w8 ⟨rfl, rfl⟩
  rw [H9]
  go_wp2_with fail
  go_ret
  exact ⟨rfl, g11⟩
end Go.Proofs.YtiamkjokiapanaaDoor
