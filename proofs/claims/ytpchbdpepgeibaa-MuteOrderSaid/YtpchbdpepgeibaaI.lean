/- The comparing closure of mute.joined. -/
import Derived.Test.YtpchbdpepgeibaaH
import Derived.Shelf.SlSortCmp.WholeK
namespace Go.Proofs.Ytpchbdpepgeibaa
open Go.RowKit Go.Sort Go.Proofs.YtpchbdpepgeibaaW.PrintWords Pturn

theorem cell_one_new2 (W : World) (x y : Value) : (W.alloc (.cells #[x, y] 3)).drew.cell? ⟨W.heap.size, 0, none⟩ = some x := by simp
theorem cell_two_new2 (W : World) (x y : Value) : (W.alloc (.cells #[x, y] 3)).drew.cell? ⟨W.heap.size, 1, none⟩ = some y := by simp
set_option maxHeartbeats 1000000 in
theorem cmp_any (a0 a1 a2 b0 b1 b2 : Int) (w : World) :
    Calls Try.prog 34 #[.agg #[.int .i64 a0, .int .i64 a1, .int .i64 a2], .agg #[.int .i64 b0, .int .i64 b1, .int .i64 b2]] w fun e w' => e = .returned (.int .i64 (orI (cmpI a0 b0) (cmpI a1 b1))) ∧ ∃ q os', w' = grow (w.drewN q) os' := by
  have HC := Lib.hid (fun x y W => compare_any x y W)
  have HO := Lib.hid (fun b x y W h0 h1 => or_any b x y W h0 h1)
  obtain ⟨x, hx⟩ : ∃ x, x = cmpI a0 b0 := ⟨_, rfl⟩
  obtain ⟨y, hy⟩ : ∃ y, y = cmpI a1 b1 := ⟨_, rfl⟩
  have H1 := Lib.hid (show ∀ W, Calls Try.prog 36 #[.int .i64 a0, .int .i64 b0] W fun e w' => e = .returned (.int .i64 x) ∧ W = w' from fun W => by rw [hx]; exact HC.out _ _ _)
  have H2 := Lib.hid (show ∀ W, Calls Try.prog 36 #[.int .i64 a1, .int .i64 b1] W fun e w' => e = .returned (.int .i64 y) ∧ W = w' from fun W => by rw [hy]; exact HC.out _ _ _)
  have HXY := Lib.hid (And.intro hx hy)
  rw [← hx, ← hy]
  clear hx hy HC
  go_enter Try.func34, Try.ntmps34
  go_wp2_with fail
  obtain ⟨W0, hW0⟩ : ∃ W0, W0 = (w.alloc (.cells #[.int .i64 a0, .int .i64 a1, .int .i64 a2] 32)).alloc (.cells #[.int .i64 b0, .int .i64 b1, .int .i64 b2] 32) := ⟨_, rfl⟩
  have c0 : W0.cell? ⟨w.heap.size, 0, none⟩ = some (.int .i64 a0) := by rw [hW0]; simp
  have c1 : W0.cell? ⟨w.heap.size, 1, none⟩ = some (.int .i64 a1) := by rw [hW0]; simp
  have c2 : W0.cell? ⟨w.heap.size + 1, 0, none⟩ = some (.int .i64 b0) := by rw [hW0]; simp
  have c3 : W0.cell? ⟨w.heap.size + 1, 1, none⟩ = some (.int .i64 b1) := by rw [hW0]; simp
  rw [← hW0]
  have hz : w.heap.size + 1 < W0.heap.size := by rw [hW0]; simp
  have HW0 := Lib.hid hW0
  clear hW0
  generalize w.heap.size = B at *
  go_region_held3 (fun w' => w'.cell? ⟨B, 0, none⟩ = some (.int .i64 a0) ∧ w'.cell? ⟨B, 1, none⟩ = some (.int .i64 a1) ∧ w'.cell? ⟨B + 1, 0, none⟩ = some (.int .i64 b0) ∧ w'.cell? ⟨B + 1, 1, none⟩ = some (.int .i64 b1)) (go_keep)
    (first | (go_at_call 36; (with_reducible refine (H1.out _).mono ?_); rintro e w' ⟨rfl, rfl⟩) | (go_at_call 36; (with_reducible refine (H2.out _).mono ?_); rintro e w' ⟨rfl, rfl⟩) | (go_at_call 35; refine (HO.out _ _ _ _ (cell_one_new2 _ _ _) (cell_two_new2 _ _ _)).mono ?_; rintro e w' ⟨rfl, rfl⟩))
  all_goals
    go_wp2_with fail
    go_ret
    refine ⟨rfl, 1, (#[.cells #[.int .i64 a0, .int .i64 a1, .int .i64 a2] 32] ++ #[.cells #[.int .i64 b0, .int .i64 b1, .int .i64 b2] 32]) ++ #[.cells #[.int .i64 x, .int .i64 y] 3], ?_⟩
    rw [HW0.out]
    show ((((w.drewN 1).alloc _).alloc _).alloc _) = _
    rw [alloc_eq_grow, alloc_eq_grow, grow_grow, alloc_eq_grow, grow_grow, Array.append_assoc]
end Go.Proofs.Ytpchbdpepgeibaa
