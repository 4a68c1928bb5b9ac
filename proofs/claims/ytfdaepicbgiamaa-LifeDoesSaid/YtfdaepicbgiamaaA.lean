/- Contracts of life.is, life.table and life.Next. -/
import Derived.Test.YtfdaepicbgiamaaM
import Derived.Test.YtfdaepicbgiamaaV
import Derived.WalkKit
import Derived.WalkSpells
import Derived.WalkLawsBesides
import Derived.BigQuiet
import Derived.Deep.QuietTactic
import Derived.Deep.WholeRow
import Derived.Lib.Hide
namespace Go.Proofs.Ytfdaepicbgiamaa
open Go.RowKit

theorem info43 : (Try.prog.info? 43).map (fun i => (i.zero, i.size)) = some (some (.agg (Array.replicate 35 (.int .i64 0))), 35) := by kernel_rfl
def row (l : List Int) : Value := .agg (l.map (Value.int .i64)).toArray
def tabA : Array Value := (tab.map (Value.int .i64)).toArray
theorem results22 : Try.f22.results = #[.cell 0 43] := by kernel_rfl
theorem u43 : Try.prog.underlying 43 = some (.array 5 42) := by kernel_rfl
set_option maxRecDepth 10000 in
theorem table_any (w : World) :
    Calls Try.prog 22 #[] w fun e w' => e = .returned (.agg tabA) ∧ w' = w.alloc (.cells tabA 43) := by
  obtain ⟨z43, s43⟩ := zero_of_info info43
  refine calls_of_wp Try.func22 rfl ?_
  refine wp_seq_k fun K hK => wp_region_lit (wpList_valRun (v := .pointer (some ⟨w.heap.size, 0, none⟩)) (w' := w.alloc (.cells (Array.replicate 35 (.int .i64 0)) 43)) rfl (by kernel_rfl) (wpList_nil (hK _ _ (wp_seq_k fun K2 hK2 => wp_region_lit ?_))))
  refine wpList_valRun (v := row [-1,1,-1,-1,-1,-1,-1]) (w' := w.alloc (.cells (Array.replicate 35 (.int .i64 0)) 43)) rfl (by kernel_rfl) ?_
  refine wpList_valRun (v := row [-1,1,2,3,4,0,-1]) (w' := w.alloc (.cells (Array.replicate 35 (.int .i64 0)) 43)) rfl (by kernel_rfl) ?_
  refine wpList_valRun (v := row [-1,2,-1,3,4,0,-1]) (w' := w.alloc (.cells (Array.replicate 35 (.int .i64 0)) 43)) rfl (by kernel_rfl) ?_
  refine wpList_valRun (v := row [-1,1,-1,-1,4,0,-1]) (w' := w.alloc (.cells (Array.replicate 35 (.int .i64 0)) 43)) rfl (by kernel_rfl) ?_
  refine wpList_valRun (v := row [-1,4,-1,3,-1,0,1]) (w' := w.alloc (.cells (Array.replicate 35 (.int .i64 0)) 43)) rfl (by kernel_rfl) ?_
  refine wpList_valRun (v := .agg tabA) (w' := w.alloc (.cells (Array.replicate 35 (.int .i64 0)) 43)) rfl (by kernel_rfl) ?_
  refine wpList_skipRun (w' := w.alloc (.cells tabA 43)) rfl ?_ (wpList_nil (hK2 _ _ (wp_ret ?_)))
  · have := run_storeAt_new (P := Try.prog) w 43 (Array.replicate 35 (.int .i64 0)) tabA s43 (by kernel_rfl) (by kernel_rfl)
    show Sem.run _ (do Instr.storeAt 43 (.pointer (some ⟨w.heap.size, 0, none⟩)) (.agg tabA); pure Next.skip) _ = _
    rw [Sem.run_bind, this]; rfl
  · refine bodyPost_ret (v := .agg tabA) ?_ rfl ⟨rfl, rfl⟩
    exact results_cell_row results22 _ _ _ 43 tabA (0,0) _ rfl (heap_alloc_last w _) u43 rfl s43

theorem is_yes (n : Int) (w : World) (h0 : 0 ≤ n) (h1 : n < 5) :
    Calls Try.prog 21 #[.int .i64 n] w fun e w' => e = .returned (.bool true) ∧ w = w' := by
  go_enter Try.func21, Try.ntmps21
  go_wp2_with fail
  go_ret
  simp [h0, h1]
theorem is_no (n : Int) (w : World) (h : n < 0 ∨ 5 ≤ n) :
    Calls Try.prog 21 #[.int .i64 n] w fun e w' => e = .returned (.bool false) ∧ w = w' := by
  rcases h with h | h
  · go_enter Try.func21, Try.ntmps21
    go_wp2_with fail
    go_ret
    simp
  · have h0 : 0 ≤ n := by omega
    go_enter Try.func21, Try.ntmps21
    go_wp2_with fail
    go_ret
    simp [h]

theorem next_out (p d : Int) (w : World) (h : p < 0 ∨ 5 ≤ p ∨ d < 1 ∨ 7 ≤ d) :
    Calls Try.prog 9 #[.int .i64 p, .int .i64 d] w fun e w' => e = .returned (.tuple #[.int .i64 0, .bool false]) ∧ w = w' := by
  by_cases hp : p < 0 ∨ 5 ≤ p
  · go_enter Try.func9, Try.ntmps9
    go_wp2_with (go_at_call 21; refine (is_no _ _ hp).mono ?_; rintro e w' ⟨rfl, rfl⟩)
    go_ret2
    exact ⟨rfl, rfl⟩
  · have hp0 : 0 ≤ p := by omega
    have hp1 : p < 5 := by omega
    by_cases hd : d < 1
    · go_enter Try.func9, Try.ntmps9
      go_wp2_with (go_at_call 21; refine (is_yes _ _ hp0 hp1).mono ?_; rintro e w' ⟨rfl, rfl⟩)
      go_ret2
      exact ⟨rfl, rfl⟩
    · have hd0 : 1 ≤ d := by omega
      have hd1 : 7 ≤ d := by omega
      go_enter Try.func9, Try.ntmps9
      go_wp2_with (go_at_call 21; refine (is_yes _ _ hp0 hp1).mono ?_; rintro e w' ⟨rfl, rfl⟩)
      go_ret2
      exact ⟨rfl, rfl⟩
def rowv (p : Int) : Value := .agg (((tab.drop (p * 7).toNat).take 7).map (Value.int .i64)).toArray
theorem idx1 (p : Int) (w : World) (h0 : 0 ≤ p) (h1 : p < 5) : (Instr.index 43 (.agg tabA) (.int .i64 p)).run Try.prog w = .ok (rowv p) w := by
  obtain rfl | rfl | rfl | rfl | rfl : p = 0 ∨ p = 1 ∨ p = 2 ∨ p = 3 ∨ p = 4 := by omega
  all_goals kernel_rfl
theorem idx2 (p d : Int) (w : World) (h0 : 0 ≤ p) (h1 : p < 5) (h2 : 0 ≤ d) (h3 : d < 7) : (Instr.index 42 (rowv p) (.int .i64 d)).run Try.prog w = .ok (.int .i64 (nx p d)) w := by
  obtain rfl | rfl | rfl | rfl | rfl : p = 0 ∨ p = 1 ∨ p = 2 ∨ p = 3 ∨ p = 4 := by omega
  all_goals
    obtain rfl | rfl | rfl | rfl | rfl | rfl | rfl : d = 0 ∨ d = 1 ∨ d = 2 ∨ d = 3 ∨ d = 4 ∨ d = 5 ∨ d = 6 := by omega
    all_goals kernel_rfl
theorem grow_alloc (w : World) (o : Obj) : w.grownBy (w.alloc o) none := ⟨rfl, rfl, rfl, by simp, fun k hk _ => Below.heap_alloc _ _ _ (by omega)⟩
theorem next_in (p d : Int) (w : World) (h0 : 0 ≤ p) (h1 : p < 5) (h2 : 1 ≤ d) (h3 : d < 7) :
    Calls Try.prog 9 #[.int .i64 p, .int .i64 d] w fun e w' => e = .returned (.tuple #[.int .i64 (nxv p d), .bool (nxo p d)]) ∧ w.grownBy w' none := by
  have i1 := fun w => idx1 p w h0 h1
  have i2 := fun w => idx2 p d w h0 h1 (by omega) h3
  by_cases hn : nx p d = -1
  · have hb : (nx p d != -1) = false := by simp [hn]
    have e1 : nxo p d = false := by simp [nxo, hb]
    have e2 : nxv p d = 0 := by simp [nxv, e1]
    rw [e1, e2]
    clear hn e1 e2
    go_enter Try.func9, Try.ntmps9
    go_wp2_with first | (go_at_call 21; refine (is_yes _ _ h0 h1).mono ?_; rintro e w' ⟨rfl, rfl⟩) | (go_at_call 22; refine (table_any _).mono ?_; rintro e w' ⟨rfl, rfl⟩)
    go_ret2
    exact ⟨rfl, grow_alloc _ _⟩
  · have hb : (nx p d != -1) = true := by simp [hn]
    have e1 : nxo p d = true := by simp [nxo, hb, h0, h1, h2, h3]
    have e2 : nxv p d = nx p d := by simp [nxv, e1]
    rw [e1, e2]
    clear hn e1 e2
    go_enter Try.func9, Try.ntmps9
    go_wp2_with first | (go_at_call 21; refine (is_yes _ _ h0 h1).mono ?_; rintro e w' ⟨rfl, rfl⟩) | (go_at_call 22; refine (table_any _).mono ?_; rintro e w' ⟨rfl, rfl⟩)
    go_ret2
    exact ⟨rfl, grow_alloc _ _⟩
theorem next_any (p d : Int) (w : World) :
    Calls Try.prog 9 #[.int .i64 p, .int .i64 d] w fun e w' => e = .returned (.tuple #[.int .i64 (nxv p d), .bool (nxo p d)]) ∧ w.grownBy w' none := by
  by_cases h : 0 ≤ p ∧ p < 5 ∧ 1 ≤ d ∧ d < 7
  · exact next_in p d w h.1 h.2.1 h.2.2.1 h.2.2.2
  · have e1 : nxo p d = false := by simp [nxo]; intros; omega
    have e2 : nxv p d = 0 := by simp [nxv, e1]
    rw [e1, e2]
    exact (next_out p d w (by omega)).mono fun e w' ⟨h, hw⟩ => ⟨h, by subst hw; exact .refl _ _⟩
end Go.Proofs.Ytfdaepicbgiamaa
