/- The law LifeClears, as a contract. -/
import Derived.Test.YtfdaepicbgiamaaL
namespace Go.Proofs.Ytfdaepicbgiamaa
open Go.RowKit

def isB (n : Int) : Bool := decide (0 ≤ n ∧ n < 5)
theorem name_is (n : Int) (w : World) :
    Calls Try.prog 15 #[.int .i64 n] w fun e w' => e = .returned (.tuple #[.string ⟨(nameOf n).toArray⟩, .bool (isB n)]) ∧ w = w' := name_any n w

set_option maxHeartbeats 1000000 in
theorem clears_core (phase deed : Int) (w : World) (bn bz bd : Bool) (h1 : nxo phase 5 = (bn && bz)) (h2 : nxv phase 5 = 0) (h3 : isB phase = bn) (h4 : (phase != 0) = bz) (h5 : nxo 0 deed = bd) (h6 : (deed == 1) = bd) (h7 : nxv 0 deed = if bd then 1 else 0) :
    Calls Try.prog 6 #[.int .i64 phase, .int .i64 deed] w fun e w' => e = .returned (.bool true) ∧ w.grownBy w' none := by
  cases bn <;> cases bz <;> cases bd
  all_goals
    simp only [Bool.and_true, Bool.and_false, Bool.true_and, Bool.false_and, if_true, Bool.false_eq_true, if_false] at h1 h7
    go_enter Try.func6, Try.ntmps6
    go_wp2_with fail
    refine (next_any _ _ _).mono ?_
    rintro e w1 ⟨rfl, g1⟩
    go_wp2_with fail
    refine (next_any _ _ _).mono ?_
    rintro e w2 ⟨rfl, g2⟩
    go_wp2_with fail
    refine (name_is _ _).mono ?_
    rintro e w3 ⟨rfl, rfl⟩
    go_wp2_with fail
    refine (lived_any _).mono ?_
    rintro e w4 ⟨rfl, g4⟩
    have g := grow_trans g1 (grow_trans g2 g4)
    clear g1 g2 g4
    go_wp2_with fail
    go_ret
    exact ⟨rfl, g⟩

theorem nx_cases (p d : Int) (h : 0 ≤ p ∧ p < 5 ∧ 1 ≤ d ∧ d < 7) : nxo p d = (nx p d != -1) := by simp [nxo, h]
theorem clears_any (phase deed : Int) (w : World) :
    Calls Try.prog 6 #[.int .i64 phase, .int .i64 deed] w fun e w' => e = .returned (.bool true) ∧ w.grownBy w' none := by
  have hd : nxo 0 deed = (deed == 1) ∧ nxv 0 deed = if (deed == 1) then 1 else 0 := by
    by_cases h : 1 ≤ deed ∧ deed < 7
    · obtain rfl | rfl | rfl | rfl | rfl | rfl : deed = 1 ∨ deed = 2 ∨ deed = 3 ∨ deed = 4 ∨ deed = 5 ∨ deed = 6 := by omega
      all_goals decide
    · have e1 : nxo 0 deed = false := by simp [nxo]; intros; omega
      have e2 : (deed == 1) = false := by simp; omega
      simp [nxv, e1, e2]
  have hp : nxo phase 5 = (isB phase && (phase != 0)) ∧ nxv phase 5 = 0 := by
    by_cases h : 0 ≤ phase ∧ phase < 5
    · obtain rfl | rfl | rfl | rfl | rfl : phase = 0 ∨ phase = 1 ∨ phase = 2 ∨ phase = 3 ∨ phase = 4 := by omega
      all_goals decide
    · have e1 : nxo phase 5 = false := by simp [nxo]; intros; omega
      have e2 : isB phase = false := by simpa [isB] using h
      simp [nxv, e1, e2]
  exact clears_core phase deed w _ _ _ hp.1 hp.2 rfl rfl hd.1 rfl hd.2
end Go.Proofs.Ytfdaepicbgiamaa
