/- The laws of tally at rows longer than 60: true at once. -/
import Derived.Test.YtiamkjokiapanaaDoorC
namespace Go.Proofs.YtiamkjokiapanaaDoor
open Go.RowKit Go.Proofs.YtiamkjokiapanaaDoorW.PrintWords

theorem adds_big (a one : Int) (A : Option Addr) (m c : Nat) (w : World) (h : 60 < m) (hm : m ≤ 9223372036854775807) :
    Calls Tryd.prog 4 #[.int .i64 a, .slice A m c, .int .i64 one] w fun e w' => e = .returned (.bool true) ∧ w = w' := by
  go_enter Tryd.func4, Tryd.ntmps4
  go_wp2_with fail
  go_ret
  exact ⟨rfl, rfl⟩
theorem reached_big (n b d : Int) (A : Option Addr) (m c : Nat) (w : World) (h : 60 < m) (hm : m ≤ 9223372036854775807) :
    Calls Tryd.prog 6 #[.int .i64 n, .slice A m c, .int .i64 b, .int .i64 d] w fun e w' => e = .returned (.bool true) ∧ w = w' := by
  go_enter Tryd.func6, Tryd.ntmps6
  go_wp2_with fail
  go_ret
  exact ⟨rfl, rfl⟩
theorem does_big1 (a one n v : Int) (A B : Option Addr) (m c k d : Nat) (w : World) (h : 60 < m) (hm : m ≤ 9223372036854775807) :
    Calls Tryd.prog 3 #[.int .i64 a, .slice A m c, .int .i64 one, .int .i64 n, .slice B k d, .int .i64 v] w fun e w' => e = .returned (.bool true) ∧ w = w' := by
  go_enter Tryd.func3, Tryd.ntmps3
  go_wp2_with fail
  go_ret
  exact ⟨rfl, rfl⟩
theorem does_big2 (a one n v : Int) (A B : Option Addr) (m c k d : Nat) (w : World) (h : m ≤ 60) (hk : 60 < k) (hm : k ≤ 9223372036854775807) :
    Calls Tryd.prog 3 #[.int .i64 a, .slice A m c, .int .i64 one, .int .i64 n, .slice B k d, .int .i64 v] w fun e w' => e = .returned (.bool true) ∧ w = w' := by
  go_enter Tryd.func3, Tryd.ntmps3
  go_wp2_with fail
  go_ret
  exact ⟨rfl, rfl⟩
end Go.Proofs.YtiamkjokiapanaaDoor
