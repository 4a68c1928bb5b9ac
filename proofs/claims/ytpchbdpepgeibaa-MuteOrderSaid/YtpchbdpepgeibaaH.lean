/- Contracts of mute's small functions and closures, cmp.Compare, cmp.Or. -/
import Derived.BigGuardPart
import Derived.BigCall
import Derived.Deep.RegionHeld3
import Derived.Test.YtpchbdpepgeibaaW
namespace Go.Proofs.Ytpchbdpepgeibaa
open Go.RowKit Go.Proofs.YtpchbdpepgeibaaW.PrintWords Pturn

theorem may_any (f0 f1 f2 : Int) (w : World) :
    Calls Try.prog 31 #[.agg #[.int .i64 f0, .int .i64 f1, .int .i64 f2]] w fun e w' => e = .returned (.bool (mayB ⟨f0, f1, f2⟩)) ∧ Below w.heap.size w w' := by
  have HM := Lib.hid (show mayB ⟨f0, f1, f2⟩ = (decide (1 ≤ f0) && decide (f0 ≤ 99) && decide (0 ≤ f1) && decide (f1 < f2) && decide (f2 ≤ 1000000000)) by simp [mayB, Bool.and_assoc])
  generalize mayB ⟨f0, f1, f2⟩ = R at *
  by_cases h1 : 1 ≤ f0
  · by_cases h2 : f0 ≤ 99
    · by_cases h3 : 0 ≤ f1
      · by_cases h4 : f1 < f2
        · by_cases h5 : f2 ≤ 1000000000
          · go_enter Try.func31, Try.ntmps31
            go_wp2_with fail
            go_ret
            exact ⟨ret_bool (by rw [HM.out]; simp [*]), (Below.refl _ _).alloc (Nat.le_refl _) _⟩
          · have h5' : decide (f2 ≤ 1000000000) = false := by simp; omega
            go_enter Try.func31, Try.ntmps31
            go_wp2_with fail
            go_ret
            exact ⟨ret_bool (by rw [HM.out]; simp [*]), (Below.refl _ _).alloc (Nat.le_refl _) _⟩
        · have h4' : decide (f1 < f2) = false := by simp; omega
          go_enter Try.func31, Try.ntmps31
          go_wp2_with fail
          go_ret
          exact ⟨ret_bool (by rw [HM.out]; simp [*]), (Below.refl _ _).alloc (Nat.le_refl _) _⟩
      · have h3' : decide (0 ≤ f1) = false := by simp; omega
        go_enter Try.func31, Try.ntmps31
        go_wp2_with fail
        go_ret
        exact ⟨ret_bool (by rw [HM.out]; simp [*]), (Below.refl _ _).alloc (Nat.le_refl _) _⟩
    · have h2' : decide (f0 ≤ 99) = false := by simp; omega
      go_enter Try.func31, Try.ntmps31
      go_wp2_with fail
      go_ret
      exact ⟨ret_bool (by rw [HM.out]; simp [*]), (Below.refl _ _).alloc (Nat.le_refl _) _⟩
  · have h1' : decide (1 ≤ f0) = false := by simp; omega
    go_enter Try.func31, Try.ntmps31
    go_wp2_with fail
    go_ret
    exact ⟨ret_bool (by rw [HM.out]; simp [*]), (Below.refl _ _).alloc (Nat.le_refl _) _⟩
theorem has_any (f0 f1 f2 b t : Int) (w : World) :
    Calls Try.prog 41 #[.agg #[.int .i64 f0, .int .i64 f1, .int .i64 f2], .int .i64 b, .int .i64 t] w fun e w' => e = .returned (.bool (hitB ⟨f0, f1, f2⟩ b t)) ∧ Below w.heap.size w w' := by
  have HM := Lib.hid (show hitB ⟨f0, f1, f2⟩ b t = ((f0 == b) && decide (f1 ≤ t) && decide (t < f2)) by rw [Bool.eq_iff_iff]; simp [hitB, and_assoc])
  generalize hitB ⟨f0, f1, f2⟩ b t = R at *
  cases h1 : (f0 == b)
  · go_enter Try.func41, Try.ntmps41
    go_wp2_with fail
    go_ret
    exact ⟨ret_bool (by rw [HM.out, h1]; rfl), (Below.refl _ _).alloc (Nat.le_refl _) _⟩
  · by_cases h2 : f1 ≤ t
    · go_enter Try.func41, Try.ntmps41
      go_wp2_with fail
      go_ret
      exact ⟨ret_bool (by rw [HM.out, h1]; simp [*]), (Below.refl _ _).alloc (Nat.le_refl _) _⟩
    · have h2' : decide (f1 ≤ t) = false := by simp; omega
      go_enter Try.func41, Try.ntmps41
      go_wp2_with fail
      go_ret
      exact ⟨ret_bool (by rw [HM.out, h1]; simp [*]), (Below.refl _ _).alloc (Nat.le_refl _) _⟩
theorem all1_any (f0 f1 f2 : Int) (w : World) :
    Calls Try.prog 30 #[.agg #[.int .i64 f0, .int .i64 f1, .int .i64 f2]] w fun e w' => e = .returned (.bool (!mayB ⟨f0, f1, f2⟩)) ∧ Below w.heap.size w w' := by
  have HM := Lib.hid (fun W => may_any f0 f1 f2 W)
  generalize mayB ⟨f0, f1, f2⟩ = R at *
  go_enter Try.func30, Try.ntmps30
  go_wp2_with fail
  refine (HM.out _).mono ?_
  rintro e w1 ⟨rfl, hb⟩
  go_wp2_with fail
  go_ret
  exact ⟨rfl, ((Below.refl _ _).alloc (Nat.le_refl _) _).trans (hb.mono (by simp))⟩
theorem isnan_any (x : Int) (w : World) : Calls Try.prog 45 #[.int .i64 x] w fun e w' => e = .returned (.bool false) ∧ w = w' := by
  go_enter Try.func45, Try.ntmps45
  go_wp2_with fail
  go_ret
  exact ⟨ret_bool (by simp), rfl⟩
def cmpI (x y : Int) : Int := if x < y then -1 else if y < x then 1 else 0
theorem compare_any (x y : Int) (w : World) : Calls Try.prog 36 #[.int .i64 x, .int .i64 y] w fun e w' => e = .returned (.int .i64 (cmpI x y)) ∧ w = w' := by
  have H1 := Lib.hid (fun x W => isnan_any x W)
  by_cases h1 : x < y
  · have e : cmpI x y = -1 := by unfold cmpI; rw [if_pos h1]
    rw [e]
    clear e
    go_enter Try.func36, Try.ntmps36
    go_wp2_with fail
    refine (H1.out _ _).mono ?_
    rintro e w1 ⟨rfl, rfl⟩
    go_wp2_with fail
    refine (H1.out _ _).mono ?_
    rintro e w1 ⟨rfl, rfl⟩
    go_wp2_with fail
    go_ret
    exact ⟨rfl, rfl⟩
  · by_cases h2 : y < x
    · have e : cmpI x y = 1 := by unfold cmpI; rw [if_neg h1, if_pos h2]
      rw [e]
      have h1' : decide (x < y) = false := by simp; omega
      clear e h1
      go_enter Try.func36, Try.ntmps36
      go_wp2_with fail
      refine (H1.out _ _).mono ?_
      rintro e w1 ⟨rfl, rfl⟩
      go_wp2_with fail
      refine (H1.out _ _).mono ?_
      rintro e w1 ⟨rfl, rfl⟩
      go_wp2_with fail
      go_ret
      exact ⟨rfl, rfl⟩
    · have e : cmpI x y = 0 := by unfold cmpI; rw [if_neg h1, if_neg h2]
      rw [e]
      have h1' : decide (x < y) = false := by simp; omega
      have h2' : decide (y < x) = false := by simp; omega
      clear e h1 h2
      go_enter Try.func36, Try.ntmps36
      go_wp2_with fail
      refine (H1.out _ _).mono ?_
      rintro e w1 ⟨rfl, rfl⟩
      go_wp2_with fail
      refine (H1.out _ _).mono ?_
      rintro e w1 ⟨rfl, rfl⟩
      go_wp2_with fail
      go_ret
      exact ⟨rfl, rfl⟩
/-- cmp.Or of two numbers that lie in a block. -/
def orI (x y : Int) : Int := if x = 0 then y else x
theorem or_any (b : Nat) (x y : Int) (w : World) (h0 : w.cell? ⟨b, 0, none⟩ = some (.int .i64 x)) (h1 : w.cell? ⟨b, 1, none⟩ = some (.int .i64 y)) :
    Calls Try.prog 35 #[.slice (some ⟨b, 0, none⟩) 2 2] w fun e w' => e = .returned (.int .i64 (orI x y)) ∧ w = w' := by
  cases hx : (x != 0)
  · have hx0 : x = 0 := by simpa using hx
    subst hx0
    rw [show orI 0 y = y from rfl]
    cases hy : (y != 0)
    · have hy0 : y = 0 := by simpa using hy
      subst hy0
      go_enter Try.func35, Try.ntmps35
      go_wp2_with fail
      go_loop [5, 8] (fun _ i => i = .int .i64 0 ∨ i = .int .i64 1 ∨ i = .int .i64 2) (fun _ i => (2 - intOf i).toNat)
      case atStart => exact .inl rfl
      case round =>
        rcases hrel with rfl | rfl | rfl
        · go_wp2_with fail
          go_round
          case rel => exact .inr (.inl rfl)
          case measure => decide
        · go_wp2_with fail
          go_round
          case rel => exact .inr (.inr rfl)
          case measure => decide
        · go_wp2_with fail
          go_ret
          exact ⟨rfl, rfl⟩
    · go_enter Try.func35, Try.ntmps35
      go_wp2_with fail
      go_loop [5, 8] (fun _ i => i = .int .i64 0 ∨ i = .int .i64 1) (fun _ i => (2 - intOf i).toNat)
      case atStart => exact .inl rfl
      case round =>
        rcases hrel with rfl | rfl
        · go_wp2_with fail
          go_round
          case rel => exact .inr rfl
          case measure => decide
        · go_wp2_with fail
          go_ret
          exact ⟨rfl, rfl⟩
  · rw [show orI x y = x from if_neg (by simpa using hx)]
    go_enter Try.func35, Try.ntmps35
    go_wp2_with fail
    refine wp_loop_rounds 3 ?_
    simp only [rounds_succ]
    go_wp2_with fail
    go_ret
    exact ⟨rfl, rfl⟩
end Go.Proofs.Ytpchbdpepgeibaa
