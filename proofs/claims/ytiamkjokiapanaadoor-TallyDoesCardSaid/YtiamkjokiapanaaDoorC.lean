/- Contracts of the package tally's small functions: right, may, Has, Add, Size, most, Enough, Leader. -/
import Derived.Test.YtiamkjokiapanaaDoorV
import Derived.Test.YtiamkjokiapanaaDoorK2
namespace Go.Proofs.YtiamkjokiapanaaDoor
open Go.RowKit Go.Proofs.YtiamkjokiapanaaDoorW.PrintWords

theorem forall128 (p : Int → Prop) (h : ∀ n ∈ List.range 128, p (n : Nat)) : ∀ x : Int, 0 ≤ x → x ≤ 127 → p x := fun x h0 h1 => by
  have := h x.toNat (List.mem_range.2 (by omega))
  rwa [Int.toNat_of_nonneg h0] at this
theorem ret_int {k : IntKind} {a b : Int} (h : a = b) : Ending.returned (.int k a) = .returned (.int k b) := by rw [h]

theorem qsame {P : Program} {f : FuncId} {args : Array Value} {w : World} {n : Nat} {v : Value}
    (h : Calls P f args (w.drewN n) fun e w' => e = .returned v ∧ w.drewN n = w') : Calls P f args (w.drewN n) fun e w'' => e = .returned v ∧ ∃ m, w'' = w.drewN m :=
  h.mono fun _ _ ⟨he, hm⟩ => ⟨he, n, hm.symm⟩

theorem right_any (s : Int) (w : World) : Calls Tryd.prog 26 #[.int .i64 s] w fun e w' => e = .returned (.int .i64 (rt s)) ∧ w = w' := by
  have hc : s < 0 ∨ (0 ≤ s ∧ s ≤ 127) ∨ 127 < s := by omega
  rcases hc with h | ⟨h, h'⟩ | h
  · have e : ((rt s : Nat) : Int) = 0 := by unfold rt; rw [if_neg (by omega)]; rfl
    rw [e]; clear e
    go_enter Tryd.func26, Tryd.ntmps26
    go_wp2_with fail
    go_ret
    exact ⟨rfl, rfl⟩
  · have e : ((rt s : Nat) : Int) = s := by unfold rt; rw [if_pos (by omega)]; omega
    rw [e]; clear e
    go_enter Tryd.func26, Tryd.ntmps26
    go_wp2_with fail
    go_ret
    exact ⟨rfl, rfl⟩
  · have e : ((rt s : Nat) : Int) = 0 := by unfold rt; rw [if_neg (by omega)]; rfl
    have h0 : 0 ≤ s := by omega
    rw [e]; clear e
    go_enter Tryd.func26, Tryd.ntmps26
    go_wp2_with fail
    go_ret
    exact ⟨rfl, rfl⟩
def mayB (x : Int) : Bool := decide (0 ≤ x ∧ x < 7)
theorem may_any (x : Int) (w : World) : Calls Tryd.prog 27 #[.int .i64 x] w fun e w' => e = .returned (.bool (mayB x)) ∧ w = w' := by
  by_cases h : 0 ≤ x
  · go_enter Tryd.func27, Tryd.ntmps27
    go_wp2_with fail
    go_ret
    exact ⟨ret_bool (by simp [mayB, h]), rfl⟩
  · have e : mayB x = false := by simp [mayB]; omega
    rw [e]; clear e
    go_enter Tryd.func27, Tryd.ntmps27
    go_wp2_with fail
    go_ret
    exact ⟨rfl, rfl⟩

theorem bit_eq : ∀ n ∈ List.range 128, ∀ i ∈ List.range 7, ((bits BinOp.and IntKind.i64 ((n : Int) / 2 ^ i) 1 == 1) = Nat.testBit n i) := by decide +kernel
theorem has_any (s x : Int) (w : World) : Calls Tryd.prog 13 #[.int .i64 s, .int .i64 x] w fun e w' => e = .returned (.bool (hasN (rt s) x)) ∧ w = w' := by
  have hr := rt_lt s
  have HR := Lib.hid (fun W => right_any s W)
  by_cases h : mayB x = true
  · have hx : 0 ≤ x ∧ x < 7 := by simpa [mayB] using h
    have e : hasN (rt s) x = (bits BinOp.and IntKind.i64 (((rt s : Nat) : Int) / 2 ^ x.toNat) 1 == 1) := by
      have := bit_eq (rt s) (List.mem_range.2 hr) x.toNat (List.mem_range.2 (by omega))
      rw [this]
      simp [hasN, hx]
    rw [e]
    clear e
    generalize rt s = n at *
    have hn : (n : Int) ≤ 127 := by omega
    have hx0 : 0 ≤ x := hx.1
    have hx7 : x < 7 := hx.2
    clear hx
    go_enter Tryd.func13, Tryd.ntmps13
    go_wp2_with fail
    refine (may_any _ _).mono ?_
    rintro e w1 ⟨rfl, rfl⟩
    go_wp2_with fail
    refine (HR.out _).mono ?_
    rintro e w1 ⟨rfl, rfl⟩
    go_wp2_with fail
    go_ret
    exact ⟨rfl, rfl⟩
  · have h' : mayB x = false := by simpa using h
    have e : hasN (rt s) x = false := by
      have : ¬ (0 ≤ x ∧ x < 7) := by simpa [mayB] using h'
      simp [hasN, this]
    rw [e]
    clear e h
    go_enter Tryd.func13, Tryd.ntmps13
    go_wp2_with fail
    refine (may_any _ _).mono ?_
    rintro e w1 ⟨rfl, rfl⟩
    go_wp2_with fail
    go_ret
    exact ⟨rfl, rfl⟩

set_option maxHeartbeats 1000000 in
theorem ones64 (x : Int) (w : World) (h0 : 0 ≤ x) (h1 : x ≤ 127) : Calls Tryd.prog 35 #[.int .u64 x] w fun e w' => e = .returned (.int .i64 (sizeN x.toNat)) ∧ w = w' := by
  go_enter Tryd.func35, Tryd.ntmps35
  go_wp2_with fail
  go_ret
  refine ⟨ret_int ?_, rfl⟩
  revert x
  refine forall128 _ ?_
  decide +kernel
theorem ones_any (x : Int) (w : World) (h0 : 0 ≤ x) (h1 : x ≤ 127) : Calls Tryd.prog 29 #[.int .u64 x] w fun e w' => e = .returned (.int .i64 (sizeN x.toNat)) ∧ w = w' := by
  go_enter Tryd.func29, Tryd.ntmps29
  go_wp2_with fail
  refine (ones64 _ _ h0 h1).mono ?_
  rintro e w1 ⟨rfl, rfl⟩
  go_wp2_with fail
  go_ret
  exact ⟨rfl, rfl⟩
theorem size_any (s : Int) (w : World) : Calls Tryd.prog 15 #[.int .i64 s] w fun e w' => e = .returned (.int .i64 (sizeN (rt s))) ∧ w = w' := by
  have hr := rt_lt s
  have HR := Lib.hid (fun W => right_any s W)
  generalize rt s = n at *
  have hn : (n : Int) ≤ 127 := by omega
  have HO := Lib.hid (fun W => ones_any n W (by omega) hn)
  rw [Int.toNat_natCast] at HO
  go_enter Tryd.func15, Tryd.ntmps15
  go_wp2_with fail
  refine (HR.out _).mono ?_
  rintro e w1 ⟨rfl, rfl⟩
  go_wp2_with fail
  refine (HO.out _).mono ?_
  rintro e w1 ⟨rfl, rfl⟩
  go_wp2_with fail
  go_ret
  exact ⟨rfl, rfl⟩
end Go.Proofs.YtiamkjokiapanaaDoor
