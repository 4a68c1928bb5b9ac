/- SpotRow. -/
import Derived.Test.YtpchbdpepgeibaaDoorS
namespace Go.Proofs.YtpchbdpepgeibaaDoor
open Go.RowKit Go.Proofs.YtpchbdpepgeibaaDoorW.PrintWords Go.Lib

set_option maxRecDepth 100000 in
set_option maxHeartbeats 8000000 in
theorem row_any (bed : Int) (w : World) (h : GW w) :
    Calls Tryd.prog 7 #[.int .i64 bed] w fun e w' => e = .returned (.bool true) ∧ Below w.heap.size w w' := by
  have HS := Lib.hid (fun W (b : Below w.heap.size w W) => spots_any W (h.below b))
  by_cases h1 : bed < 1
  · have hd : decide (bed < 1) = true := by simp [h1]
    clear h h1
    go_enter Tryd.func7, Tryd.ntmps7
    go_wp2_with fail
    refine (HS.out _ (Below.refl _ _)).mono ?_
    rintro e w1 ⟨rfl, hb⟩
    go_wp2_with fail
    go_ret
    exact ⟨rfl, hb⟩
  · by_cases h2 : bed > 98
    · have hd : decide (bed < 1) = false := by simp; omega
      have hd2 : decide (98 < bed) = true := by simp; omega
      clear h
      go_enter Tryd.func7, Tryd.ntmps7
      go_wp2_with fail
      refine (HS.out _ (Below.refl _ _)).mono ?_
      rintro e w1 ⟨rfl, hb⟩
      go_wp2_with fail
      go_ret
      exact ⟨rfl, hb⟩
    · have hd : decide (bed < 1) = false := by simp; omega
      have hd2 : decide (98 < bed) = false := by simp; omega
      have b1 : 1 ≤ bed := by omega
      have b2 : bed ≤ 98 := by omega
      clear h h1 h2
      go_enter Tryd.func7, Tryd.ntmps7
      go_wp2_with fail
      go_loopw [3] (fun i wr => ∃ k : Nat, k ≤ 8 ∧ i = .int .i64 k ∧ Below w.heap.size w wr) (fun i _ => 8 - (intOf i).toNat)
      case atStart => exact ⟨0, by omega, rfl, Below.refl _ _⟩
      case round =>
        obtain ⟨k, hk, rfl, hb⟩ := hrel
        have HB := Lib.hid hb
        clear hb
        by_cases hlt : k < 8
        · have N1 := Lib.hid (fun W => num_any bed k W)
          have N2 := Lib.hid (fun W => num_any (bed + 1) k W)
          have N3 := Lib.hid (fun W => num_any bed 0 W)
          have L1 := Lib.hid (fun W => less_any bed 7 (bed + 1) k W)
          rw [show lessS bed 7 (bed + 1) k = true by simp [lessS]; omega] at L1
          rw [show numV bed k = (8 * (bed - 1) + k, 0) by unfold numV; rw [if_pos ((isS_iff _ _).2 (by omega))]] at N1
          rw [show numV (bed + 1) k = (8 * bed + k, 0) by unfold numV; rw [if_pos ((isS_iff _ _).2 (by omega))]; congr 1; omega] at N2
          rw [show numV bed 0 = (8 * (bed - 1), 0) by unfold numV; rw [if_pos ((isS_iff _ _).2 (by omega))]; congr 1; omega] at N3
          dsimp only at N1 N2 N3
          have w1 : IntKind.i64.wrap (8 * (bed - 1) + k) = 8 * (bed - 1) + k := by rw [IntKind.wrap_i64]; omega
          have w2 : IntKind.i64.wrap (8 * (bed - 1) + k + 8) = 8 * bed + k := by rw [IntKind.wrap_i64]; omega
          have w3 : IntKind.i64.wrap (bed + 1) = bed + 1 := by rw [IntKind.wrap_i64]; omega
          have hlt' : (k : Int) < 8 := by omega
          clear HS
          go_wp2_with fail
          refine (N1.out _).mono ?_
          rintro e w1 ⟨rfl, hb⟩
          have HB1 := Lib.hid (below_step HB.out hb)
          clear hb
          go_wp2_with fail
          refine (N2.out _).mono ?_
          rintro e w2 ⟨rfl, hb⟩
          have HB2 := Lib.hid (below_step HB1.out hb)
          clear hb
          go_wp2_with fail
          refine (N3.out _).mono ?_
          rintro e w3 ⟨rfl, hb⟩
          have HB3 := Lib.hid (below_step HB2.out hb)
          clear hb
          go_wp2_with fail
          refine (L1.out _).mono ?_
          rintro e w4 ⟨rfl, hb⟩
          have HB4 := Lib.hid (below_step HB3.out hb)
          clear hb
          go_wp2_with fail
          go_roundw
          case rel => exact ⟨k + 1, by omega, by go_num, HB4.out⟩
          case measure => simp [intOf]; omega
        · obtain rfl : k = 8 := by omega
          go_wp2_with fail
          refine (HS.out _ HB.out).mono ?_
          rintro e w1 ⟨rfl, hb⟩
          have HB1 := Lib.hid (below_step HB.out hb)
          clear hb
          go_wp2_with fail
          go_ret
          exact ⟨rfl, HB1.out⟩
end Go.Proofs.YtpchbdpepgeibaaDoor
