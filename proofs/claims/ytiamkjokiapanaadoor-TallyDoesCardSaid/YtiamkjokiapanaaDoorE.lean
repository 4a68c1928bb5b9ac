/- Contract of tally.Reached. -/
import Derived.Test.YtiamkjokiapanaaDoorD
import Derived.Test.YtiamkjokiapanaaDoorR
namespace Go.Proofs.YtiamkjokiapanaaDoor
open Go.RowKit Go.Proofs.YtiamkjokiapanaaDoorW.PrintWords

set_option maxHeartbeats 1000000 in
theorem reached_any (n : Int) (A : Option Addr) (c : Nat) (zs : List Int) (w : World) (hl : zs.length ≤ 1000) (hc : CI w A zs) :
    Calls Tryd.prog 22 #[.int .i64 n, .slice A zs.length c] w fun e w' => e = .returned (.int .i64 (reachN n zs)) ∧ w.grownBy w' none := by
  obtain ⟨m, hm⟩ : ∃ m, m = zs.length := ⟨_, rfl⟩
  have hm1 : m ≤ 1000 := by omega
  by_cases h : mostB n = true
  · obtain ⟨hmv, hn1, hn7⟩ := most_val n h
    by_cases hlt : (zs.length : Int) < n / 2 + 1
    · have e1 : reachN n zs = 0 := by unfold reachN; rw [if_neg (by omega)]
      rw [e1, ← hm]
      have hlt' : (m : Int) < n / 2 + 1 := by omega
      have HN := Lib.hid hmv
      clear e1 hm hmv hlt
      go_enter Tryd.func22, Tryd.ntmps22
      go_wp2_with fail
      refine (most_any _ _).mono ?_
      rintro e w1 ⟨rfl, rfl⟩
      rw [HN.out]
      go_wp2_with fail
      go_ret
      exact ⟨rfl, .refl _ _⟩
    · have e1 : reachN n zs = max ((srt zs).getD (zs.length - (n / 2 + 1).toNat) 0) 0 := by unfold reachN srt; rw [if_pos (by omega)]
      have HC := Lib.hid (fun W (h : CI W A zs) => clone_ci A c zs W h (by omega) (by omega))
      have HS := Lib.hid (fun g cap W base (h : W.ownsRow base 3 1 (.slice (some ⟨g, 0, none⟩) zs.length cap) zs.length (ints zs)) => sort_q base g cap zs.length zs W h rfl (by omega))
      obtain ⟨t, ht⟩ : ∃ t : Nat, t = m - (n / 2 + 1).toNat := ⟨_, rfl⟩
      obtain ⟨x, hx⟩ : ∃ x, x = (srt zs).getD t 0 := ⟨_, rfl⟩
      rw [e1]
      rw [← hm] at HC HS ⊢
      rw [← ht, ← hx]
      have htm : t < m := by omega
      have hti : (m : Int) - (n / 2 + 1) = (t : Int) := by omega
      have HX := Lib.hid hx
      have hge : n / 2 + 1 ≤ (m : Int) := by omega
      have HM := Lib.hid hm
      have HN := Lib.hid hmv
      have H0 := Lib.hid hc
      have HT := Lib.hid hti
      clear e1 hm hmv hlt hc ht hx hti
      go_enter Tryd.func22, Tryd.ntmps22
      go_wp2_with fail
      refine (most_any _ _).mono ?_
      rintro e w1 ⟨rfl, rfl⟩
      rw [HN.out]
      go_wp2_with fail
      refine (HC.out _ H0.out).mono ?_
      rintro e w1 ⟨g, cap, rfl, ho, hg⟩
      go_wp2_with fail
      refine (HS.out g cap w1 w.heap.size ho).mono ?_
      rintro e w2 ⟨rfl, ho2, hg2⟩
      have hge2 := own_base ho g rfl
      have hg3 := grow_then hg hg2 (fun k hk => by cases hk; exact hge2)
      have hci := ci_of_q (q_of_own ho2)
      obtain ⟨b, off, hA, _, hcell⟩ := hci t (by rw [List.length_mergeSort, ← HM.out]; exact htm)
      cases hA
      rw [Nat.zero_add] at hcell
      have hcell' : w2.cell? ⟨g, t, none⟩ = some (.int .i64 x) := by rw [HX.out]; exact hcell
      have HG := Lib.hid hg3
      clear hcell hci ho ho2 hg hg2 hg3
      have hti := HT.out
      go_wp2_with fail
      go_ret
      exact ⟨rfl, HG.out⟩
  · have h' : mostB n = false := by simpa using h
    have hn : ¬ (1 ≤ n ∧ n ≤ 7) := by simpa [mostB] using h'
    have e1 : reachN n zs = 0 := by unfold reachN; rw [if_neg (by omega)]
    rw [e1, ← hm]
    clear e1 hn h hm
    go_enter Tryd.func22, Tryd.ntmps22
    go_wp2_with fail
    refine (most_any _ _).mono ?_
    rintro e w1 ⟨rfl, rfl⟩
    go_wp2_with fail
    go_ret
    exact ⟨rfl, .refl _ _⟩
end Go.Proofs.YtiamkjokiapanaaDoor
