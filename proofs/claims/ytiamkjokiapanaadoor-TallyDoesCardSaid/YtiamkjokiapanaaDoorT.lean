/- Contract of the law TallyDoes. -/
import Derived.BigGuardPart
import Derived.BigCall
import Derived.Test.YtiamkjokiapanaaDoorF
import Derived.Test.YtiamkjokiapanaaDoorS
namespace Go.Proofs.YtiamkjokiapanaaDoor
open Go.RowKit Go.Proofs.YtiamkjokiapanaaDoorW.PrintWords

theorem same_self (A B : Option Addr) (c d : Nat) (xs : List Int) (w : World) (hl : xs.length ≤ 1000) (hx : CI w A xs) (hy : CI w B xs) :
    Calls Tryd.prog 17 #[.slice A xs.length c, .slice B xs.length d] w fun e w' => e = .returned (.bool true) ∧ w.grownBy w' none := by
  have h := same_any A B c d xs xs w (by omega) (by omega) hx hy
  rwa [show decide (xs = xs) = true by simp] at h
theorem rreached_any (n : Int) (A : Option Addr) (c : Nat) (zs : List Int) (w : World) (hl : zs.length ≤ 1000) (hc : CI w A zs) :
    Calls Tryd.prog 23 #[.int .i64 n, .slice A zs.length c] w fun e w' => e = .returned (.int .i64 (reachN n zs)) ∧ ∃ k, w' = w.drewN k := by
  by_cases hn : 1 ≤ n ∧ n ≤ 7
  · exact rreached_in n A c zs w hn hl hc
  · exact rreached_out n A c zs w hn hl

set_option maxHeartbeats 20000000 in
theorem does_law (a one n v : Int) (A B : Option Addr) (c d : Nat) (xs ys : List Int) (w : World) (hl1 : xs.length ≤ 60) (hl2 : ys.length ≤ 60) (hx : CI w A xs) (hy : CI w B ys) (hcx : xs.length ≤ c) (hcy : ys.length ≤ d)
    (hT : TabAt 1 Lib.deBruijn64tab w) (hg : 1 < w.heap.size) :
    Calls Tryd.prog 3 #[.int .i64 a, .slice A xs.length c, .int .i64 one, .int .i64 n, .slice B ys.length d, .int .i64 v] w fun e w' => e = .returned (.bool true) ∧ w.grownBy w' none := by
  have HT := Lib.hid (fun W (g : w.grownBy W none) => counted_any W (tab_grow hT g hg) (Nat.lt_of_lt_of_le hg g.size))
  have HMB := Lib.hid (fun W (g : w.grownBy W none) => members_any a W (tab_grow hT g hg) (Nat.lt_of_lt_of_le hg g.size))
  have HOX := Lib.hid (own_any A c xs w hx (by omega) hcx)
  have HOY := Lib.hid (fun W (g : w.grownBy W none) => own_any B d ys W (hy.grow g) (by omega) hcy)
  have HAD := Lib.hid (fun W (g : w.grownBy W none) => add_any a A c xs W (by omega) (hx.grow g))
  have HRA := Lib.hid (fun A' c' W (h : CI W A' xs) (hc : xs.length ≤ c') => radd_any a A' c' xs W h (by omega) hc)
  have HRE := Lib.hid (fun W (g : w.grownBy W none) => reached_any n B d ys W (by omega) (hy.grow g))
  have HRR := Lib.hid (fun A' c' W (h : CI W A' ys) => rreached_any n A' c' ys W (by omega) h)
  have HSX := Lib.hid (fun A' c' W (g : w.grownBy W none) (h : CI W A' xs) => same_self A A' c c' xs W (by omega) (hx.grow g) h)
  have HSY := Lib.hid (fun A' c' W (g : w.grownBy W none) (h : CI W A' ys) => same_self B A' d c' ys W (by omega) (hy.grow g) h)
  have hml : (membN (rt a)).length ≤ 7 := by unfold membN; exact Nat.le_trans (List.length_filter_le _ _) (by decide)
  obtain ⟨m1, hm1⟩ : ∃ m, m = xs.length := ⟨_, rfl⟩
  obtain ⟨m2, hm2⟩ : ∃ m, m = ys.length := ⟨_, rfl⟩
  rw [← hm1] at HOX HAD HRA HSX hl1 hcx ⊢
  rw [← hm2] at HOY HRE HRR HSY hl2 hcy ⊢
  clear hx hy hT hg hm1 hm2
  go_enter Tryd.func3, Tryd.ntmps3
  go_wp2_with fail
  refine HOX.out.mono ?_
  rintro e w1 ⟨A1, c1, rfl, hci1, hc1, g1⟩
  have HC1 := Lib.hid hci1
  clear hci1
  go_wp2_with fail
  refine (HOY.out w1 g1).mono ?_
  rintro e w2 ⟨A2, c2, rfl, hci2, hc2, g2⟩
  have HC1 := Lib.hid (HC1.out.grow g2)
  have g2 := grow_trans g1 g2
  have HC2 := Lib.hid hci2
  clear hci2
  go_wp2_with fail
  refine (leader_any v n w2).mono ?_
  rintro e w3 ⟨rfl, rfl⟩
  go_wp2_with fail
  refine (rleader_any v n w2).mono ?_
  rintro e w3 ⟨rfl, k3, rfl⟩
  have HC1 := Lib.hid (HC1.out.grow (grow_drewN w2 k3))
  have HC2 := Lib.hid (HC2.out.grow (grow_drewN w2 k3))
  have g3 := grow_trans g2 (grow_drewN w2 k3)
  generalize w2.drewN k3 = w3 at *
  clear g2 g1
  go_wp2_with fail
  refine (HAD.out w3 g3).mono ?_
  rintro e w4 ⟨rfl, rfl⟩
  go_wp2_with fail
  refine (HRA.out _ _ _ HC1.out hc1).mono ?_
  rintro e w4 ⟨rfl, k4, rfl⟩
  have HC1 := Lib.hid (HC1.out.grow (grow_drewN w3 k4))
  have HC2 := Lib.hid (HC2.out.grow (grow_drewN w3 k4))
  have g4 := grow_trans g3 (grow_drewN w3 k4)
  generalize w3.drewN k4 = w4 at *
  clear g3
  go_wp2_with fail
  refine (has_any a one w4).mono ?_
  rintro e w5 ⟨rfl, rfl⟩
  go_wp2_with fail
  refine (rhas_any a one w4).mono ?_
  rintro e w5 ⟨rfl, k5, rfl⟩
  have HC1 := Lib.hid (HC1.out.grow (grow_drewN w4 k5))
  have HC2 := Lib.hid (HC2.out.grow (grow_drewN w4 k5))
  have g5 := grow_trans g4 (grow_drewN w4 k5)
  generalize w4.drewN k5 = w5 at *
  clear g4
  go_wp2_with fail
  refine (size_any a w5).mono ?_
  rintro e w6 ⟨rfl, rfl⟩
  go_wp2_with fail
  refine (rsize_any a w5).mono ?_
  rintro e w6 ⟨rfl, g6⟩
  have HC1 := Lib.hid (HC1.out.grow g6)
  have HC2 := Lib.hid (HC2.out.grow g6)
  have g6 := grow_trans g5 g6
  clear g5
  go_wp2_with fail
  refine (HMB.out w6 g6).mono ?_
  rintro e w7 ⟨v7, rfl, ho7, hb7⟩
  have g67 := grow_of_below hb7
  have HC1 := Lib.hid (HC1.out.grow g67)
  have HC2 := Lib.hid (HC2.out.grow g67)
  have g7 := grow_trans g6 g67
  obtain ⟨A7, c7, rfl, hci7⟩ := ci_of_own ho7 rfl
  have HC7 := Lib.hid hci7
  clear ho7 hb7 g67 g6 hci7
  go_wp2_with fail
  refine (rmembers_any a w7).mono ?_
  rintro e w8 ⟨v8, rfl, ho8, g78⟩
  have HC1 := Lib.hid (HC1.out.grow g78)
  have HC2 := Lib.hid (HC2.out.grow g78)
  have HC7 := Lib.hid (HC7.out.grow g78)
  have g8 := grow_trans g7 g78
  obtain ⟨A8, c8, rfl, hci8⟩ := ci_of_own ho8 rfl
  have HC8 := Lib.hid hci8
  clear ho8 g78 g7 hci8
  go_wp2_with fail
  refine (same_self A7 A8 c7 c8 (membN (rt a)) w8 (by omega) HC7.out HC8.out).mono ?_
  rintro e w9 ⟨rfl, g89⟩
  have HC1 := Lib.hid (HC1.out.grow g89)
  have HC2 := Lib.hid (HC2.out.grow g89)
  have g9 := grow_trans g8 g89
  clear g8 g89 HC7 HC8
  go_wp2_with fail
  refine (enough_any a n w9).mono ?_
  rintro e w10 ⟨rfl, k10, rfl⟩
  have HC1 := Lib.hid (HC1.out.grow (grow_drewN w9 k10))
  have HC2 := Lib.hid (HC2.out.grow (grow_drewN w9 k10))
  have g10 := grow_trans g9 (grow_drewN w9 k10)
  generalize w9.drewN k10 = w10 at *
  clear g9
  go_wp2_with fail
  refine (renough_any a n w10).mono ?_
  rintro e w11 ⟨rfl, k11, rfl⟩
  have HC1 := Lib.hid (HC1.out.grow (grow_drewN w10 k11))
  have HC2 := Lib.hid (HC2.out.grow (grow_drewN w10 k11))
  have g11 := grow_trans g10 (grow_drewN w10 k11)
  generalize w10.drewN k11 = w11 at *
  clear g10
  go_wp2_with fail
  refine (HRE.out w11 g11).mono ?_
  rintro e w12 ⟨rfl, g12⟩
  have HC1 := Lib.hid (HC1.out.grow g12)
  have HC2 := Lib.hid (HC2.out.grow g12)
  have g12 := grow_trans g11 g12
  clear g11
  go_wp2_with fail
  refine (HRR.out _ c2 _ HC2.out).mono ?_
  rintro e w13 ⟨rfl, k13, rfl⟩
  have HC1 := Lib.hid (HC1.out.grow (grow_drewN w12 k13))
  have HC2 := Lib.hid (HC2.out.grow (grow_drewN w12 k13))
  have g13 := grow_trans g12 (grow_drewN w12 k13)
  generalize w12.drewN k13 = w13 at *
  clear g12
  go_wp2_with fail
  refine (HT.out w13 g13).mono ?_
  rintro e w14 ⟨rfl, g14⟩
  have HC1 := Lib.hid (HC1.out.grow g14)
  have HC2 := Lib.hid (HC2.out.grow g14)
  have g14 := grow_trans g13 g14
  clear g13
  go_wp2_with fail
  refine (HSX.out A1 c1 w14 g14 HC1.out).mono ?_
  rintro e w15 ⟨rfl, g15⟩
  have HC2 := Lib.hid (HC2.out.grow g15)
  have g15 := grow_trans g14 g15
  clear g14
  go_wp2_with fail
  refine (HSY.out A2 c2 w15 g15 HC2.out).mono ?_
  rintro e w16 ⟨rfl, g16⟩
  have g16 := grow_trans g15 g16
  clear g15
  go_wp2_with fail
  go_ret
  exact ⟨rfl, g16⟩
end Go.Proofs.YtiamkjokiapanaaDoor
