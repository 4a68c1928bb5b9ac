/- Contract of the law TallyAdds. -/
import Derived.BigGuardPart
import Derived.BigCall
import Derived.Test.YtiamkjokiapanaaDoorF
namespace Go.Proofs.YtiamkjokiapanaaDoor
open Go.RowKit Go.Proofs.YtiamkjokiapanaaDoorW.PrintWords

theorem adds_drop (s : Nat) (l : List Int) (k : Nat) (h : k < l.length) : addsN (addsN s (l.drop (k + 1))) [l.getD k 0] = addsN s (l.drop k) := by
  rw [← adds_append]
  apply adds_perm
  intro i
  rw [List.contains_append, List.drop_eq_getElem_cons h, List.getD_eq_getElem?_getD, List.getElem?_eq_getElem h, List.contains_cons, List.contains_cons, List.contains_nil, Bool.or_false, Bool.or_comm]
  rfl
theorem cont_drop (l : List Int) (one : Int) (k : Nat) (h : k < l.length) : (l.drop k).contains one = ((l.drop (k + 1)).contains one || (l.getD k 0 == one)) := by
  rw [List.drop_eq_getElem_cons h, List.getD_eq_getElem?_getD, List.getElem?_eq_getElem h, List.contains_cons, Bool.or_comm]
  simp [Bool.beq_comm]
theorem memb_len' (s : Nat) : (membN s).length ≤ 7 := by unfold membN; exact Nat.le_trans (List.length_filter_le _ _) (by decide)

set_option maxHeartbeats 20000000 in
theorem adds_law (a one : Int) (A : Option Addr) (c : Nat) (zs : List Int) (w : World) (hl : zs.length ≤ 60) (hc : CI w A zs) (hT : TabAt 1 Lib.deBruijn64tab w) (hg : 1 < w.heap.size) :
    Calls Tryd.prog 4 #[.int .i64 a, .slice A zs.length c, .int .i64 one] w fun e w' => e = .returned (.bool true) ∧ w.grownBy w' none := by
  obtain ⟨m, hm⟩ : ∃ m, m = zs.length := ⟨_, rfl⟩
  have hs := addsN_lt zs (rt a) (rt_lt a)
  have HT := Lib.hid (fun W (g : w.grownBy W none) => counted_any W (tab_grow hT g hg) (Nat.lt_of_lt_of_le hg g.size))
  have HAS := Lib.hid (add_any a A c zs w (by omega) hc)
  have HAI := Lib.hid (fun W (g : w.grownBy W none) => add_any ((addsN (rt a) zs : Nat) : Int) A c zs W (by omega) (hc.grow g))
  have HMS := Lib.hid (fun W (g : w.grownBy W none) => members_any ((addsN (rt a) zs : Nat) : Int) W (tab_grow hT g hg) (Nat.lt_of_lt_of_le hg g.size))
  have HA0 := Lib.hid (fun A c W h => add_any 0 A c (membN (addsN (rt a) zs)) W (by have := memb_len' (addsN (rt a) zs); omega) h)
  have HSZ := Lib.hid (fun W => size_any ((addsN (rt a) zs : Nat) : Int) W)
  have HSO := Lib.hid (fun W => has_any ((addsN (rt a) zs : Nat) : Int) one W)
  have HAO := Lib.hid (fun W => has_any a one W)
  have HML := Lib.hid (memb_size _ hs)
  have hms := memb_len' (addsN (rt a) zs)
  rw [memb_size _ hs] at hms
  have HHS := has_adds (rt a) zs one
  simp only [rt_of _ hs, adds_idem, show rt 0 = 0 from rfl, memb_adds _ hs] at HAI HMS HA0 HSZ HSO
  have HC := Lib.hid hc
  have HL := Lib.hid (fun k (h : k < zs.length) => And.intro (adds_drop (rt a) zs k h) (cont_drop zs one k h))
  have HP := Lib.hid (fun l => addsN_lt l (rt a) (rt_lt a))
  have h127 : ((addsN (rt a) zs : Nat) : Int) ≤ 127 := by omega
  have HS0 := Lib.hid (rfl : addsN (rt a) zs = addsN (rt a) zs)
  have HR := Lib.hid (show zs.drop zs.length = [] by simp)
  have HA1 := Lib.hid (fun x t A c W (h : CI W A [x]) => add_any t A c [x] W (by simp) h)
  rw [← hm] at HAS HAI HL HR ⊢
  have hl' : m ≤ 60 := by omega
  have HM := Lib.hid hm
  clear hc hT hg hs hl hm
  obtain ⟨q, hq⟩ : ∃ q, q = rt a := ⟨_, rfl⟩
  have HQ := Lib.hid hq
  rw [← hq] at HAS HAI HMS HA0 HSZ HSO HAO HML HHS HL HP HS0 hms h127
  clear hq
  obtain ⟨S, hS⟩ : ∃ S, S = addsN q zs := ⟨_, rfl⟩
  rw [← hS] at HAS HAI HMS HA0 HSZ HSO HML HHS h127 hms
  have HSS := Lib.hid hS
  clear hS HS0
  go_enter Tryd.func4, Tryd.ntmps4
  go_wp2_with fail
  refine HAS.out.mono ?_
  rintro e w1 ⟨rfl, rfl⟩
  go_wp2_with fail
  go_loopw [8, 9, 10] (fun v t i wr => ∃ (k : Nat) (tv : Int), k ≤ m ∧ i = .int .i64 ((k : Int) - 1) ∧ v = .bool ((zs.drop k).contains one) ∧ t = .int .i64 tv ∧ rt tv = addsN q (zs.drop k) ∧ (k < m → tv = ((addsN q (zs.drop k) : Nat) : Int)) ∧ w.grownBy wr none) (fun _ _ i _ => (intOf i + 1).toNat)
  case atStart => exact ⟨m, a, Nat.le_refl _, rfl, by rw [HR.out]; rfl, rfl, by rw [HR.out, ← HQ.out]; rfl, fun h => absurd h (Nat.lt_irrefl _), .refl _ _⟩
  case round =>
    obtain ⟨k, tv, hk, rfl, rfl, rfl, hrt, htv, g0⟩ := hrel
    cases k with
    | succ k =>
      have hkm : k < m := hk
      obtain ⟨b, off, hA, hbs, hcell⟩ := (HC.out.grow g0) k (by rw [← HM.out]; exact hkm)
      subst hA
      obtain ⟨h1, h2⟩ := HL.out k hkm
      have H1 := Lib.hid h1
      have H2 := Lib.hid h2
      generalize zs.getD k 0 = x at *
      have HRT := Lib.hid hrt
      have HG := Lib.hid g0
      have e1 : ((k + 1 : Nat) : Int) - 1 = (k : Int) := by omega
      rw [e1]
      generalize (zs.drop (k + 1)).contains one = v at *
      clear hrt htv h1 h2 HT HAS HAI HMS HA0 HSZ HSO HAO HML HHS hms
      have HR2 := Lib.hid (show ∀ W : World, ∀ t' A' c', CI W A' [x] → Calls Tryd.prog 11 #[.int .i64 t', .slice A' 1 c'] W fun e w' => e = .returned (.int .i64 (addsN (rt t') [x])) ∧ W = w' from fun W t' A' c' h => HA1.out x t' A' c' W h)
      by_cases hx : x = one
      · have hb : (x == one) = true := by simp [hx]
        rw [hb] at H2
        clear hb
        subst hx
        cases v
        · go_wp2_with fail
          have g1 := grow_trans HG.out (grow_alloc wr (.cells #[.int .i64 x] 3))
          refine (HR2.out _ tv _ 1 (ci_new wr [x] _ rfl)).mono ?_
          rintro e w2 ⟨rfl, rfl⟩
          rw [HRT.out, H1.out]
          go_wp2_with fail
          go_roundw
          case rel => exact ⟨k, _, by omega, by go_num, by rw [H2.out]; rfl, rfl, by rw [rt_of _ (HP.out _)], fun _ => rfl, g1⟩
          case measure => simp [intOf]
        · go_wp2_with fail
          have g1 := grow_trans HG.out (grow_alloc wr (.cells #[.int .i64 x] 3))
          refine (HR2.out _ tv _ 1 (ci_new wr [x] _ rfl)).mono ?_
          rintro e w2 ⟨rfl, rfl⟩
          rw [HRT.out, H1.out]
          go_wp2_with fail
          go_roundw
          case rel => exact ⟨k, _, by omega, by go_num, by rw [H2.out]; rfl, rfl, by rw [rt_of _ (HP.out _)], fun _ => rfl, g1⟩
          case measure => simp [intOf]
      · have hb : (x == one) = false := by simp [hx]
        rw [hb] at H2
        cases v
        · go_wp2_with fail
          have g1 := grow_trans HG.out (grow_alloc wr (.cells #[.int .i64 x] 3))
          refine (HR2.out _ tv _ 1 (ci_new wr [x] _ rfl)).mono ?_
          rintro e w2 ⟨rfl, rfl⟩
          rw [HRT.out, H1.out]
          go_wp2_with fail
          go_roundw
          case rel => exact ⟨k, _, by omega, by go_num, by rw [H2.out]; rfl, rfl, by rw [rt_of _ (HP.out _)], fun _ => rfl, g1⟩
          case measure => simp [intOf]
        · go_wp2_with fail
          have g1 := grow_trans HG.out (grow_alloc wr (.cells #[.int .i64 x] 3))
          refine (HR2.out _ tv _ 1 (ci_new wr [x] _ rfl)).mono ?_
          rintro e w2 ⟨rfl, rfl⟩
          rw [HRT.out, H1.out]
          go_wp2_with fail
          go_roundw
          case rel => exact ⟨k, _, by omega, by go_num, by rw [H2.out]; rfl, rfl, by rw [rt_of _ (HP.out _)], fun _ => rfl, g1⟩
          case measure => simp [intOf]
    | zero =>
      rw [List.drop_zero] at hrt htv ⊢
      have e1 : ((0 : Nat) : Int) - 1 = -1 := rfl
      rw [e1]
      have hfin : (m = 0 ∧ zs.contains one = false) ∨ (0 < m ∧ tv = (S : Int)) := by
        by_cases h : 0 < m
        · exact .inr ⟨h, by rw [htv h, HSS.out]⟩
        · have h0 : zs = [] := List.eq_nil_of_length_eq_zero (by rw [← HM.out]; omega)
          exact .inl ⟨by omega, by rw [h0]; rfl⟩
      clear hrt htv
      generalize hasN q one = ha at *
      generalize zs.contains one = inn at *
      have HHS := Lib.hid HHS
      clear HC HL HP HR HA1 HM HQ HSS HAS
      rcases hfin with ⟨rfl, rfl⟩ | ⟨hmp, rfl⟩
      · cases ha
        · have hh : hasN S one = false := by rw [HHS.out]; rfl
          rw [hh] at HSO
          clear hh
          go_wp2_with fail
          refine (HT.out _ g0).mono ?_
          rintro e w1 ⟨rfl, g1⟩
          have g2 := grow_trans g0 g1
          go_wp2_with fail
          refine (HSO.out _).mono ?_
          rintro e w2 ⟨rfl, rfl⟩
          go_wp2_with fail
          refine (HAO.out _).mono ?_
          rintro e w2 ⟨rfl, rfl⟩
          go_wp2_with fail
          refine (HAI.out _ g2).mono ?_
          rintro e w2 ⟨rfl, rfl⟩
          go_wp2_with fail
          refine (HMS.out _ g2).mono ?_
          rintro e w3 ⟨v3, rfl, ho3, hb3⟩
          have g3 := grow_trans g2 (grow_of_below hb3)
          obtain ⟨A3, c3, rfl, hci3⟩ := ci_of_own ho3 rfl
          have HCI3 := Lib.hid hci3
          clear ho3 hb3 hci3
          go_wp2_with fail
          refine (HA0.out _ _ _ HCI3.out).mono ?_
          rintro e w4 ⟨rfl, rfl⟩
          go_wp2_with fail
          refine (HSZ.out _).mono ?_
          rintro e w4 ⟨rfl, rfl⟩
          go_wp2_with fail
          refine (HMS.out _ g3).mono ?_
          rintro e w5 ⟨v5, rfl, ho5, hb5⟩
          have g5 := grow_trans g3 (grow_of_below hb5)
          obtain ⟨A5, c5, rfl, -⟩ := ci_of_own ho5 rfl
          clear ho5 hb5
          rw [HML.out]
          go_wp2_with fail
          go_ret
          exact ⟨rfl, g5⟩
        · have hh : hasN S one = true := by rw [HHS.out]; rfl
          rw [hh] at HSO
          clear hh
          go_wp2_with fail
          refine (HT.out _ g0).mono ?_
          rintro e w1 ⟨rfl, g1⟩
          have g2 := grow_trans g0 g1
          go_wp2_with fail
          refine (HSO.out _).mono ?_
          rintro e w2 ⟨rfl, rfl⟩
          go_wp2_with fail
          refine (HAO.out _).mono ?_
          rintro e w2 ⟨rfl, rfl⟩
          go_wp2_with fail
          refine (HAI.out _ g2).mono ?_
          rintro e w2 ⟨rfl, rfl⟩
          go_wp2_with fail
          refine (HMS.out _ g2).mono ?_
          rintro e w3 ⟨v3, rfl, ho3, hb3⟩
          have g3 := grow_trans g2 (grow_of_below hb3)
          obtain ⟨A3, c3, rfl, hci3⟩ := ci_of_own ho3 rfl
          have HCI3 := Lib.hid hci3
          clear ho3 hb3 hci3
          go_wp2_with fail
          refine (HA0.out _ _ _ HCI3.out).mono ?_
          rintro e w4 ⟨rfl, rfl⟩
          go_wp2_with fail
          refine (HSZ.out _).mono ?_
          rintro e w4 ⟨rfl, rfl⟩
          go_wp2_with fail
          refine (HMS.out _ g3).mono ?_
          rintro e w5 ⟨v5, rfl, ho5, hb5⟩
          have g5 := grow_trans g3 (grow_of_below hb5)
          obtain ⟨A5, c5, rfl, -⟩ := ci_of_own ho5 rfl
          clear ho5 hb5
          rw [HML.out]
          go_wp2_with fail
          go_ret
          exact ⟨rfl, g5⟩
      · have hmb : decide ((m : Int) = 0) = false := by simp; omega
        have hmb2 : ((m : Int) == 0) = false := by simp; omega
        have hmb3 : (m == 0) = false := by simp; omega
        have hmb4 : decide (m = 0) = false := by simp; omega
        cases ha
        · cases inn
          · have hh : hasN S one = false := by rw [HHS.out]; rfl
            rw [hh] at HSO
            clear hh
            go_wp2_with fail
            refine (HT.out _ g0).mono ?_
            rintro e w1 ⟨rfl, g1⟩
            have g2 := grow_trans g0 g1
            go_wp2_with fail
            refine (HSO.out _).mono ?_
            rintro e w2 ⟨rfl, rfl⟩
            go_wp2_with fail
            refine (HAO.out _).mono ?_
            rintro e w2 ⟨rfl, rfl⟩
            go_wp2_with fail
            refine (HAI.out _ g2).mono ?_
            rintro e w2 ⟨rfl, rfl⟩
            go_wp2_with fail
            refine (HMS.out _ g2).mono ?_
            rintro e w3 ⟨v3, rfl, ho3, hb3⟩
            have g3 := grow_trans g2 (grow_of_below hb3)
            obtain ⟨A3, c3, rfl, hci3⟩ := ci_of_own ho3 rfl
            have HCI3 := Lib.hid hci3
            clear ho3 hb3 hci3
            go_wp2_with fail
            refine (HA0.out _ _ _ HCI3.out).mono ?_
            rintro e w4 ⟨rfl, rfl⟩
            go_wp2_with fail
            refine (HSZ.out _).mono ?_
            rintro e w4 ⟨rfl, rfl⟩
            go_wp2_with fail
            refine (HMS.out _ g3).mono ?_
            rintro e w5 ⟨v5, rfl, ho5, hb5⟩
            have g5 := grow_trans g3 (grow_of_below hb5)
            obtain ⟨A5, c5, rfl, -⟩ := ci_of_own ho5 rfl
            clear ho5 hb5
            rw [HML.out]
            go_wp2_with fail
            go_ret
            exact ⟨rfl, g5⟩
          · by_cases h0 : 0 ≤ one
            · by_cases h6 : one ≤ 6
              · have hh : hasN S one = true := by rw [HHS.out]; simp; omega
                rw [hh] at HSO
                clear hh
                go_wp2_with fail
                refine (HT.out _ g0).mono ?_
                rintro e w1 ⟨rfl, g1⟩
                have g2 := grow_trans g0 g1
                go_wp2_with fail
                refine (HSO.out _).mono ?_
                rintro e w2 ⟨rfl, rfl⟩
                go_wp2_with fail
                refine (HAO.out _).mono ?_
                rintro e w2 ⟨rfl, rfl⟩
                go_wp2_with fail
                refine (HAI.out _ g2).mono ?_
                rintro e w2 ⟨rfl, rfl⟩
                go_wp2_with fail
                refine (HMS.out _ g2).mono ?_
                rintro e w3 ⟨v3, rfl, ho3, hb3⟩
                have g3 := grow_trans g2 (grow_of_below hb3)
                obtain ⟨A3, c3, rfl, hci3⟩ := ci_of_own ho3 rfl
                have HCI3 := Lib.hid hci3
                clear ho3 hb3 hci3
                go_wp2_with fail
                refine (HA0.out _ _ _ HCI3.out).mono ?_
                rintro e w4 ⟨rfl, rfl⟩
                go_wp2_with fail
                refine (HSZ.out _).mono ?_
                rintro e w4 ⟨rfl, rfl⟩
                go_wp2_with fail
                refine (HMS.out _ g3).mono ?_
                rintro e w5 ⟨v5, rfl, ho5, hb5⟩
                have g5 := grow_trans g3 (grow_of_below hb5)
                obtain ⟨A5, c5, rfl, -⟩ := ci_of_own ho5 rfl
                clear ho5 hb5
                rw [HML.out]
                go_wp2_with fail
                go_ret
                exact ⟨rfl, g5⟩
              · have hh : hasN S one = false := by rw [HHS.out]; simp; omega
                rw [hh] at HSO
                clear hh
                have h6' : 6 < one := by omega
                have hb6 : decide (one ≤ 6) = false := by simp; omega
                clear h6
                go_wp2_with fail
                refine (HT.out _ g0).mono ?_
                rintro e w1 ⟨rfl, g1⟩
                have g2 := grow_trans g0 g1
                go_wp2_with fail
                refine (HSO.out _).mono ?_
                rintro e w2 ⟨rfl, rfl⟩
                go_wp2_with fail
                refine (HAO.out _).mono ?_
                rintro e w2 ⟨rfl, rfl⟩
                go_wp2_with fail
                refine (HAI.out _ g2).mono ?_
                rintro e w2 ⟨rfl, rfl⟩
                go_wp2_with fail
                refine (HMS.out _ g2).mono ?_
                rintro e w3 ⟨v3, rfl, ho3, hb3⟩
                have g3 := grow_trans g2 (grow_of_below hb3)
                obtain ⟨A3, c3, rfl, hci3⟩ := ci_of_own ho3 rfl
                have HCI3 := Lib.hid hci3
                clear ho3 hb3 hci3
                go_wp2_with fail
                refine (HA0.out _ _ _ HCI3.out).mono ?_
                rintro e w4 ⟨rfl, rfl⟩
                go_wp2_with fail
                refine (HSZ.out _).mono ?_
                rintro e w4 ⟨rfl, rfl⟩
                go_wp2_with fail
                refine (HMS.out _ g3).mono ?_
                rintro e w5 ⟨v5, rfl, ho5, hb5⟩
                have g5 := grow_trans g3 (grow_of_below hb5)
                obtain ⟨A5, c5, rfl, -⟩ := ci_of_own ho5 rfl
                clear ho5 hb5
                rw [HML.out]
                go_wp2_with fail
                go_ret
                exact ⟨rfl, g5⟩
            · have hh : hasN S one = false := by rw [HHS.out]; simp; omega
              rw [hh] at HSO
              clear hh
              have h0' : one < 0 := by omega
              have hb0 : decide (0 ≤ one) = false := by simp; omega
              clear h0
              go_wp2_with fail
              refine (HT.out _ g0).mono ?_
              rintro e w1 ⟨rfl, g1⟩
              have g2 := grow_trans g0 g1
              go_wp2_with fail
              refine (HSO.out _).mono ?_
              rintro e w2 ⟨rfl, rfl⟩
              go_wp2_with fail
              refine (HAO.out _).mono ?_
              rintro e w2 ⟨rfl, rfl⟩
              go_wp2_with fail
              refine (HAI.out _ g2).mono ?_
              rintro e w2 ⟨rfl, rfl⟩
              go_wp2_with fail
              refine (HMS.out _ g2).mono ?_
              rintro e w3 ⟨v3, rfl, ho3, hb3⟩
              have g3 := grow_trans g2 (grow_of_below hb3)
              obtain ⟨A3, c3, rfl, hci3⟩ := ci_of_own ho3 rfl
              have HCI3 := Lib.hid hci3
              clear ho3 hb3 hci3
              go_wp2_with fail
              refine (HA0.out _ _ _ HCI3.out).mono ?_
              rintro e w4 ⟨rfl, rfl⟩
              go_wp2_with fail
              refine (HSZ.out _).mono ?_
              rintro e w4 ⟨rfl, rfl⟩
              go_wp2_with fail
              refine (HMS.out _ g3).mono ?_
              rintro e w5 ⟨v5, rfl, ho5, hb5⟩
              have g5 := grow_trans g3 (grow_of_below hb5)
              obtain ⟨A5, c5, rfl, -⟩ := ci_of_own ho5 rfl
              clear ho5 hb5
              rw [HML.out]
              go_wp2_with fail
              go_ret
              exact ⟨rfl, g5⟩
        · have hh : hasN S one = true := by rw [HHS.out]; rfl
          rw [hh] at HSO
          clear hh
          go_wp2_with fail
          refine (HT.out _ g0).mono ?_
          rintro e w1 ⟨rfl, g1⟩
          have g2 := grow_trans g0 g1
          go_wp2_with fail
          refine (HSO.out _).mono ?_
          rintro e w2 ⟨rfl, rfl⟩
          go_wp2_with fail
          refine (HAO.out _).mono ?_
          rintro e w2 ⟨rfl, rfl⟩
          go_wp2_with fail
          refine (HAI.out _ g2).mono ?_
          rintro e w2 ⟨rfl, rfl⟩
          go_wp2_with fail
          refine (HMS.out _ g2).mono ?_
          rintro e w3 ⟨v3, rfl, ho3, hb3⟩
          have g3 := grow_trans g2 (grow_of_below hb3)
          obtain ⟨A3, c3, rfl, hci3⟩ := ci_of_own ho3 rfl
          have HCI3 := Lib.hid hci3
          clear ho3 hb3 hci3
          go_wp2_with fail
          refine (HA0.out _ _ _ HCI3.out).mono ?_
          rintro e w4 ⟨rfl, rfl⟩
          go_wp2_with fail
          refine (HSZ.out _).mono ?_
          rintro e w4 ⟨rfl, rfl⟩
          go_wp2_with fail
          refine (HMS.out _ g3).mono ?_
          rintro e w5 ⟨v5, rfl, ho5, hb5⟩
          have g5 := grow_trans g3 (grow_of_below hb5)
          obtain ⟨A5, c5, rfl, -⟩ := ci_of_own ho5 rfl
          clear ho5 hb5
          rw [HML.out]
          go_wp2_with fail
          go_ret
          exact ⟨rfl, g5⟩
end Go.Proofs.YtiamkjokiapanaaDoor
