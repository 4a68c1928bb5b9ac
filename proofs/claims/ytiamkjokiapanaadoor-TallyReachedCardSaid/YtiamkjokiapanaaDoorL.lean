/- Contract of the law TallyReached. -/
import Derived.Test.YtiamkjokiapanaaDoorF
import Derived.Test.YtiamkjokiapanaaDoorR
namespace Go.Proofs.YtiamkjokiapanaaDoor
open Go.RowKit Go.Proofs.YtiamkjokiapanaaDoorW.PrintWords

theorem cnt_take (l : List Int) (v : Int) (k : Nat) (h : k < l.length) : cntGe (l.take (k + 1)) v = cntGe (l.take k) v + (if v ≤ l.getD k 0 then 1 else 0) := by
  unfold cntGe
  rw [take_succ l k h, List.countP_append, List.countP_singleton]
  simp only [decide_eq_true_eq]
theorem cnt_le (l : List Int) (v : Int) (k : Nat) : cntGe (l.take k) v ≤ k := by
  unfold cntGe
  exact Nat.le_trans List.countP_le_length (by simp; omega)
theorem cnt_grown (l : List Int) (x v : Int) : cntGe l v ≤ cntGe (l ++ [x]) v := by
  unfold cntGe
  rw [List.countP_append]; omega
theorem cnt_set : ∀ (l : List Int) (i : Nat) (x v : Int), i < l.length → l.getD i 0 ≤ x → cntGe l v ≤ cntGe (l.set i x) v
  | [], _, _, _, h, _ => by simp at h
  | a :: l, 0, x, v, _, h => by
    simp only [List.getD_cons_zero] at h
    simp only [List.set_cons_zero, cntGe, List.countP_cons, decide_eq_true_eq]
    split <;> split <;> omega
  | a :: l, i + 1, x, v, hi, h => by
    have := cnt_set l i x v (by simpa using hi) (by simpa using h)
    simp only [List.set_cons_succ, cntGe, List.countP_cons] at this ⊢
    omega
theorem reach_out (n : Int) (l : List Int) (h : ¬ (1 ≤ n ∧ n ≤ 7)) : reachN n l = 0 := by unfold reachN; rw [if_neg (by omega)]
theorem reach_nneg (n : Int) (l : List Int) : 0 ≤ reachN n l := by unfold reachN; split <;> omega

set_option maxHeartbeats 8000000 in
theorem reached_out (n at' more : Int) (A : Option Addr) (c : Nat) (zs : List Int) (w : World) (hn : ¬ (1 ≤ n ∧ n ≤ 7)) (hl : zs.length ≤ 60) (hc : CI w A zs) (hT : TabAt 1 Lib.deBruijn64tab w) (hg : 1 < w.heap.size) :
    Calls Tryd.prog 6 #[.int .i64 n, .slice A zs.length c, .int .i64 at', .int .i64 more] w fun e w' => e = .returned (.bool true) ∧ w.grownBy w' none := by
  have HT := Lib.hid (fun W (g : w.grownBy W none) => counted_any W (tab_grow hT g hg) (Nat.lt_of_lt_of_le hg g.size))
  have HR := Lib.hid (reached_any n A c zs w (by omega) hc)
  rw [reach_out n zs hn] at HR
  obtain ⟨m, hm⟩ : ∃ m, m = zs.length := ⟨_, rfl⟩
  rw [← hm] at HR hl ⊢
  clear hc hT hg hm
  by_cases h1 : n < 1
  · clear hn
    go_enter Tryd.func6, Tryd.ntmps6
    go_wp2_with fail
    refine HR.out.mono ?_
    rintro e w1 ⟨rfl, g1⟩
    go_wp2_with fail
    refine (HT.out _ g1).mono ?_
    rintro e w2 ⟨rfl, g2⟩
    go_wp2_with fail
    go_ret
    exact ⟨rfl, grow_trans g1 g2⟩
  · have h7 : 7 < n := by omega
    clear hn
    go_enter Tryd.func6, Tryd.ntmps6
    go_wp2_with fail
    refine HR.out.mono ?_
    rintro e w1 ⟨rfl, g1⟩
    go_wp2_with fail
    refine (HT.out _ g1).mono ?_
    rintro e w2 ⟨rfl, g2⟩
    go_wp2_with fail
    go_ret
    exact ⟨rfl, grow_trans g1 g2⟩

set_option maxHeartbeats 20000000 in
theorem reached_in (n at' more : Int) (A : Option Addr) (c : Nat) (zs : List Int) (w : World) (hn : 1 ≤ n ∧ n ≤ 7) (hl : zs.length ≤ 60) (hc : CI w A zs) (hT : TabAt 1 Lib.deBruijn64tab w) (hg : 1 < w.heap.size) :
    Calls Tryd.prog 6 #[.int .i64 n, .slice A zs.length c, .int .i64 at', .int .i64 more] w fun e w' => e = .returned (.bool true) ∧ w.grownBy w' none := by
  have HT := Lib.hid (fun W (g : w.grownBy W none) => counted_any W (tab_grow hT g hg) (Nat.lt_of_lt_of_le hg g.size))
  have HR := Lib.hid (reached_any n A c zs w (by omega) hc)
  have HRG := Lib.hid (fun A c W h => reached_any n A c (zs ++ [more]) W (by simp; omega) h)
  have HRS := Lib.hid (fun i A c W h => reached_any n A c (zs.set i more) W (by simp; omega) h)
  have hc0 := reach_nneg n zs
  have HMO := Lib.hid (fun h => reach_most n zs hn h)
  have HNO := Lib.hid (reach_not n zs hn)
  have HGR := Lib.hid (reach_mono n zs (zs ++ [more]) hn (cnt_grown zs more))
  have HSE := Lib.hid (fun i h1 h2 => reach_mono n zs (zs.set i more) hn (fun v => cnt_set zs i more v h1 h2))
  have HAP := Lib.hid (fun W (g : w.grownBy W none) v (ho : W.ownsRow w.heap.size 3 1 v 0 (ints [])) => append_ci W w.heap.size v [] ho A c zs (hc.grow g) (by simp; omega) g.size)
  have hmN : (mostN n : Int) = n / 2 + 1 := by unfold mostN; omega
  have HC := Lib.hid hc
  obtain ⟨m, hm⟩ : ∃ m, m = zs.length := ⟨_, rfl⟩
  rw [← hm] at HR HAP hl ⊢
  have HM := Lib.hid hm
  obtain ⟨hn1, hn7⟩ := hn
  clear hc hT hg hm
  generalize reachN n zs = c0 at *
  generalize mostN n = mn at *
  go_enter Tryd.func6, Tryd.ntmps6
  go_wp2_with fail
  refine HR.out.mono ?_
  rintro e w1 ⟨rfl, g1⟩
  go_wp2_with fail
  go_loopw [10, 11, 12] (fun v u i wr => ∃ k : Nat, k ≤ m ∧ i = .int .i64 k ∧ v = .int .i64 (cntGe (zs.take k) c0) ∧ u = .int .i64 (cntGe (zs.take k) (c0 + 1)) ∧ wr = w1) (fun _ _ i _ => m - (intOf i).toNat)
  case atStart => exact ⟨0, Nat.zero_le _, rfl, rfl, rfl, rfl⟩
  case round =>
    obtain ⟨k, hk, rfl, rfl, rfl, rfl⟩ := hrel
    have hb1 := cnt_le zs c0 k
    have hb2 := cnt_le zs (c0 + 1) k
    by_cases hlt : k < m
    · obtain ⟨b, off, hA, hbs, hcell⟩ := (HC.out.grow g1) k (by rw [← HM.out]; exact hlt)
      subst hA
      have HT1 := Lib.hid (cnt_take zs c0 k (by rw [← HM.out]; exact hlt))
      have HT2 := Lib.hid (cnt_take zs (c0 + 1) k (by rw [← HM.out]; exact hlt))
      generalize zs.getD k 0 = x at *
      generalize cntGe (zs.take k) c0 = u1 at *
      generalize cntGe (zs.take k) (c0 + 1) = u2 at *
      clear HC HAP HR HRG HRS HMO HNO HGR HSE HT
      by_cases x1 : c0 ≤ x
      · by_cases x2 : c0 < x
        · go_wp2_with fail
          go_roundw
          case rel => exact ⟨k + 1, by omega, by go_num, by rw [HT1.out, if_pos x1]; go_num, by rw [HT2.out, if_pos (by omega)]; go_num, trivial⟩
          case measure => simp [intOf]; omega
        · go_wp2_with fail
          go_roundw
          case rel => exact ⟨k + 1, by omega, by go_num, by rw [HT1.out, if_pos x1]; go_num, by rw [HT2.out, if_neg (by omega)]; rfl, trivial⟩
          case measure => simp [intOf]; omega
      · have x3 : x < c0 := by omega
        go_wp2_with fail
        go_roundw
        case rel => exact ⟨k + 1, by omega, by go_num, by rw [HT1.out, if_neg x1]; rfl, by rw [HT2.out, if_neg (by omega)]; rfl, trivial⟩
        case measure => simp [intOf]; omega
    · have e : zs.take k = zs := List.take_of_length_le (by rw [← HM.out]; omega)
      rw [e] at hb1 hb2 ⊢
      have hmo := fun h => HMO.out h
      have hno := HNO.out
      generalize cntGe zs c0 = u1 at *
      generalize cntGe zs (c0 + 1) = u2 at *
      have hno' : (u2 : Int) < n / 2 + 1 := by omega
      have hmo' : c0 = 0 ∨ (0 < c0 ∧ n / 2 + 1 ≤ (u1 : Int)) := by
        by_cases h : 0 < c0
        · have := hmo h; omega
        · omega
      clear hmo hno HMO HNO hmN
      have hAP := HAP.out wr g1 (.slice none 0 0) (World.ownsRow_nil _ _ _ _)
      obtain ⟨v2, w2, hr2, ho2, hg2⟩ := hAP
      have hg02 := grow_trans g1 hg2
      have hA3 := grow_alloc w2 (.cells #[.int .i64 more] 3)
      obtain ⟨v3, w3, hr3, ho3, hg3⟩ := append_ci (w2.alloc (.cells #[.int .i64 more] 3)) w.heap.size v2 ([] ++ zs) (own_none ho2 hA3) (some ⟨w2.heap.size, 0, none⟩) 1 [more] (ci_new w2 [more] _ rfl) (by have := HM.out; simp; omega) (grow_trans hg02 hA3).size
      have hr3' : (Builtin.append_ #[22, 22] 22 #[v2, .slice (some ⟨w2.heap.size, 0, none⟩) 1 1]).run Tryd.prog (w2.alloc (.cells #[.int .i64 more] 3)) = .ok v3 w3 := hr3
      have hg03 := grow_then (grow_trans hg02 hA3) hg3 (fun k hk => own_base (own_none ho2 hA3) k hk)
      have ho3' : w3.ownsRow w.heap.size 3 1 v3 (zs ++ [more]).length (ints (zs ++ [more])) := ho3
      obtain ⟨A3, c3, rfl, hci3⟩ := ci_of_own ho3' rfl
      have e3 : (zs ++ [more]).length = m + 1 := by rw [List.length_append, ← HM.out]; rfl
      have HRR := Lib.hid (HRG.out A3 c3 w3 hci3)
      rw [e3] at HRR hr3'
      have hle := HGR.out
      generalize reachN n (zs ++ [more]) = c1 at *
      have HG3 := Lib.hid hg03
      clear hr3 ho3 ho3' hg3 hA3 hg02 hg2 ho2 HRG HGR hci3 hg03
      have HMk := Lib.hid (fun (k : Nat) (h : k < m) (W : World) (g : w.grownBy W none) => (HC.out.grow g) k (by rw [← HM.out]; exact h))
      have HSEk := Lib.hid (fun (k : Nat) (h : k < m) (hx : zs.getD k 0 ≤ more) => HSE.out k (by rw [← HM.out]; exact h) hx)
      have HRSk := Lib.hid (fun (k : Nat) A c W h => (show Calls Tryd.prog 22 #[.int .i64 n, .slice A m c] W fun e w' => e = .returned (.int .i64 (reachN n (zs.set k more))) ∧ W.grownBy w' none from by
        have := HRS.out k A c W h
        rwa [List.length_set, ← HM.out] at this))
      have e0 : ([] ++ zs).length = m := HM.out.symm
      clear HSE HRS HC HR
      rcases hmo' with rfl | ⟨hz, hq⟩
      · go_wp2_with (first | (refine wpList_append_run (d := some 76) (.slice none 0 0) (.slice A m c) (by rfl) (by rfl) hr2 ?_) | (refine wpList_append_run (d := some 80) v2 (.slice (some ⟨w2.heap.size, 0, none⟩) 1 1) (by rfl) (by rfl) hr3' ?_))
        refine HRR.out.mono ?_
        rintro e w4 ⟨rfl, g4⟩
        have GG := Lib.hid (grow_trans HG3.out g4)
        clear hr2 hr3' g4 g1 HG3 HRR
        by_cases ha1 : at' < 0
        · go_wp2_with fail
          refine (HT.out _ GG.out).mono ?_
          rintro e w5 ⟨rfl, g5⟩
          go_wp2_with fail
          go_ret
          exact ⟨rfl, grow_trans GG.out g5⟩
        have ha1' : 0 ≤ at' := by omega
        clear ha1
        by_cases ha2 : (m : Int) ≤ at'
        · go_wp2_with fail
          refine (HT.out _ GG.out).mono ?_
          rintro e w5 ⟨rfl, g5⟩
          go_wp2_with fail
          go_ret
          exact ⟨rfl, grow_trans GG.out g5⟩
        obtain ⟨q, rfl⟩ := Int.eq_ofNat_of_zero_le ha1'
        have hqm : q < m := by omega
        have ha2' : (q : Int) < (m : Int) := by omega
        clear ha2 ha1'
        obtain ⟨b, off, hA, hbs, hcell⟩ := HMk.out q hqm w4 GG.out
        subst hA
        have HS2 := Lib.hid (HSEk.out q hqm)
        generalize zs.getD q 0 = x at *
        by_cases hx : more < x
        · go_wp2_with fail
          refine (HT.out _ GG.out).mono ?_
          rintro e w5 ⟨rfl, g5⟩
          go_wp2_with fail
          go_ret
          exact ⟨rfl, grow_trans GG.out g5⟩
        have hx' : x ≤ more := by omega
        have hse := HS2.out hx'
        have HR5 := Lib.hid (HRSk.out q)
        generalize reachN n (zs.set q more) = c2 at *
        obtain ⟨v5, w5, hr5, ho5, hg5⟩ := HAP.out w4 GG.out (.slice none 0 0) (World.ownsRow_nil _ _ _ _)
        have g05 := grow_trans GG.out hg5
        rw [e0] at ho5
        obtain ⟨g, cap, rfl, hge⟩ : ∃ g cap, v5 = .slice (some ⟨g, 0, none⟩) m cap ∧ w.heap.size ≤ g := by
          rcases ho5.2 with ⟨_, h0⟩ | ⟨g, cap, cur, h, hge, _⟩
          · omega
          · exact ⟨g, cap, h, hge⟩
        obtain ⟨hc5, hf5⟩ := own_at (xs := zs) ho5 (q : Int) (by omega) ha2'
        obtain ⟨ho6, hg6⟩ := own_store (xs := zs) ho5 (q : Int) more
        rw [Int.toNat_natCast] at hc5 hf5 ho6 hg6
        have g06 := grow_then g05 hg6 (fun k hk => by cases hk; exact hge)
        have hci6 : CI _ _ (zs.set q more) := ci_of_q (q_of_own ho6)
        have H6 := Lib.hid (And.intro g06 hci6)
        clear ho5 ho6 hg6 hg5 g05 hci6 g06 hge GG HAP HMk HSEk HRSk HS2 hx
        go_wp2_with (first | (refine wpList_append_run (d := some 105) (.slice none 0 0) (.slice (some ⟨b, off, none⟩) m c) (by rfl) (by rfl) hr5 ?_))
        refine (HT.out _ H6.out.1).mono ?_
        rintro e w7 ⟨rfl, g7⟩
        have h7 := HR5.out _ cap w7 (H6.out.2.grow g7)
        go_wp2_with fail
        refine h7.mono ?_
        rintro e w8 ⟨rfl, g8⟩
        go_wp2_with fail
        go_ret
        exact ⟨rfl, grow_trans (grow_trans H6.out.1 g7) g8⟩
      · go_wp2_with (first | (refine wpList_append_run (d := some 76) (.slice none 0 0) (.slice A m c) (by rfl) (by rfl) hr2 ?_) | (refine wpList_append_run (d := some 80) v2 (.slice (some ⟨w2.heap.size, 0, none⟩) 1 1) (by rfl) (by rfl) hr3' ?_))
        refine HRR.out.mono ?_
        rintro e w4 ⟨rfl, g4⟩
        have GG := Lib.hid (grow_trans HG3.out g4)
        clear hr2 hr3' g4 g1 HG3 HRR
        by_cases ha1 : at' < 0
        · go_wp2_with fail
          refine (HT.out _ GG.out).mono ?_
          rintro e w5 ⟨rfl, g5⟩
          go_wp2_with fail
          go_ret
          exact ⟨rfl, grow_trans GG.out g5⟩
        have ha1' : 0 ≤ at' := by omega
        clear ha1
        by_cases ha2 : (m : Int) ≤ at'
        · go_wp2_with fail
          refine (HT.out _ GG.out).mono ?_
          rintro e w5 ⟨rfl, g5⟩
          go_wp2_with fail
          go_ret
          exact ⟨rfl, grow_trans GG.out g5⟩
        obtain ⟨q, rfl⟩ := Int.eq_ofNat_of_zero_le ha1'
        have hqm : q < m := by omega
        have ha2' : (q : Int) < (m : Int) := by omega
        clear ha2 ha1'
        obtain ⟨b, off, hA, hbs, hcell⟩ := HMk.out q hqm w4 GG.out
        subst hA
        have HS2 := Lib.hid (HSEk.out q hqm)
        generalize zs.getD q 0 = x at *
        by_cases hx : more < x
        · go_wp2_with fail
          refine (HT.out _ GG.out).mono ?_
          rintro e w5 ⟨rfl, g5⟩
          go_wp2_with fail
          go_ret
          exact ⟨rfl, grow_trans GG.out g5⟩
        have hx' : x ≤ more := by omega
        have hse := HS2.out hx'
        have HR5 := Lib.hid (HRSk.out q)
        generalize reachN n (zs.set q more) = c2 at *
        obtain ⟨v5, w5, hr5, ho5, hg5⟩ := HAP.out w4 GG.out (.slice none 0 0) (World.ownsRow_nil _ _ _ _)
        have g05 := grow_trans GG.out hg5
        rw [e0] at ho5
        obtain ⟨g, cap, rfl, hge⟩ : ∃ g cap, v5 = .slice (some ⟨g, 0, none⟩) m cap ∧ w.heap.size ≤ g := by
          rcases ho5.2 with ⟨_, h0⟩ | ⟨g, cap, cur, h, hge, _⟩
          · omega
          · exact ⟨g, cap, h, hge⟩
        obtain ⟨hc5, hf5⟩ := own_at (xs := zs) ho5 (q : Int) (by omega) ha2'
        obtain ⟨ho6, hg6⟩ := own_store (xs := zs) ho5 (q : Int) more
        rw [Int.toNat_natCast] at hc5 hf5 ho6 hg6
        have g06 := grow_then g05 hg6 (fun k hk => by cases hk; exact hge)
        have hci6 : CI _ _ (zs.set q more) := ci_of_q (q_of_own ho6)
        have H6 := Lib.hid (And.intro g06 hci6)
        clear ho5 ho6 hg6 hg5 g05 hci6 g06 hge GG HAP HMk HSEk HRSk HS2 hx
        go_wp2_with (first | (refine wpList_append_run (d := some 105) (.slice none 0 0) (.slice (some ⟨b, off, none⟩) m c) (by rfl) (by rfl) hr5 ?_))
        refine (HT.out _ H6.out.1).mono ?_
        rintro e w7 ⟨rfl, g7⟩
        have h7 := HR5.out _ cap w7 (H6.out.2.grow g7)
        go_wp2_with fail
        refine h7.mono ?_
        rintro e w8 ⟨rfl, g8⟩
        go_wp2_with fail
        go_ret
        exact ⟨rfl, grow_trans (grow_trans H6.out.1 g7) g8⟩
end Go.Proofs.YtiamkjokiapanaaDoor
