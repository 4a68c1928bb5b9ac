/- Contract of spot.Parse. -/
import Derived.Test.YtpchbdpepgeibaaDoorH
namespace Go.Proofs.YtpchbdpepgeibaaDoor
open Go.RowKit Go.Proofs.YtpchbdpepgeibaaDoorW.PrintWords Go.Lib

theorem atoi_any (s : ByteArray) (hs : s.size ≤ 1000) (w : World) (h : GW w) :
    Calls Tryd.prog 31 #[.string s] w fun e w' => ∃ v ev, e = .returned (.tuple #[.int .i64 v, ev]) ∧ Below w.heap.size w w' ∧ ((atoiAll s.data.toList = .ok v ∧ ev = .nilIface) ∨ ((∀ u, atoiAll s.data.toList ≠ .ok u) ∧ ∃ N, ev = .iface 69 (.pointer (some ⟨N, 0, none⟩)))) := by
  rcases ha : atoiAll s.data.toList with v | _ | _
  · refine (Tryd.strconv_Atoi_ok s (by omega) v ha w).mono ?_
    rintro e w' ⟨rfl, hw⟩
    refine ⟨v, _, rfl, ?_, .inl ⟨rfl, rfl⟩⟩
    rcases hw with rfl | ⟨t, rfl⟩
    · exact Below.refl _ _
    · exact bytes_below (Below.refl _ _) (Nat.le_refl _) _ _
  · obtain ⟨ev, h1, h2⟩ := h.c1
    refine (Any.strconv_Atoi_syntax Tryd.laysC172 s (by omega) ha ev w h1 h2).mono ?_
    rintro e w' ⟨N, rfl, _, _, hb⟩
    exact ⟨_, _, rfl, hb, Or.inr ⟨(fun u hu => by cases hu), N, rfl⟩⟩
  · obtain ⟨ev, h1, h2⟩ := h.c2
    refine (Tryd.strconv_Atoi_range s (by omega) ha ev w h1 h2).mono ?_
    rintro e w' ⟨N, rfl, _, _, hb⟩
    exact ⟨_, _, rfl, hb, Or.inr ⟨(fun u hu => by cases hu), N, rfl⟩⟩
theorem cut_any (s : ByteArray) (hs : s.size ≤ 1000) (w : World) (h : GW w) :
    ∃ x y f, x.size ≤ 1000 ∧ y.size ≤ 1000 ∧ x.data.toList = (cut s.data.toList [47]).1 ∧ y.data.toList = (cut s.data.toList [47]).2.1 ∧
    Calls Tryd.prog 30 #[.string s, .string ⟨#[47]⟩] w fun e w' => e = .returned (.tuple #[.string x, .string y, .bool f]) ∧ ∃ n, w' = w.drewN n := by
  obtain ⟨m, hm⟩ := h.c0
  have hl : s.data.toList.length = s.size := Array.length_toList
  have h1 : (cut s.data.toList [47]).1.length ≤ s.data.toList.length := by
    unfold cut; split
    · simp; omega
    · exact Nat.le_refl _
  have h2 : (cut s.data.toList [47]).2.1.length ≤ s.data.toList.length := by
    unfold cut; split
    · simp
    · simp
  refine ⟨⟨(cut s.data.toList [47]).1.toArray⟩, ⟨(cut s.data.toList [47]).2.1.toArray⟩, (cut s.data.toList [47]).2.2, ?_, ?_, by simp, by simp, Tryd.strings_Cut s ⟨#[47]⟩ m w (by omega) hm⟩
  · show (cut s.data.toList [47]).1.toArray.size ≤ 1000
    simp; omega
  · show (cut s.data.toList [47]).2.1.toArray.size ≤ 1000
    simp; omega
theorem pV_bad (t : ByteArray) (h : (∀ u, atoiAll (cut t.data.toList [47]).1 ≠ .ok u) ∨ (∀ u, atoiAll (cut t.data.toList [47]).2.1 ≠ .ok u)) : pV t = (0, 0, 20) := by
  unfold pV
  split
  · next a b h1 h2 => rcases h with h | h
                      · exact absurd h1 (h a)
                      · exact absurd h2 (h b)
  · rfl
theorem pV_ok (t : ByteArray) (a b : Int) (h1 : atoiAll (cut t.data.toList [47]).1 = .ok a) (h2 : atoiAll (cut t.data.toList [47]).2.1 = .ok b) : pV t = if isS a b = true ∧ tx a b = t then (a, b, 0) else (0, 0, 20) := by
  unfold pV
  rw [h1, h2]

set_option maxHeartbeats 4000000 in
theorem parse_any (t : ByteArray) (ht : t.size ≤ 1000) (w : World) (h : GW w) :
    Calls Tryd.prog 15 #[.string t] w fun e w' => e = .returned (.tuple #[.agg #[.int .i64 (pV t).1, .int .i64 (pV t).2.1], .int .i64 (pV t).2.2]) ∧ Below w.heap.size w w' := by
  obtain ⟨x, y, f, hx, hy, ex, ey, hc⟩ := cut_any t ht (w.alloc (.cells #[.int .i64 0, .int .i64 0] 23)) (h.alloc _)
  have HBad := Lib.hid (pV_bad t)
  have HOk := Lib.hid (pV_ok t)
  rw [← ex, ← ey] at HBad HOk
  have HAx := Lib.hid (fun W hW => atoi_any x hx W hW)
  have HAy := Lib.hid (fun W hW => atoi_any y hy W hW)
  have HG := Lib.hid (h.alloc (.cells #[.int .i64 0, .int .i64 0] 23))
  have HC := Lib.hid hc
  clear h hc hx hy ex ey ht
  go_enter Tryd.func15, Tryd.ntmps15
  go_wp2_with fail
  refine HC.out.mono ?_
  rintro e w1 ⟨rfl, n, hw⟩
  have g1 : (w.alloc (.cells #[.int .i64 0, .int .i64 0] 23)).grownBy w1 none := by rw [hw]; exact grow_drewN _ _
  have HG1 := Lib.hid (HG.out.grow g1)
  have HB1 := Lib.hid (grow_below ((Below.refl w.heap.size w).alloc (Nat.le_refl _) _) g1 (by simp))
  have HT1 := Lib.hid ((Two.new w 0 0 23 w.heap.size rfl).grow g1)
  clear hw g1 HG HC
  go_wp2_with fail
  refine (HAx.out w1 HG1.out).mono ?_
  rintro e w2 ⟨va, ea, rfl, hb, ha⟩
  have HG2 := Lib.hid (HG1.out.below hb)
  have HB2 := Lib.hid (below_step HB1.out hb)
  have HT2 := Lib.hid (HT1.out.below hb)
  have HA := Lib.hid ha
  clear hb ha HG1 HB1 HT1 HAx
  go_wp2_with fail
  refine (HAy.out w2 HG2.out).mono ?_
  rintro e w3 ⟨vb, eb, rfl, hb, hbb⟩
  have HB3 := Lib.hid (below_step HB2.out hb)
  have HT3 := Lib.hid (HT2.out.below hb)
  have HA' := Lib.hid hbb
  clear hb hbb HG2 HB2 HT2 HAy
  rcases HA.out with ⟨ha1, rfl⟩ | ⟨ha1, N, rfl⟩
  · rcases HA'.out with ⟨hb1, rfl⟩ | ⟨hb1, N, rfl⟩
    · have HV := Lib.hid (HOk.out va vb ha1 hb1)
      clear ha1 hb1 HA HA' HBad HOk
      have HM := Lib.hid (fun W => may_any va vb W)
      cases hs : isS va vb
      · rw [hs] at HM HV
        clear hs
        go_wp2_with fail
        refine (HM.out _).mono ?_
        rintro e w4 ⟨rfl, hb⟩
        have HT4 := Lib.hid ((HT3.out.alloc (.cells #[.int .i64 va, .int .i64 vb] 48)).below hb)
        have HB4 := Lib.hid (below_step (HB3.out.alloc HB3.out.size _) hb)
        obtain ⟨t0, t1, f0, f1, hlt⟩ := HT4.out.all
        clear hb HB3 HT3
        go_wp2_with fail
        refine bodyPost_ret (results_ct rfl _ _ w.heap.size 23 #[.int .i64 0, .int .i64 0] (0, 0) _ rfl HT4.out.put Tryd.underlying23 rfl (by kernel_rfl)) rfl ?_
        exact ⟨by rw [HV.out, if_neg (by simp)]; rfl, below_set (below_set HB4.out (Nat.le_refl _)) (Nat.le_refl _)⟩
      · have HTx := Lib.hid (fun W => text_any va vb hs W)
        rw [hs] at HM HV
        clear hs
        go_wp2_with fail
        refine (HM.out _).mono ?_
        rintro e w4 ⟨rfl, hb⟩
        have HT4 := Lib.hid ((HT3.out.alloc (.cells #[.int .i64 va, .int .i64 vb] 48)).below hb)
        have HB4 := Lib.hid (below_step (HB3.out.alloc HB3.out.size _) hb)
        have HP4 := Lib.hid ((Two.new w3 va vb 48 w3.heap.size rfl).below hb)
        obtain ⟨p0, p1⟩ := HP4.out.cells
        clear hb HB3 HT3
        go_wp2_with fail
        refine (HTx.out _).mono ?_
        rintro e w5 ⟨rfl, hb⟩
        have HT5 := Lib.hid (HT4.out.below hb)
        have HP5 := Lib.hid (HP4.out.below hb)
        have HB5 := Lib.hid (below_step HB4.out hb)
        clear hb HT4 HP4 HB4 p0 p1
        obtain ⟨t0, t1, f0, f1, hlt⟩ := HT5.out.all
        obtain ⟨p0, p1⟩ := HP5.out.cells
        by_cases he : tx va vb = t
        · rw [if_pos ⟨trivial, he⟩] at HV
          have hq : ((tx va vb).toList == t.toList) = true := by rw [he]; simp
          have hq2 : ((tx va vb).toList != t.toList) = false := by rw [he]; simp
          have HE := Lib.hid he
          clear he
          go_wp2_with fail
          refine bodyPost_ret (results_ct rfl _ _ w.heap.size 23 #[.int .i64 va, .int .i64 vb] (0, 0) _ rfl HT5.out.put Tryd.underlying23 rfl (by kernel_rfl)) rfl ?_
          exact ⟨by rw [HV.out]; rfl, below_set (below_set HB5.out (Nat.le_refl _)) (Nat.le_refl _)⟩
        · rw [if_neg (fun h => he h.2)] at HV
          have hq : ((tx va vb).toList == t.toList) = false := beq_eq_false_iff_ne.mpr (fun h => he (toL_inj.1 h))
          have hq2 : ((tx va vb).toList != t.toList) = true := bne_iff_ne.mpr (fun h => he (toL_inj.1 h))
          clear he
          go_wp2_with fail
          refine bodyPost_ret (results_ct rfl _ _ w.heap.size 23 #[.int .i64 0, .int .i64 0] (0, 0) _ rfl HT5.out.put Tryd.underlying23 rfl (by kernel_rfl)) rfl ?_
          exact ⟨by rw [HV.out]; rfl, below_set (below_set HB5.out (Nat.le_refl _)) (Nat.le_refl _)⟩
    · have HV := Lib.hid (HBad.out (.inr hb1))
      clear ha1 hb1 HA HA' HBad HOk
      obtain ⟨t0, t1, f0, f1, hlt⟩ := HT3.out.all
      go_wp2_with fail
      refine bodyPost_ret (results_ct rfl _ _ w.heap.size 23 #[.int .i64 0, .int .i64 0] (0, 0) _ rfl (HT3.out.put.alloc _) Tryd.underlying23 rfl (by kernel_rfl)) rfl ?_
      exact ⟨by rw [HV.out]; rfl, (below_set (below_set HB3.out (Nat.le_refl _)) (Nat.le_refl _)).alloc (by have := HB3.out.size; simpa using this) _⟩
  · have HV := Lib.hid (HBad.out (.inl ha1))
    clear ha1 HA HA' HBad HOk
    obtain ⟨t0, t1, f0, f1, hlt⟩ := HT3.out.all
    go_wp2_with fail
    refine bodyPost_ret (results_ct rfl _ _ w.heap.size 23 #[.int .i64 0, .int .i64 0] (0, 0) _ rfl (HT3.out.put.alloc _) Tryd.underlying23 rfl (by kernel_rfl)) rfl ?_
    exact ⟨by rw [HV.out]; rfl, (below_set (below_set HB3.out (Nat.le_refl _)) (Nat.le_refl _)).alloc (by have := HB3.out.size; simpa using this) _⟩
end Go.Proofs.YtpchbdpepgeibaaDoor
