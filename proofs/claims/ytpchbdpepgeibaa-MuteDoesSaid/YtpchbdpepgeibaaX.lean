/- Contract of the law MuteDoes. -/
import Derived.BigGuardPart
import Derived.BigCall
import Derived.Test.YtpchbdpepgeibaaU
namespace Go.Proofs.Ytpchbdpepgeibaa
open Go.RowKit Go.Shelf Go.Proofs Go.Proofs.YtpchbdpepgeibaaW.PrintWords Pturn

theorem cw_of_rw {w : World} {base n cap : Nat} {A : Option Addr} {l : List S32} (h : RW w base (.slice A n cap) l) (hn : n = l.length) : CW w A l := by
  subst hn
  exact cw_of_own h
theorem does_big1 (A B : Option Addr) (n c k d : Nat) (b t : Int) (w : World) (hn : 110 < n) (hm : n ≤ 9223372036854775807) :
    Calls Try.prog 3 #[.slice A n c, .slice B k d, .int .i64 b, .int .i64 t] w fun e w' => e = .returned (.bool true) ∧ w = w' := by
  go_enter Try.func3, Try.ntmps3
  go_wp2_with fail
  go_ret
  exact ⟨rfl, rfl⟩
theorem does_big2 (A B : Option Addr) (n c k d : Nat) (b t : Int) (w : World) (hn : n ≤ 110) (hk : 30 < k) (hm : k ≤ 9223372036854775807) :
    Calls Try.prog 3 #[.slice A n c, .slice B k d, .int .i64 b, .int .i64 t] w fun e w' => e = .returned (.bool true) ∧ w = w' := by
  have h1 : decide (110 < (n : Int)) = false := by simp; omega
  have h2 : decide (30 < (k : Int)) = true := by simp; omega
  go_enter Try.func3, Try.ntmps3
  go_wp2_with fail
  go_ret
  exact ⟨rfl, rfl⟩

set_option maxRecDepth 100000 in
set_option maxHeartbeats 20000000 in
theorem does_law (A B : Option Addr) (c d : Nat) (l m : List S32) (bd at' : Int) (w : World) (h1 : CW w A l) (h2 : CW w B m) (hl : l.length ≤ 110) (hm : m.length ≤ 30) (hc : l.length ≤ c) (hd : m.length ≤ d) :
    Calls Try.prog 3 #[.slice A l.length c, .slice B m.length d, .int .i64 bd, .int .i64 at'] w fun e w' => e = .returned (.bool true) ∧ w.grownBy w' none := by
  have HO1 := Lib.hid (own_any A c l w h1 (by omega))
  have HO2 := Lib.hid (fun W (g : w.grownBy W none) => own_any B d m W (h2.grow g) (by omega))
  have HK1 := Lib.hid (fun W (g : w.grownBy W none) => And.intro (h1.grow g) (h2.grow g))
  have HADD := Lib.hid (fun W (h1 : CW W A l) (h2 : CW W B m) => add_any A B c d l m W h1 h2 (by omega) (by omega))
  have HCUT := Lib.hid (fun W (h1 : CW W A l) (h2 : CW W B m) => cut_any A B c d l m W h1 h2 (by omega) (by omega))
  have HRADD := Lib.hid (fun A1 A2 c1 c2 W (h1 : CW W A1 l) (h2 : CW W A2 m) hc1 hc2 => radd_any A1 A2 c1 c2 l m W h1 h2 (by omega) (by omega) hc1 hc2)
  have HRCUT := Lib.hid (fun A1 A2 c1 c2 W (h1 : CW W A1 l) (h2 : CW W A2 m) hc1 hc2 => rcut_any A1 A2 c1 c2 l m W h1 h2 (by omega) (by omega) hc1 hc2)
  have HTILL := Lib.hid (fun W (h1 : CW W A l) => till_any A c l bd at' W h1 (by omega))
  have HRTILL := Lib.hid (fun A1 c1 W (h1 : CW W A1 l) hc1 => rtill_any A1 c1 l bd at' W h1 (by omega) hc1)
  have HIS := Lib.hid (fun W (h1 : CW W A l) => is_any A c l W h1 (by omega))
  have HRIS := Lib.hid (fun A1 c1 W (h1 : CW W A1 l) hc1 => ris_any A1 c1 l W h1 (by omega) hc1)
  have HHAS := Lib.hid (fun W (h1 : CW W A l) => hasm_any A c l bd at' W h1 (by omega))
  have HRHAS := Lib.hid (fun A1 c1 W (h1 : CW W A1 l) hc1 => rhas_any A1 c1 l bd at' W h1 (by omega) hc1)
  have HTOT := Lib.hid (fun W (h1 : CW W A l) => total_any A c l bd W h1 (by omega))
  have HRTOT := Lib.hid (fun A1 c1 W (h1 : CW W A1 l) hc1 => rtotal_any A1 c1 l bd W h1 (by omega) hc1)
  have HSL := Lib.hid (fun A1 c1 W (h1 : CW W A l) (h2 : CW W A1 l) hc1 => same_any A A1 c c1 l W h1 h2 (by omega) hc hc1)
  have HSM := Lib.hid (fun A1 c1 W (h1 : CW W B m) (h2 : CW W A1 m) hc1 => same_any B A1 d c1 m W h1 h2 (by omega) hd hc1)
  have HX : (turnV l m true).1.length ≤ 100 := by unfold turnV; split <;> (try split) <;> simp <;> omega
  have HY : (turnV l m false).1.length ≤ 100 := by unfold turnV; split <;> (try split) <;> simp <;> omega
  generalize turnV l m true = T at *
  generalize turnV l m false = U at *
  generalize tillV l bd at' = V at *
  generalize isB l = ib at *
  generalize hasB l bd at' = hb at *
  generalize totV l bd = tv at *
  obtain ⟨X, xe⟩ := T
  obtain ⟨Y, ye⟩ := U
  obtain ⟨tn, tb⟩ := V
  dsimp only at HADD HCUT HRADD HRCUT HTILL HRTILL HX HY
  obtain ⟨n1, hn1⟩ : ∃ n, n = l.length := ⟨_, rfl⟩
  obtain ⟨n2, hn2⟩ : ∃ n, n = m.length := ⟨_, rfl⟩
  have HN1 := Lib.hid hn1
  have HN2 := Lib.hid hn2
  rw [← hn1] at HO1 HADD HCUT HRADD HRCUT HTILL HRTILL HIS HRIS HHAS HRHAS HTOT HRTOT HSL hl hc ⊢
  rw [← hn2] at HO2 HADD HCUT HRADD HRCUT HSM hm hd ⊢
  clear h1 h2 hn1 hn2
  have d1 : decide (110 < (n1 : Int)) = false := by simp; omega
  have d2 : decide (30 < (n2 : Int)) = false := by simp; omega
  go_enter Try.func3, Try.ntmps3
  go_wp2_with fail
  refine HO1.out.mono ?_
  rintro e w1 ⟨v1, rfl, hr1, hb1⟩
  obtain ⟨A1, c1, rfl, hc1, hcw1⟩ := hr1.reads
  rw [← HN1.out] at hc1 ⊢
  have g1 := grow_of_below hb1
  have H1 := Lib.hid hcw1
  clear hr1 hb1 hcw1 HO1
  go_wp2_with fail
  refine (HO2.out w1 g1).mono ?_
  rintro e w2 ⟨v2, rfl, hr2, hb2⟩
  obtain ⟨A2, c2, rfl, hc2, hcw2⟩ := hr2.reads
  rw [← HN2.out] at hc2 ⊢
  have g12 := grow_of_below hb2
  have G2 := Lib.hid (grow_trans g1 g12)
  have HK := Lib.hid (show ∀ W, Below w2.heap.size w2 W → CW W A l ∧ CW W B m ∧ CW W A1 l ∧ CW W A2 m from fun W hb => by
    have g := grow_of_below hb
    have h12 := HK1.out W (grow_trans G2.out g)
    exact ⟨h12.1, h12.2, (H1.out.grow g12).grow g, hcw2.grow g⟩)
  clear hr2 hb2 hcw2 HO2 H1 HK1 g1 g12
  have k2 := HK.out w2 (Below.refl _ _)
  have A3 := Lib.hid (HADD.out w2 k2.1 k2.2.1)
  clear k2 HADD
  go_wp2_with fail
  refine A3.out.mono ?_
  rintro e w3 ⟨va, rfl, hra, hb3⟩
  obtain ⟨Aa, ca, rfl, hca, hcwa⟩ := hra.reads
  have HRA := Lib.hid hra
  have HB3 := Lib.hid hb3
  have k3 := HK.out w3 hb3
  have A4 := Lib.hid (HRADD.out A1 A2 c1 c2 w3 k3.2.2.1 k3.2.2.2 hc1 hc2)
  clear k3 HRADD hra hb3 hcwa A3
  go_wp2_with fail
  refine A4.out.mono ?_
  rintro e w4 ⟨vb, rfl, hrb, hb4⟩
  obtain ⟨Ab, cb, rfl, hcb, hcwb⟩ := hrb.reads
  have HRA := Lib.hid (HRA.out.grow (grow_of_below hb4))
  have HGA := Lib.hid (show ∀ g o, Aa = some ⟨g, o, none⟩ → g < w4.heap.size from fun g o e => by
    rcases HRA.out.2 with ⟨h0, _⟩ | ⟨g', cap, cur, h0, _, hh, _⟩
    · injection h0 with h0; rw [e] at h0; cases h0
    · injection h0 with h0
      rw [e] at h0
      cases h0
      exact (Array.getElem?_eq_some_iff.1 hh).1)
  have HCB := Lib.hid hcwb
  have hb4' := below_step HB3.out hb4
  have HB4 := Lib.hid hb4'
  have HB4' := Lib.hid hb4'.size
  have k4 := HK.out w4 hb4'
  have A5 := Lib.hid (HCUT.out w4 k4.1 k4.2.1)
  clear k4 HCUT hrb hb4 hb4' hcwb A4 HB3
  go_wp2_with fail
  refine A5.out.mono ?_
  rintro e w5 ⟨vc, rfl, hrc, hb5⟩
  obtain ⟨Ac, cc, rfl, hcc, hcwc⟩ := hrc.reads
  have HRA := Lib.hid (HRA.out.grow (grow_of_below hb5))
  have HRC := Lib.hid hrc
  have HCB := Lib.hid (HCB.out.grow (grow_of_below hb5))
  have hb5' := below_step HB4.out hb5
  have HB5 := Lib.hid hb5'
  have k5 := HK.out w5 hb5'
  have A6 := Lib.hid (HRCUT.out A1 A2 c1 c2 w5 k5.2.2.1 k5.2.2.2 hc1 hc2)
  clear k5 HRCUT hrc hb5 hb5' hcwc A5 HB4
  go_wp2_with fail
  refine A6.out.mono ?_
  rintro e w6 ⟨vd, rfl, hrd, hb6⟩
  obtain ⟨Ad, cd, rfl, hcd, hcwd⟩ := hrd.reads
  have HRA := Lib.hid (HRA.out.grow (grow_of_below hb6))
  have HRC := Lib.hid (HRC.out.grow (grow_of_below hb6))
  have HCB := Lib.hid (HCB.out.grow (grow_of_below hb6))
  have HCD := Lib.hid hcwd
  have hb6' := below_step HB5.out hb6
  have HB6 := Lib.hid hb6'
  have k6 := HK.out w6 hb6'
  have A7 := Lib.hid (HTILL.out w6 k6.1)
  clear k6 HTILL hrd hb6 hb6' hcwd A6 HB5
  go_wp2_with fail
  refine A7.out.mono ?_
  rintro e w7 ⟨rfl, hb7⟩
  have HRA := Lib.hid (HRA.out.grow (grow_of_below hb7))
  have HRC := Lib.hid (HRC.out.grow (grow_of_below hb7))
  have HCB := Lib.hid (HCB.out.grow (grow_of_below hb7))
  have HCD := Lib.hid (HCD.out.grow (grow_of_below hb7))
  have hb7' := below_step HB6.out hb7
  have HB7 := Lib.hid hb7'
  have k7 := HK.out w7 hb7'
  have A8 := Lib.hid (HRTILL.out A1 c1 w7 k7.2.2.1 hc1)
  clear k7 HRTILL hb7 hb7' A7 HB6
  go_wp2_with fail
  refine A8.out.mono ?_
  rintro e w8 ⟨rfl, j8, hw8⟩
  have g8 : w7.grownBy w8 none := by rw [hw8]; exact grow_drewN _ _
  have hb8 : Below w2.heap.size w2 w8 := by rw [hw8]; exact pw_below_drewN HB7.out _
  have HRA := Lib.hid (HRA.out.grow g8)
  have HRC := Lib.hid (HRC.out.grow g8)
  have HCB := Lib.hid (HCB.out.grow g8)
  have HCD := Lib.hid (HCD.out.grow g8)
  have HB8 := Lib.hid hb8
  obtain ⟨_, _, ea, _, hcwa⟩ := HRA.out.reads
  cases ea
  have A9 := Lib.hid (same_any Aa Ab ca cb X w8 hcwa HCB.out (by omega) hca hcb)
  clear hw8 g8 hb8 A8 HB7 hcwa
  go_wp2_with fail
  refine A9.out.mono ?_
  rintro e w9 ⟨rfl, j9, hw9⟩
  have g9 : w8.grownBy w9 none := by rw [hw9]; exact grow_drewN _ _
  have hb9 : Below w2.heap.size w2 w9 := by rw [hw9]; exact pw_below_drewN HB8.out _
  have HRA := Lib.hid (HRA.out.grow g9)
  have HRC := Lib.hid (HRC.out.grow g9)
  have HCD := Lib.hid (HCD.out.grow g9)
  have HB9 := Lib.hid hb9
  obtain ⟨_, _, ec, _, hcwc⟩ := HRC.out.reads
  cases ec
  have A10 := Lib.hid (same_any Ac Ad cc cd Y w9 hcwc HCD.out (by omega) hcc hcd)
  clear hw9 g9 hb9 A9 HB8 hcwc HCB
  go_wp2_with fail
  refine A10.out.mono ?_
  rintro e w10 ⟨rfl, j10, hw10⟩
  have g10 : w9.grownBy w10 none := by rw [hw10]; exact grow_drewN _ _
  have hb10 : Below w2.heap.size w2 w10 := by rw [hw10]; exact pw_below_drewN HB9.out _
  have HRA := Lib.hid (HRA.out.grow g10)
  have HRC := Lib.hid (HRC.out.grow g10)
  have HB10 := Lib.hid hb10
  clear hw10 g10 hb10 A10 HB9 HCD
  go_wp2_with fail
  have hX100 := HX
  have hY100 := HY
  obtain ⟨na, hna⟩ : ∃ n, n = X.length := ⟨_, rfl⟩
  obtain ⟨nc, hnc⟩ : ∃ n, n = Y.length := ⟨_, rfl⟩
  have R0 := Lib.hid (show ∃ X' : List S32, X'.length = na ∧ RW w10 w2.heap.size (.slice Aa na ca) X' from ⟨X, hna.symm, by rw [hna]; exact HRA.out⟩)
  have RC0 := Lib.hid (show ∃ Y' : List S32, Y'.length = nc ∧ RW w10 w4.heap.size (.slice Ac nc cc) Y' from ⟨Y, hnc.symm, by rw [hnc]; exact HRC.out⟩)
  rw [← hna] at hX100 hca ⊢
  rw [← hnc] at hY100 hcc ⊢
  clear hna hnc HRA HRC HX HY hcb hcd
  have h24 := HB10.out.size
  go_loopw [24] (fun i wr => ∃ k : Nat, k ≤ na ∧ i = .int .i64 k ∧ Hid (∃ X' : List S32, X'.length = na ∧ RW wr w2.heap.size (.slice Aa na ca) X') ∧ Hid (∃ Y' : List S32, Y'.length = nc ∧ RW wr w4.heap.size (.slice Ac nc cc) Y') ∧ Below w2.heap.size w2 wr) (fun i _ => na - (intOf i).toNat)
  case atStart => exact ⟨0, by omega, rfl, R0, RC0, HB10.out⟩
  case round =>
    obtain ⟨k, hk, rfl, HXa, HYc, hb⟩ := hrel
    by_cases hlt : k < na
    · obtain ⟨X', hxl, hrx⟩ := HXa.out
      obtain ⟨g, cap, hv, hgb, hgl, hfr⟩ := rw_form hrx (by omega)
      injection hv with hv1 hv2 hv3
      subst hv1
      subst hv3
      obtain ⟨hs1, hs2⟩ := rw_store0 hrx hxl.symm k hlt 77
      have hg4 := HGA.out g 0 rfl
      obtain ⟨b0, off0, eA, _, q0, _, _⟩ := (cw_of_rw hrx hxl.symm) k (by omega)
      cases eA
      rw [Nat.zero_add] at q0
      generalize (X'.getD k z32).f0 = xf at *
      obtain ⟨Y', hyl, hry⟩ := HYc.out
      have HFa := Lib.hid (show ∃ X'' : List S32, X''.length = na ∧ RW (wr.setCell ⟨g, k * 3, none⟩ (.int .i64 77)) w2.heap.size (.slice (some ⟨g, 0, none⟩) na ca) X'' from ⟨_, by rw [List.length_set]; exact hxl, hs1⟩)
      have HFc := Lib.hid (show ∃ Y'' : List S32, Y''.length = nc ∧ RW (wr.setCell ⟨g, k * 3, none⟩ (.int .i64 77)) w4.heap.size (.slice Ac nc cc) Y'' from ⟨Y', hyl, own_other hry hs2 (by
        cases e : (Value.slice Ac nc cc).ownBlock with
        | none => exact .inl rfl
        | some q => exact .inr (fun h => by cases h; have := own_base hry g e; omega))⟩)
      have HFb := Lib.hid (hb.setCell (p := ⟨g, k * 3, none⟩) hgb (.int .i64 77))
      have hk0 : (0 : Int) ≤ (k : Int) := by omega
      have hkm : (k : Int) < (na : Int) := by omega
      have hf := hfr (k * 3)
      clear HXa HYc hrx hs1 hs2 hry hb R0 RC0 hfr hxl hyl
      go_wp2_with fail
      go_roundw
      case rel => exact ⟨k + 1, by omega, by go_num, HFa, HFc, HFb.out⟩
      case measure => simp [intOf]; omega
    · have e : k = na := by omega
      subst e
      have HBr := Lib.hid hb
      clear hb HXa R0 RC0
      go_wp2_with fail
      go_loopw [25] (fun i wr => ∃ k : Nat, k ≤ nc ∧ i = .int .i64 k ∧ Hid (∃ Y' : List S32, Y'.length = nc ∧ RW wr w4.heap.size (.slice Ac nc cc) Y') ∧ Below w2.heap.size w2 wr) (fun i _ => nc - (intOf i).toNat)
      case atStart => exact ⟨0, by omega, rfl, HYc, HBr.out⟩
      case round =>
        obtain ⟨k, hk, rfl, HYc, hb⟩ := hrel
        by_cases hlt : k < nc
        · obtain ⟨X', hxl, hrx⟩ := HYc.out
          obtain ⟨g, cap, hv, hgb, hgl, hfr⟩ := rw_form hrx (by omega)
          injection hv with hv1 hv2 hv3
          subst hv1
          subst hv3
          obtain ⟨hs1, hs2⟩ := rw_store0 hrx hxl.symm k hlt 77
          obtain ⟨b0, off0, eA, _, q0, _, _⟩ := (cw_of_rw hrx hxl.symm) k (by omega)
          cases eA
          rw [Nat.zero_add] at q0
          generalize (X'.getD k z32).f0 = xf at *
          have HFa := Lib.hid (show ∃ X'' : List S32, X''.length = nc ∧ RW (wr.setCell ⟨g, k * 3, none⟩ (.int .i64 77)) w4.heap.size (.slice (some ⟨g, 0, none⟩) nc cc) X'' from ⟨_, by rw [List.length_set]; exact hxl, hs1⟩)
          have h42 : w2.heap.size ≤ g := by have := HB4'.out; omega
          have HFb := Lib.hid (hb.setCell (p := ⟨g, k * 3, none⟩) h42 (.int .i64 77))
          have hk0 : (0 : Int) ≤ (k : Int) := by omega
          have hkm : (k : Int) < (nc : Int) := by omega
          have hf := hfr (k * 3)
          clear HYc hrx hs1 hs2 hb hfr hxl
          go_wp2_with fail
          go_roundw
          case rel => exact ⟨k + 1, by omega, by go_num, HFa, HFb.out⟩
          case measure => simp [intOf]; omega
        · have e : k = nc := by omega
          subst e
          have B0 := Lib.hid hb
          clear hb HYc HBr
          go_wp2_with fail
          refine (muted_any wr).mono ?_
          rintro e w11 ⟨rfl, g11⟩
          have B1 := Lib.hid (grow_below B0.out g11 B0.out.size)
          have C1 := Lib.hid (HIS.out w11 (HK.out _ B1.out).1)
          clear g11 B0
          go_wp2_with fail
          refine C1.out.mono ?_
          rintro e w12 ⟨rfl, b12⟩
          have B2 := Lib.hid (below_step B1.out b12)
          have C2 := Lib.hid (HRIS.out A1 c1 w12 (HK.out _ B2.out).2.2.1 hc1)
          clear b12 B1 C1
          go_wp2_with fail
          refine C2.out.mono ?_
          rintro e w13 ⟨rfl, b13⟩
          have B3 := Lib.hid (below_step B2.out b13)
          have C3 := Lib.hid (HHAS.out w13 (HK.out _ B3.out).1)
          clear b13 B2 C2
          go_wp2_with fail
          refine C3.out.mono ?_
          rintro e w14 ⟨rfl, b14⟩
          have B4 := Lib.hid (below_step B3.out b14)
          have C4 := Lib.hid (HRHAS.out A1 c1 w14 (HK.out _ B4.out).2.2.1 hc1)
          clear b14 B3 C3
          go_wp2_with fail
          refine C4.out.mono ?_
          rintro e w15 ⟨rfl, j15, hw15⟩
          have B5 := Lib.hid (show Below w2.heap.size w2 w15 by rw [hw15]; exact pw_below_drewN B4.out _)
          have C5 := Lib.hid (HTOT.out w15 (HK.out _ B5.out).1)
          clear hw15 B4 C4
          go_wp2_with fail
          refine C5.out.mono ?_
          rintro e w16 ⟨rfl, b16⟩
          have B6 := Lib.hid (below_step B5.out b16)
          have C6 := Lib.hid (HRTOT.out A1 c1 w16 (HK.out _ B6.out).2.2.1 hc1)
          clear b16 B5 C5
          go_wp2_with fail
          refine C6.out.mono ?_
          rintro e w17 ⟨rfl, b17⟩
          have B7 := Lib.hid (below_step B6.out b17)
          have C7 := Lib.hid (HSL.out A1 c1 w17 (HK.out _ B7.out).1 (HK.out _ B7.out).2.2.1 hc1)
          clear b17 B6 C6
          go_wp2_with fail
          refine C7.out.mono ?_
          rintro e w18 ⟨rfl, j18, hw18⟩
          have B8 := Lib.hid (show Below w2.heap.size w2 w18 by rw [hw18]; exact pw_below_drewN B7.out _)
          have C8 := Lib.hid (HSM.out A2 c2 w18 (HK.out _ B8.out).2.1 (HK.out _ B8.out).2.2.2 hc2)
          clear hw18 B7 C7
          go_wp2_with fail
          refine C8.out.mono ?_
          rintro e w19 ⟨rfl, j19, hw19⟩
          have B9 := Lib.hid (show Below w2.heap.size w2 w19 by rw [hw19]; exact pw_below_drewN B8.out _)
          clear hw19 B8 C8
          go_wp2_with fail
          go_ret
          exact ⟨rfl, grow_trans G2.out (grow_of_below B9.out)⟩
end Go.Proofs.Ytpchbdpepgeibaa
