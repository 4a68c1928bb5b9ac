/- Contract of the law MuteOrder. -/
import Derived.Test.YtpchbdpepgeibaaY
import Derived.BigGuardPart
import Derived.BigCall
namespace Go.Proofs.Ytpchbdpepgeibaa
open Go.RowKit Go.Shelf Go.Proofs Go.Proofs.YtpchbdpepgeibaaW.PrintWords Pturn

theorem turn_ok {xs m R : List S32} {both : Bool} (h : turnV xs m both = (R, 0)) : isB xs = true ∧ m.all mayB = true ∧ R = winW xs m both ∧ R.length ≤ 100 := by
  unfold turnV at h
  by_cases h1 : (isB xs && m.all mayB) = true
  · rw [if_pos h1] at h
    by_cases h2 : (winW xs m both).length > 100
    · rw [if_pos h2] at h
      injection h with _ h
      cases h
    · rw [if_neg h2] at h
      injection h with h _
      rw [Bool.and_eq_true] at h1
      exact ⟨h1.1, h1.2, h.symm, by rw [← h]; omega⟩
  · rw [if_neg h1] at h
    injection h with _ h
    cases h
theorem has_win_both {l m : List S32} (hl : isB l = true) (hm : m.all mayB = true) : Canon (winW l m true) ∧ ∀ b t, has (winW l m true) b t ↔ has l b t ∨ has m b t := by
  obtain ⟨h1, h2⟩ := winW_spec l m true
  refine ⟨h1, fun b t => ?_⟩
  rw [h2, (inB_iff l m b t).1]
  constructor
  · exact fun h => h.2.2
  · intro h
    have hb : 1 ≤ b ∧ b < 100 := by
      rcases h with h | h
      · exact has_bed (is_spec hl).2.1 h
      · exact has_bed (List.all_eq_true.1 hm) h
    exact ⟨hb.1, hb.2, h⟩
theorem has_win_less {l m : List S32} (hl : isB l = true) : Canon (winW l m false) ∧ ∀ b t, has (winW l m false) b t ↔ has l b t ∧ ¬ has m b t := by
  obtain ⟨h1, h2⟩ := winW_spec l m false
  refine ⟨h1, fun b t => ?_⟩
  rw [h2, (inB_iff l m b t).2]
  constructor
  · exact fun h => h.2.2
  · intro h
    have hb := has_bed (is_spec hl).2.1 h.1
    exact ⟨hb.1, hb.2, h⟩
/-- What the law's loop keeps: as many windows as may be; if the first row is right: what has been added, so far. -/
def InvA (l m : List S32) (k : Nat) (xs : List S32) : Prop := xs.length ≤ 100 ∧ (isB l = true → Canon xs ∧ ∀ b t, has xs b t ↔ has l b t ∨ has (m.drop k) b t)
def InvC (l m : List S32) (k : Nat) (xs : List S32) : Prop := xs.length ≤ 100 ∧ (isB l = true → Canon xs ∧ ∀ b t, has xs b t ↔ has l b t ∧ ¬ has (m.drop k) b t)
theorem inva_start (l m : List S32) (h : l.length ≤ 60) : InvA l m m.length l := ⟨by omega, fun hi => ⟨(is_spec hi).1, fun b t => by rw [List.drop_length]; have := has_nil b t; simp [this]⟩⟩
theorem invc_start (l m : List S32) (h : l.length ≤ 60) : InvC l m m.length l := ⟨by omega, fun hi => ⟨(is_spec hi).1, fun b t => by rw [List.drop_length]; have := has_nil b t; simp [this]⟩⟩
theorem inva_step {l m xs R : List S32} {k : Nat} (hk : k < m.length) (h : InvA l m (k + 1) xs) (ht : turnV xs [m.getD k z32] true = (R, 0)) : InvA l m k R := by
  obtain ⟨h1, h2, rfl, h4⟩ := turn_ok ht
  obtain ⟨g1, g2⟩ := has_win_both h1 h2
  refine ⟨h4, fun hi => ⟨g1, fun b t => ?_⟩⟩
  rw [g2, has_single, (h.2 hi).2, drop_cons m z32 k hk, has_cons]
  constructor
  · rintro ((h | h) | h)
    · exact .inl h
    · exact .inr (.inr h)
    · exact .inr (.inl h)
  · rintro (h | h | h)
    · exact .inl (.inl h)
    · exact .inr h
    · exact .inl (.inr h)
theorem invc_step {l m xs R : List S32} {k : Nat} (hk : k < m.length) (h : InvC l m (k + 1) xs) (ht : turnV xs [m.getD k z32] false = (R, 0)) : InvC l m k R := by
  obtain ⟨h1, h2, rfl, h4⟩ := turn_ok ht
  obtain ⟨g1, g2⟩ := has_win_less (m := [m.getD k z32]) h1
  refine ⟨h4, fun hi => ⟨g1, fun b t => ?_⟩⟩
  rw [g2, has_single, (h.2 hi).2, drop_cons m z32 k hk, has_cons]
  constructor
  · rintro ⟨⟨h, h'⟩, h''⟩
    exact ⟨h, fun hh => hh.elim h'' h'⟩
  · rintro ⟨h, h'⟩
    exact ⟨⟨h, fun hh => h' (.inr hh)⟩, fun hh => h' (.inl hh)⟩
theorem inva_end {l m xs R : List S32} (h : InvA l m 0 xs) (ht : turnV l m true = (R, 0)) : R = xs := by
  obtain ⟨h1, h2, rfl, h4⟩ := turn_ok ht
  obtain ⟨g1, g2⟩ := has_win_both h1 h2
  obtain ⟨h5, h6⟩ := h.2 h1
  exact canon_unique g1 h5 fun b t => by rw [g2, h6]; rfl
theorem invc_end {l m xs R : List S32} (h : InvC l m 0 xs) (ht : turnV l m false = (R, 0)) : R = xs := by
  obtain ⟨h1, h2, rfl, h4⟩ := turn_ok ht
  obtain ⟨g1, g2⟩ := has_win_less (m := m) h1
  obtain ⟨h5, h6⟩ := h.2 h1
  exact canon_unique g1 h5 fun b t => by rw [g2, h6]; rfl

theorem order_big1 (A B : Option Addr) (n c k d : Nat) (w : World) (hn : 60 < n) (hm : n ≤ 9223372036854775807) :
    Calls Try.prog 4 #[.slice A n c, .slice B k d] w fun e w' => e = .returned (.bool true) ∧ w = w' := by
  go_enter Try.func4, Try.ntmps4
  go_wp2_with fail
  go_ret
  exact ⟨rfl, rfl⟩
theorem order_big2 (A B : Option Addr) (n c k d : Nat) (w : World) (hn : n ≤ 60) (hk : 20 < k) (hm : k ≤ 9223372036854775807) :
    Calls Try.prog 4 #[.slice A n c, .slice B k d] w fun e w' => e = .returned (.bool true) ∧ w = w' := by
  have h1 : decide (60 < (n : Int)) = false := by simp; omega
  have h2 : decide (20 < (k : Int)) = true := by simp; omega
  go_enter Try.func4, Try.ntmps4
  go_wp2_with fail
  go_ret
  exact ⟨rfl, rfl⟩

set_option maxRecDepth 100000 in
set_option maxHeartbeats 20000000 in
theorem order_law (A B : Option Addr) (c d : Nat) (l m : List S32) (w : World) (h1 : CW w A l) (h2 : CW w B m) (hl : l.length ≤ 60) (hm : m.length ≤ 20) (hc : l.length ≤ c) (hd : m.length ≤ d) :
    Calls Try.prog 4 #[.slice A l.length c, .slice B m.length d] w fun e w' => e = .returned (.bool true) ∧ w.grownBy w' none := by
  have HK := Lib.hid (fun W (g : w.grownBy W none) => And.intro (h1.grow g) (h2.grow g))
  have HADD := Lib.hid (add_any A B c d l m w h1 h2 (by omega) (by omega))
  have HCUT := Lib.hid (fun W (g : w.grownBy W none) => cut_any A B c d l m W (h1.grow g) (h2.grow g) (by omega) (by omega))
  have HA1 := Lib.hid (fun Ax Aw cx xs z W (hx : CW W Ax xs) (hz : CW W Aw [z]) (hl : xs.length ≤ 100) => add_any Ax Aw cx 1 xs [z] W hx hz (by omega) (by simp))
  have HC1 := Lib.hid (fun Ax Aw cx xs z W (hx : CW W Ax xs) (hz : CW W Aw [z]) (hl : xs.length ≤ 100) => cut_any Ax Aw cx 1 xs [z] W hx hz (by omega) (by simp))
  have HSA := Lib.hid (inva_start l m hl)
  have HSC := Lib.hid (invc_start l m hl)
  have HTA := Lib.hid (fun k xs R (hk : k < m.length) h ht => @inva_step l m xs R k hk h ht)
  have HTC := Lib.hid (fun k xs R (hk : k < m.length) h ht => @invc_step l m xs R k hk h ht)
  have HEA := Lib.hid (fun xs R h ht => @inva_end l m xs R h ht)
  have HEC := Lib.hid (fun xs R h ht => @invc_end l m xs R h ht)
  have HX : (turnV l m true).1.length ≤ 100 := by unfold turnV; split <;> (try split) <;> simp <;> omega
  have HY : (turnV l m false).1.length ≤ 100 := by unfold turnV; split <;> (try split) <;> simp <;> omega
  generalize turnV l m true = T at *
  generalize turnV l m false = U at *
  obtain ⟨X, xe⟩ := T
  obtain ⟨Y, ye⟩ := U
  dsimp only at HADD HCUT HX HY
  obtain ⟨n1, hn1⟩ : ∃ n, n = l.length := ⟨_, rfl⟩
  obtain ⟨n2, hn2⟩ : ∃ n, n = m.length := ⟨_, rfl⟩
  have HN1 := Lib.hid hn1
  have HN2 := Lib.hid hn2
  rw [← hn1] at HADD HCUT hl hc ⊢
  rw [← hn2] at HADD HCUT HSA HSC HTA HTC hm hd ⊢
  clear h1 h2 hn1 hn2
  have d1 : decide (60 < (n1 : Int)) = false := by simp; omega
  have d2 : decide (20 < (n2 : Int)) = false := by simp; omega
  go_enter Try.func4, Try.ntmps4
  go_wp2_with fail
  refine HADD.out.mono ?_
  rintro e w1 ⟨va, rfl, hra, hb1⟩
  obtain ⟨Aa, ca, rfl, hca, hcwa⟩ := hra.reads
  have G1 := Lib.hid (grow_of_below hb1)
  have A2 := Lib.hid (HCUT.out w1 G1.out)
  have HCA := Lib.hid hcwa
  clear HADD HCUT hra hb1 hcwa
  go_wp2_with fail
  refine A2.out.mono ?_
  rintro e w2 ⟨vc, rfl, hrc, hb2⟩
  obtain ⟨Ac, cc, rfl, hcc, hcwc⟩ := hrc.reads
  have G2 := Lib.hid (grow_trans G1.out (grow_of_below hb2))
  have HCA := Lib.hid (HCA.out.grow (grow_of_below hb2))
  have HCC := Lib.hid hcwc
  clear A2 hrc hb2 hcwc G1
  have e1 : IntKind.i64.wrap ((n2 : Int) - 1) = (n2 : Int) - 1 := by rw [IntKind.wrap_i64]; omega
  go_wp2_with fail
  go_loopw [9, 10, 11] (fun x y i wr => ∃ k : Nat, k ≤ n2 ∧ i = .int .i64 ((k : Int) - 1) ∧ (∃ Ax cx xs, x = .slice Ax xs.length cx ∧ Hid (xs.length ≤ cx ∧ CW wr Ax xs ∧ InvA l m k xs)) ∧ (∃ Ay cy ys, y = .slice Ay ys.length cy ∧ Hid (ys.length ≤ cy ∧ CW wr Ay ys ∧ InvC l m k ys)) ∧ Hid (w2.grownBy wr none)) (fun _ _ i _ => (intOf i + 1).toNat)
  case atStart => exact ⟨n2, Nat.le_refl _, rfl, ⟨A, c, l, by rw [HN1.out], by rw [← HN1.out]; exact ⟨hc, (HK.out _ G2.out).1, HSA.out⟩⟩, ⟨A, c, l, by rw [HN1.out], by rw [← HN1.out]; exact ⟨hc, (HK.out _ G2.out).1, HSC.out⟩⟩, .refl _ _⟩
  case round =>
    obtain ⟨k, hk, rfl, ⟨Ax, cx, xs, rfl, HXS⟩, ⟨Ay, cy, ys, rfl, HYS⟩, HG⟩ := hrel
    have hxl := HXS.out.2.2.1
    have hyl := HYS.out.2.2.1
    have G3 := Lib.hid (grow_trans G2.out HG.out)
    rcases Nat.eq_zero_or_pos k with h0 | h0
    · subst h0
      have e0 : (((0 : Nat) : Int) - 1) = -1 := by decide
      rw [e0]
      have H0 := Lib.hid (HCA.out.grow HG.out)
      have H1 := Lib.hid (HCC.out.grow HG.out)
      have HXa := Lib.hid (show xe = 0 → X = xs from fun h => HEA.out xs X HXS.out.2.2 (by rw [h]))
      have HYc := Lib.hid (show ye = 0 → Y = ys from fun h => HEC.out ys Y HYS.out.2.2 (by rw [h]))
      have HXW := Lib.hid HXS.out.2.1
      have HYW := Lib.hid HYS.out.2.1
      have hxc := HXS.out.1
      have hyc := HYS.out.1
      clear HXS HYS HSA HSC HTA HTC HEA HEC HA1 HC1 HCA HCC e0 HG
      go_wp2_with fail
      refine (muted_any wr).mono ?_
      rintro e w11 ⟨rfl, g11⟩
      have G4 := Lib.hid (grow_trans G3.out g11)
      have H0 := Lib.hid (H0.out.grow g11)
      have H1 := Lib.hid (H1.out.grow g11)
      have HXW := Lib.hid (HXW.out.grow g11)
      have HYW := Lib.hid (HYW.out.grow g11)
      clear g11 G3
      by_cases hx : xe = 0
      · have h := HXa.out hx
        subst hx
        subst h
        have S1 := Lib.hid (same_any Aa Ax ca cx X w11 H0.out HXW.out (by omega) hca hxc)
        by_cases hy : ye = 0
        · have h := HYc.out hy
          subst hy
          subst h
          clear HXa HYc
          go_wp2_with fail
          refine S1.out.mono ?_
          rintro e w12 ⟨rfl, j12, hw12⟩
          have g12 : w11.grownBy w12 none := by rw [hw12]; exact grow_drewN _ _
          have G5 := Lib.hid (grow_trans G4.out g12)
          have S2 := Lib.hid (same_any Ac Ay cc cy Y w12 (H1.out.grow g12) (HYW.out.grow g12) (by omega) hcc hyc)
          clear hw12 g12 S1
          go_wp2_with fail
          refine S2.out.mono ?_
          rintro e w13 ⟨rfl, j13, hw13⟩
          have G6 := Lib.hid (show w.grownBy w13 none from grow_trans G5.out (by rw [hw13]; exact grow_drewN _ _))
          clear hw13 S2
          go_wp2_with fail
          go_ret
          exact ⟨rfl, G6.out⟩
        · have hyb : (ye != 0) = true := by simpa using hy
          clear hy HXa HYc
          go_wp2_with fail
          refine S1.out.mono ?_
          rintro e w12 ⟨rfl, j12, hw12⟩
          have G5 := Lib.hid (show w.grownBy w12 none from grow_trans G4.out (by rw [hw12]; exact grow_drewN _ _))
          clear hw12 S1
          go_wp2_with fail
          go_ret
          exact ⟨rfl, G5.out⟩
      · have hxb : (xe != 0) = true := by simpa using hx
        clear hx HXa
        by_cases hy : ye = 0
        · have h := HYc.out hy
          subst hy
          subst h
          clear HYc
          have S2 := Lib.hid (same_any Ac Ay cc cy Y w11 H1.out HYW.out (by omega) hcc hyc)
          go_wp2_with fail
          refine S2.out.mono ?_
          rintro e w13 ⟨rfl, j13, hw13⟩
          have G6 := Lib.hid (show w.grownBy w13 none from grow_trans G4.out (by rw [hw13]; exact grow_drewN _ _))
          clear hw13 S2
          go_wp2_with fail
          go_ret
          exact ⟨rfl, G6.out⟩
        · have hyb : (ye != 0) = true := by simpa using hy
          clear hy HYc
          go_wp2_with fail
          go_ret
          exact ⟨rfl, G4.out⟩
    · obtain ⟨q, rfl⟩ : ∃ q, k = q + 1 := ⟨k - 1, by omega⟩
      have e0 : (((q + 1 : Nat) : Int) - 1) = (q : Int) := by omega
      rw [e0]
      have hqn : q < n2 := by omega
      have hq0 : (0 : Int) ≤ (q : Int) := by omega
      have hq1 : (q : Int) < (n2 : Int) := by omega
      have HMq := Lib.hid (show ∀ W, w.grownBy W none → _ from fun W g => (HK.out W g).2 q (by rw [← HN2.out]; exact hqn))
      obtain ⟨b, off, rfl, hbs, a0, a1, a2⟩ := HMq.out wr G3.out
      have HTq := Lib.hid (show ∀ R, turnV xs [m.getD q z32] true = (R, 0) → InvA l m q R from fun R h => HTA.out q xs R hqn HXS.out.2.2 h)
      have HTr := Lib.hid (show ∀ R, turnV ys [m.getD q z32] false = (R, 0) → InvC l m q R from fun R h => HTC.out q ys R hqn HYS.out.2.2 h)
      generalize m.getD q z32 = z at *
      have C1 := Lib.hid (HA1.out Ax (some ⟨wr.heap.size, 0, none⟩) cx xs z (wr.alloc (.cells #[.int .i64 z.f0, .int .i64 z.f1, .int .i64 z.f2] 32)) (HXS.out.2.1.grow (grow_alloc _ _)) (cw_new wr z) hxl)
      have HYW := Lib.hid HYS.out.2.1
      have HC2 := Lib.hid (fun W (g : wr.grownBy W none) => HC1.out Ay (some ⟨W.heap.size, 0, none⟩) cy ys z (W.alloc (.cells #[.int .i64 z.f0, .int .i64 z.f1, .int .i64 z.f2] 32)) ((HYW.out.grow g).grow (grow_alloc _ _)) (cw_new W z) hyl)
      generalize turnV xs [z] true = T1 at *
      generalize turnV ys [z] false = T2 at *
      obtain ⟨U1, gg⟩ := T1
      obtain ⟨V1, hh⟩ := T2
      obtain ⟨z0, z1, z2⟩ := z
      dsimp only at a0 a1 a2 C1 HC2
      clear HXS HYS HSA HSC HTA HTC HEA HEC HA1 HC1 HCA HCC e0 HYW
      go_wp2_with fail
      refine C1.out.mono ?_
      rintro e w11 ⟨vu, rfl, hru, hb11⟩
      obtain ⟨Au, cu, rfl, hcu, hcwu⟩ := hru.reads
      have g11 := grow_trans (grow_alloc wr (.cells #[.int .i64 z0, .int .i64 z1, .int .i64 z2] 32)) (grow_of_below hb11)
      have G4 := Lib.hid (grow_trans G3.out g11)
      have GG := Lib.hid (grow_trans HG.out g11)
      have HUW := Lib.hid hcwu
      obtain ⟨b', off', eA, hbs', a0', a1', a2'⟩ := HMq.out w11 G4.out
      cases eA
      have C2 := Lib.hid (HC2.out w11 g11)
      clear a0 a1 a2 hbs hru hb11 g11 hcwu C1 HC2 G3 HG
      go_wp2_with fail
      refine C2.out.mono ?_
      rintro e w12 ⟨vv, rfl, hrv, hb12⟩
      obtain ⟨Av, cv, rfl, hcv, hcwv⟩ := hrv.reads
      have g12 := grow_trans (grow_alloc w11 (.cells #[.int .i64 z0, .int .i64 z1, .int .i64 z2] 32)) (grow_of_below hb12)
      have G5 := Lib.hid (grow_trans G4.out g12)
      have GG := Lib.hid (grow_trans GG.out g12)
      have HUW := Lib.hid (HUW.out.grow g12)
      have HVW := Lib.hid hcwv
      clear a0' a1' a2' hbs' hrv hb12 g12 hcwv C2 G4
      have HMD := Lib.hid (muted_any w12)
      by_cases hg : gg = 0
      · subst hg
        by_cases hh0 : hh = 0
        · subst hh0
          have I1 := Lib.hid (HTq.out U1 rfl)
          have I2 := Lib.hid (HTr.out V1 rfl)
          clear HTq HTr HMD HMq
          go_wp2_with fail
          go_roundw
          case rel => exact ⟨q, by omega, rfl, ⟨Au, cu, U1, rfl, ⟨hcu, HUW.out, I1.out⟩⟩, ⟨Av, cv, V1, rfl, ⟨hcv, HVW.out, I2.out⟩⟩, GG.out⟩
          case measure => simp [intOf] <;> omega
        · have hb : (hh != 0) = true := by simpa using hh0
          clear hh0 HTq HTr
          go_wp2_with fail
          refine HMD.out.mono ?_
          rintro e w13 ⟨rfl, g13⟩
          have G6 := Lib.hid (grow_trans G5.out g13)
          clear g13 HMD
          go_wp2_with fail
          go_ret
          exact ⟨rfl, G6.out⟩
      · have hb : (gg != 0) = true := by simpa using hg
        clear hg HTq HTr
        go_wp2_with fail
        refine HMD.out.mono ?_
        rintro e w13 ⟨rfl, g13⟩
        have G6 := Lib.hid (grow_trans G5.out g13)
        clear g13 HMD
        go_wp2_with fail
        go_ret
        exact ⟨rfl, G6.out⟩
end Go.Proofs.Ytpchbdpepgeibaa
