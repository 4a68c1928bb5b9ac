-- PRINTED BY print.sh 35421559b90ae4d0a3588c463048766b98c2df88dd9212a6774a882060cdf62d: not written by this session
import Derived.Test.YtpchbdpepgeibaaPTillx0
namespace Go.Proofs.Ytpchbdpepgeibaa.PTill
open Go.RowKit Go.Proofs.YtpchbdpepgeibaaW.PrintWords Go.Proofs.YtpchbdpepgeibaaW.PrintLast Go.Proofs.YtpchbdpepgeibaaW.PrintMore
attribute [local go_sem] max2_int min2_int max_two min_two max_three min_three max_four min_four   -- for this text's walks alone
set_option linter.unusedVariables false
set_option linter.unusedSimpArgs false

/-! ### watchmanref10_Has: function 17 -/
def watchmanref10_Has.l0 : Nat → List (S32) → Int → Int → Int → Option (Bool)
  | 0, _, _, _, _ => none
  | k + 1, x0, x1, x2, x7 => if x7 < (x0.length : Int) then (if 0 ≤ x7 then (if ((rd_T32 x0 x7).f0) = x1 then (if ((rd_T32 x0 x7).f1) ≤ x2 then (if x2 < ((rd_T32 x0 x7).f2) then (some true) else (watchmanref10_Has.l0 k x0 x1 x2 (wrap64 (x7 + 1)))) else (watchmanref10_Has.l0 k x0 x1 x2 (wrap64 (x7 + 1)))) else (watchmanref10_Has.l0 k x0 x1 x2 (wrap64 (x7 + 1)))) else (none)) else (some false)
def watchmanref10_Has.f (k : Nat) (l0 : List (S32)) (a1 : Int) (a2 : Int) : Option (Bool) := watchmanref10_Has.l0 k l0 a1 a2 0
theorem watchmanref10_Has.mono_l : ∀ k, (∀ y0 y1 y2 y3, LeO (watchmanref10_Has.l0 k y0 y1 y2 y3) (watchmanref10_Has.l0 (k + 1) y0 y1 y2 y3))
  | 0 => fun _ _ _ _ r h => by simp [watchmanref10_Has.l0] at h
  | k + 1 => by
    have ih0 := watchmanref10_Has.mono_l k
    · intro y0 y1 y2 y3
      unfold watchmanref10_Has.l0
      repeat' first
      | (with_reducible exact ih0 _ _ _ _)
      | (with_reducible exact LeO.refl _)
      | (with_reducible exact LeO.none _)
      | (with_reducible refine LeO.ite ?_ ?_)
      | (with_reducible refine LeO.bind ?_ (fun _ => ?_))
      | exact ih0 _ _ _ _
      | exact LeO.none _
      | refine LeO.ite ?_ ?_
      | refine LeO.bind ?_ (fun _ => ?_)
theorem watchmanref10_Has.mono : ∀ a0 a1 a2 k, LeO (watchmanref10_Has.f k a0 a1 a2) (watchmanref10_Has.f (k + 1) a0 a1 a2) := by
  intro a0 a1 a2 k
  have ih0 := watchmanref10_Has.mono_l k
  unfold watchmanref10_Has.f
  repeat' first
      | (with_reducible exact ih0 _ _ _ _)
      | (with_reducible exact LeO.refl _)
      | (with_reducible exact LeO.none _)
      | (with_reducible refine LeO.ite ?_ ?_)
      | (with_reducible refine LeO.bind ?_ (fun _ => ?_))
      | exact ih0 _ _ _ _
      | exact LeO.none _
      | refine LeO.ite ?_ ?_
      | refine LeO.bind ?_ (fun _ => ?_)
set_option maxHeartbeats 8000000 in
set_option maxRecDepth 100000 in
theorem watchmanref10_Has.calls (k : Nat) (A0 : Option Addr) (c0 : Nat) (l0 : List (S32)) (a1 : Int) (a2 : Int) (r : Bool) (w : World) (hr0 : Kd.C k32 w A0 l0.length l0) (hc0 : l0.length ≤ c0) (h : watchmanref10_Has.f k l0 a1 a2 = some r) :
    Calls Try.prog 17 #[.slice A0 l0.length c0, .int .i64 a1, .int .i64 a2] w fun e w' => e = .returned (.bool r) ∧ Drawn0 w w' := by
  have HR0 := Aside0.mk hr0
  have HC0 := Aside0.mk hc0
  clear hr0 hc0
  have H : (watchmanref10_Has.l0 k l0 a1 a2 0) = some r := h
  clear h
  have H' := Aside0.mk H
  clear H
  go_enter Try.func17, Try.ntmps17
  go_wp2
  go_loopg [7] k (fun kq v7 w' => ∃ (x7_1 : Int), v7 = .int .i64 x7_1 ∧ Aside0 (watchmanref10_Has.l0 kq l0 a1 a2 x7_1 = some r) ∧ Aside0 (kq ≤ k) ∧ Drawn0 w w')
  case atStart => exact ⟨(0), (by first | rfl | (simp; done) | (simp [*]; done)), H', ⟨Nat.le_refl _⟩, by repeat (first | exact Drawn0.refl _ | apply Drawn0.step)⟩
  case round =>
    clear H'
    try clear c1
    try clear p2
    obtain ⟨x7_1, rfl, HA, HK1, ⟨m1, rfl⟩⟩ := hrel
    cases gk with
    | zero => exact absurd HA.out (by simp [watchmanref10_Has.l0])
    | succ k1 =>
      have H := HA.out
      clear HA
      simp only [watchmanref10_Has.l0] at H
      by_cases c4 : x7_1 < (l0.length : Int)
      · rw [if_pos c4] at H
        have c4b0 : decide (x7_1 < (l0.length : Int)) = true := decide_eq_true c4
        clear c4
        by_cases c5 : 0 ≤ x7_1
        · rw [if_pos c5] at H
          have c5b0 : decide (0 ≤ x7_1) = true := decide_eq_true c5
          clear c5
          by_cases c6 : ((rd_T32 l0 x7_1).f0) = a1
          · rw [if_pos c6] at H
            have c6b0 : (((rd_T32 l0 x7_1).f0) == a1) = true := beq_iff_eq.mpr c6
            have c6b1 : (((rd_T32 l0 x7_1).f0) != a1) = false := bne_eq_false_iff_eq.mpr c6
            clear c6
            by_cases c7 : ((rd_T32 l0 x7_1).f1) ≤ a2
            · rw [if_pos c7] at H
              have c7b0 : decide (((rd_T32 l0 x7_1).f1) ≤ a2) = true := decide_eq_true c7
              clear c7
              by_cases c8 : a2 < ((rd_T32 l0 x7_1).f2)
              · rw [if_pos c8] at H
                have c8b0 : decide (a2 < ((rd_T32 l0 x7_1).f2)) = true := decide_eq_true c8
                clear c8
                obtain rfl := Option.some.inj H
                have p101 : 0 ≤ (x7_1 : Int) := of_decide_eq_true (by first | (with_reducible assumption) | assumption)
                have q101 : x7_1 < (l0.length : Int) := of_decide_eq_true (by first | (with_reducible assumption) | assumption)
                obtain ⟨ad101, e101, hx101_0, hx101_1, hx101_2⟩ := at_T32 HR0.out x7_1 p101 q101
                cases e101
                replace p101 := eq_true p101
                replace q101 := eq_true q101
                have p102 : 0 ≤ (x7_1 : Int) := of_decide_eq_true (by first | (with_reducible assumption) | assumption)
                have q102 : x7_1 < (l0.length : Int) := of_decide_eq_true (by first | (with_reducible assumption) | assumption)
                obtain ⟨ad102, e102, hx102_0, hx102_1, hx102_2⟩ := at_T32 HR0.out x7_1 p102 q102
                obtain rfl : ad101 = ad102 := (by injection e102)
                replace p102 := eq_true p102
                replace q102 := eq_true q102
                have p103 : 0 ≤ (x7_1 : Int) := of_decide_eq_true (by first | (with_reducible assumption) | assumption)
                have q103 : x7_1 < (l0.length : Int) := of_decide_eq_true (by first | (with_reducible assumption) | assumption)
                obtain ⟨ad103, e103, hx103_0, hx103_1, hx103_2⟩ := at_T32 HR0.out x7_1 p103 q103
                obtain rfl : ad101 = ad103 := (by injection e103)
                replace p103 := eq_true p103
                replace q103 := eq_true q103
                go_wp2
                go_ret
                exact ⟨by first | rfl | (simp; done) | (simp [*]; done), by repeat (first | exact Drawn0.refl _ | apply Drawn0.step)⟩
              · rw [if_neg c8] at H
                have c8b0 : decide (a2 < ((rd_T32 l0 x7_1).f2)) = false := decide_eq_false c8
                clear c8
                have H' := Aside0.mk H
                clear H
                have p101 : 0 ≤ (x7_1 : Int) := of_decide_eq_true (by first | (with_reducible assumption) | assumption)
                have q101 : x7_1 < (l0.length : Int) := of_decide_eq_true (by first | (with_reducible assumption) | assumption)
                obtain ⟨ad101, e101, hx101_0, hx101_1, hx101_2⟩ := at_T32 HR0.out x7_1 p101 q101
                cases e101
                replace p101 := eq_true p101
                replace q101 := eq_true q101
                have p102 : 0 ≤ (x7_1 : Int) := of_decide_eq_true (by first | (with_reducible assumption) | assumption)
                have q102 : x7_1 < (l0.length : Int) := of_decide_eq_true (by first | (with_reducible assumption) | assumption)
                obtain ⟨ad102, e102, hx102_0, hx102_1, hx102_2⟩ := at_T32 HR0.out x7_1 p102 q102
                obtain rfl : ad101 = ad102 := (by injection e102)
                replace p102 := eq_true p102
                replace q102 := eq_true q102
                have p103 : 0 ≤ (x7_1 : Int) := of_decide_eq_true (by first | (with_reducible assumption) | assumption)
                have q103 : x7_1 < (l0.length : Int) := of_decide_eq_true (by first | (with_reducible assumption) | assumption)
                obtain ⟨ad103, e103, hx103_0, hx103_1, hx103_2⟩ := at_T32 HR0.out x7_1 p103 q103
                obtain rfl : ad101 = ad103 := (by injection e103)
                replace p103 := eq_true p103
                replace q103 := eq_true q103
                go_wp2
                go_roundg k1
                case measure => have := HK1.out; omega
                case rel => exact ⟨(wrap64 (x7_1 + 1)), (by first | rfl | (simp; done) | (simp [*]; done)), H', ⟨by have := HK1.out; omega⟩, by repeat (first | exact Drawn0.refl _ | apply Drawn0.step)⟩
            · rw [if_neg c7] at H
              have c7b0 : decide (((rd_T32 l0 x7_1).f1) ≤ a2) = false := decide_eq_false c7
              clear c7
              have H' := Aside0.mk H
              clear H
              have p101 : 0 ≤ (x7_1 : Int) := of_decide_eq_true (by first | (with_reducible assumption) | assumption)
              have q101 : x7_1 < (l0.length : Int) := of_decide_eq_true (by first | (with_reducible assumption) | assumption)
              obtain ⟨ad101, e101, hx101_0, hx101_1, hx101_2⟩ := at_T32 HR0.out x7_1 p101 q101
              cases e101
              replace p101 := eq_true p101
              replace q101 := eq_true q101
              have p102 : 0 ≤ (x7_1 : Int) := of_decide_eq_true (by first | (with_reducible assumption) | assumption)
              have q102 : x7_1 < (l0.length : Int) := of_decide_eq_true (by first | (with_reducible assumption) | assumption)
              obtain ⟨ad102, e102, hx102_0, hx102_1, hx102_2⟩ := at_T32 HR0.out x7_1 p102 q102
              obtain rfl : ad101 = ad102 := (by injection e102)
              replace p102 := eq_true p102
              replace q102 := eq_true q102
              go_wp2
              go_roundg k1
              case measure => have := HK1.out; omega
              case rel => exact ⟨(wrap64 (x7_1 + 1)), (by first | rfl | (simp; done) | (simp [*]; done)), H', ⟨by have := HK1.out; omega⟩, by repeat (first | exact Drawn0.refl _ | apply Drawn0.step)⟩
          · rw [if_neg c6] at H
            have c6b0 : (((rd_T32 l0 x7_1).f0) == a1) = false := beq_eq_false_iff_ne.mpr c6
            have c6b1 : (((rd_T32 l0 x7_1).f0) != a1) = true := bne_iff_ne.mpr c6
            have H' := Aside0.mk H
            clear H
            have p101 : 0 ≤ (x7_1 : Int) := of_decide_eq_true (by first | (with_reducible assumption) | assumption)
            have q101 : x7_1 < (l0.length : Int) := of_decide_eq_true (by first | (with_reducible assumption) | assumption)
            obtain ⟨ad101, e101, hx101_0, hx101_1, hx101_2⟩ := at_T32 HR0.out x7_1 p101 q101
            cases e101
            replace p101 := eq_true p101
            replace q101 := eq_true q101
            go_wp2
            go_roundg k1
            case measure => have := HK1.out; omega
            case rel => exact ⟨(wrap64 (x7_1 + 1)), (by first | rfl | (simp; done) | (simp [*]; done)), H', ⟨by have := HK1.out; omega⟩, by repeat (first | exact Drawn0.refl _ | apply Drawn0.step)⟩
        · rw [if_neg c5] at H
          exact absurd H (by simp)
      · rw [if_neg c4] at H
        have c4b0 : decide (x7_1 < (l0.length : Int)) = false := decide_eq_false c4
        clear c4
        obtain rfl := Option.some.inj H
        go_wp2
        go_ret
        exact ⟨by first | rfl | (simp; done) | (simp [*]; done), by repeat (first | exact Drawn0.refl _ | apply Drawn0.step)⟩

/-! ### watchmanref10_Till: function 11 -/
def watchmanref10_Till.l0 : Nat → List (S32) → Int → Int → Int → Option (Int × Bool)
  | 0, _, _, _, _ => none
  | k + 1, x0, x1, x2, x8 => if x8 < (x0.length : Int) then (if 0 ≤ x8 then (if x8 ≤ (wrap64 (x8 + 1)) then (if (wrap64 (x8 + 1)) ≤ (x0.length : Int) then ((watchmanref10_Has.f k ((x0.take ((wrap64 (x8 + 1)) : Int).toNat).drop (x8 : Int).toNat) x1 x2).bind fun t108 => (if t108 = true then (some ((rd_T32 x0 x8).f2, true)) else (watchmanref10_Till.l0 k x0 x1 x2 (wrap64 (x8 + 1))))) else (none)) else (none)) else (none)) else (some (0, false))
def watchmanref10_Till.f (k : Nat) (l0 : List (S32)) (a1 : Int) (a2 : Int) : Option (Int × Bool) := watchmanref10_Till.l0 k l0 a1 a2 0
theorem watchmanref10_Till.mono_l : ∀ k, (∀ y0 y1 y2 y3, LeO (watchmanref10_Till.l0 k y0 y1 y2 y3) (watchmanref10_Till.l0 (k + 1) y0 y1 y2 y3))
  | 0 => fun _ _ _ _ r h => by simp [watchmanref10_Till.l0] at h
  | k + 1 => by
    have ih0 := watchmanref10_Till.mono_l k
    · intro y0 y1 y2 y3
      unfold watchmanref10_Till.l0
      repeat' first
      | (with_reducible exact ih0 _ _ _ _)
      | (with_reducible exact watchmanref10_Has.mono _ _ _ _)
      | (with_reducible exact LeO.refl _)
      | (with_reducible exact LeO.none _)
      | (with_reducible refine LeO.ite ?_ ?_)
      | (with_reducible refine LeO.bind ?_ (fun _ => ?_))
      | exact ih0 _ _ _ _
      | exact watchmanref10_Has.mono _ _ _ _
      | exact LeO.none _
      | refine LeO.ite ?_ ?_
      | refine LeO.bind ?_ (fun _ => ?_)
theorem watchmanref10_Till.mono : ∀ a0 a1 a2 k, LeO (watchmanref10_Till.f k a0 a1 a2) (watchmanref10_Till.f (k + 1) a0 a1 a2) := by
  intro a0 a1 a2 k
  have ih0 := watchmanref10_Till.mono_l k
  unfold watchmanref10_Till.f
  repeat' first
      | (with_reducible exact ih0 _ _ _ _)
      | (with_reducible exact watchmanref10_Has.mono _ _ _ _)
      | (with_reducible exact LeO.refl _)
      | (with_reducible exact LeO.none _)
      | (with_reducible refine LeO.ite ?_ ?_)
      | (with_reducible refine LeO.bind ?_ (fun _ => ?_))
      | exact ih0 _ _ _ _
      | exact watchmanref10_Has.mono _ _ _ _
      | exact LeO.none _
      | refine LeO.ite ?_ ?_
      | refine LeO.bind ?_ (fun _ => ?_)
set_option maxHeartbeats 8000000 in
set_option maxRecDepth 100000 in
theorem watchmanref10_Till.calls (k : Nat) (A0 : Option Addr) (c0 : Nat) (l0 : List (S32)) (a1 : Int) (a2 : Int) (r1 : Int) (r2 : Bool) (w : World) (hr0 : Kd.C k32 w A0 l0.length l0) (hc0 : l0.length ≤ c0) (h : watchmanref10_Till.f k l0 a1 a2 = some (r1, r2)) :
    Calls Try.prog 11 #[.slice A0 l0.length c0, .int .i64 a1, .int .i64 a2] w fun e w' => e = .returned (.tuple #[.int .i64 r1, .bool r2]) ∧ Drawn0 w w' := by
  have HR0 := Aside0.mk hr0
  have HC0 := Aside0.mk hc0
  clear hr0 hc0
  have H : (watchmanref10_Till.l0 k l0 a1 a2 0) = some (r1, r2) := h
  clear h
  have H' := Aside0.mk H
  clear H
  go_enter Try.func11, Try.ntmps11
  go_wp2
  go_loopg [8] k (fun kq v8 w' => ∃ (x8_1 : Int), v8 = .int .i64 x8_1 ∧ Aside0 (watchmanref10_Till.l0 kq l0 a1 a2 x8_1 = some (r1, r2)) ∧ Aside0 (kq ≤ k) ∧ Drawn0 w w')
  case atStart => exact ⟨(0), (by first | rfl | (simp; done) | (simp [*]; done)), H', ⟨Nat.le_refl _⟩, by repeat (first | exact Drawn0.refl _ | apply Drawn0.step)⟩
  case round =>
    clear H'
    try clear c1
    try clear p2
    obtain ⟨x8_1, rfl, HA, HK1, ⟨m1, rfl⟩⟩ := hrel
    cases gk with
    | zero => exact absurd HA.out (by simp [watchmanref10_Till.l0])
    | succ k1 =>
      have H := HA.out
      clear HA
      simp only [watchmanref10_Till.l0] at H
      by_cases c4 : x8_1 < (l0.length : Int)
      · rw [if_pos c4] at H
        have c4b0 : decide (x8_1 < (l0.length : Int)) = true := decide_eq_true c4
        clear c4
        by_cases c5 : 0 ≤ x8_1
        · rw [if_pos c5] at H
          have c5b0 := eq_true c5
          have c5b1 : decide (0 ≤ x8_1) = true := decide_eq_true c5
          clear c5
          by_cases c6 : x8_1 ≤ (wrap64 (x8_1 + 1))
          · rw [if_pos c6] at H
            have c6b0 := eq_true c6
            have c6b1 : decide (x8_1 ≤ (wrap64 (x8_1 + 1))) = true := decide_eq_true c6
            by_cases c7 : (wrap64 (x8_1 + 1)) ≤ (l0.length : Int)
            · rw [if_pos c7] at H
              have c7b0 := eq_true c7
              have c7b1 : decide ((wrap64 (x8_1 + 1)) ≤ (l0.length : Int)) = true := decide_eq_true c7
              obtain ⟨y104, hy104⟩ : ∃ y_ : List (S32), y_ = ((l0.take ((wrap64 (x8_1 + 1)) : Int).toNat).drop (x8_1 : Int).toNat) := ⟨_, rfl⟩
              replace H : ((watchmanref10_Has.f k1 y104 a1 a2).bind fun t108 => (if t108 = true then (some ((rd_T32 l0 x8_1).f2, true)) else (watchmanref10_Till.l0 k1 l0 a1 a2 (wrap64 (x8_1 + 1))))) = some (r1, r2) := by first | (rw [hy104]; with_reducible exact H) | (have H2_ := (Option.bind_some _ _).symm.trans H; rw [hy104]; with_reducible exact H2_) | (have H2_ := (Option.bind_some _ _).symm.trans H; with_reducible exact H2_) | with_reducible exact H | (rw [hy104]; exact H) | exact H
              have Ny104 := Aside0.mk hy104
              clear hy104
              replace H := Option.bind_eq_some_iff.mp H
              obtain ⟨t108, A80, H⟩ := H
              replace H : (if t108 = true then (some ((rd_T32 l0 x8_1).f2, true)) else (watchmanref10_Till.l0 k1 l0 a1 a2 (wrap64 (x8_1 + 1)))) = some (r1, r2) := H
              have A8 := Aside0.mk A80
              clear A80
              by_cases c9 : t108 = true
              · subst c9
                have H1 : (some ((rd_T32 l0 x8_1).f2, true)) = some (r1, r2) := by rw [if_pos rfl] at H; exact H
                clear H
                have H := H1
                clear H1
                simp only [Option.some.injEq, Prod.mk.injEq] at H
                obtain ⟨rfl, rfl⟩ := H
                have q10 : ((wrap64 (x8_1 + 1)) : Int) ≤ ((l0.length : Int) : Int) := of_decide_eq_true (by first | (with_reducible assumption) | assumption)
                obtain ⟨i010, hi010, _, hsz10, _⟩ := info_parts info32
                have hroom10 : l0.length ≤ c0 := HC0.out
                have hC10 : Kd.C k32 _ A0 l0.length l0 := HR0.out
                have ql10 : (x8_1 : Int) ≤ ((wrap64 (x8_1 + 1)) : Int) := of_decide_eq_true (by first | (with_reducible assumption) | assumption)
                have q010 : (0 : Int) ≤ (x8_1 : Int) := of_decide_eq_true (by first | (with_reducible assumption) | assumption)
                have hcut10 := cut_mid (P := Try.prog) 22 32 .i64 .i64 Try.underlying22 hi010 3 hsz10 A0 l0.length c0 x8_1 (wrap64 (x8_1 + 1)) q010 ql10 q10 hroom10
                have hr10 := Kd.C_mid (lo := (x8_1 : Int).toNat) (hi := ((wrap64 (x8_1 + 1)) : Int).toNat) (c := c0) hC10 (by omega) (by omega) hroom10
                obtain ⟨A10, hA10⟩ : ∃ A1, A1 = (if c0 = (x8_1 : Int).toNat then A0 else (A0 : Option Addr).map (·.add ((x8_1 : Int).toNat * 3))) := ⟨_, rfl⟩
                obtain ⟨c10, hc10⟩ : ∃ c1, c1 = c0 - (x8_1 : Int).toNat := ⟨_, rfl⟩
                have hy10 : y104.length = ((wrap64 (x8_1 + 1)) : Int).toNat - (x8_1 : Int).toNat := (by rw [Ny104.out, List.length_drop, List.length_take] <;> omega)
                rw [show ((l0).take ((wrap64 (x8_1 + 1)) : Int).toNat).drop (x8_1 : Int).toNat = y104 from Ny104.out.symm] at hr10
                replace hr10 : Kd.C k32 _ A10 y104.length y104 := (by rw [hA10]; exact hr10)
                rw [← hy10, ← hA10, ← hc10] at hcut10
                have HR107 := Aside0.mk hr10
                have HC107 := Aside0.mk (show y104.length ≤ c10 from by rw [hy10, hc10]; exact Nat.sub_le_sub_right (Nat.le_trans (by omega) hroom10) _)
                clear hr10 hC10 hroom10 hi010 hsz10 hc10
                have KY10 := Aside0.mk hy10
                have KA10 := Aside0.mk hA10
                clear hy10 hA10
                replace q10 := eq_true q10
                go_wp2_with (first | ((with_reducible refine gate_callee (f := 17) rfl ?_); refine goesL_ (some 22) rfl rfl Try.func17 (by kernel_rfl) rfl #[.slice A10 y104.length c10, .int .i64 a1, .int .i64 a2] rfl (by (try simp only [List.map_toArray, List.map_cons, List.map_nil]); first | done | rfl | (simp only [List.length_drop, List.length_take]; rfl)) ?_; (with_reducible refine (watchmanref10_Has.calls k1 _ _ y104 a1 a2 true _ ?side1 ?side2 A8.out).mono ?_); (case side1 => repeat (first | exact HR107.out | (with_reducible refine Kd.C_alloc ?_ _) | (with_reducible refine Kd.C_drewN ?_ _) | (with_reducible refine Kd.C_drew ?_))); (case side2 => exact HC107.out); rintro e w' ⟨rfl, ⟨nd, rfl⟩⟩; refine ⟨_, rfl, ?_⟩; have p109 : 0 ≤ (x8_1 : Int) := of_decide_eq_true (by first | (with_reducible assumption) | assumption); have q109 : x8_1 < (l0.length : Int) := of_decide_eq_true (by first | (with_reducible assumption) | assumption); obtain ⟨ad109, e109, hx109_0, hx109_1, hx109_2⟩ := at_T32 HR0.out x8_1 p109 q109; cases e109; replace p109 := eq_true p109; replace q109 := eq_true q109))
                go_ret2
                exact ⟨by first | rfl | (simp; done) | (simp [*]; done), by repeat (first | exact Drawn0.refl _ | apply Drawn0.step)⟩
              · replace c9 := Bool.eq_false_iff.mpr c9
                subst c9
                have H1 : (watchmanref10_Till.l0 k1 l0 a1 a2 (wrap64 (x8_1 + 1))) = some (r1, r2) := by rw [if_neg (show ¬ (false = true) by decide)] at H; exact H
                clear H
                have H := H1
                clear H1
                have H' := Aside0.mk H
                clear H
                have q11 : ((wrap64 (x8_1 + 1)) : Int) ≤ ((l0.length : Int) : Int) := of_decide_eq_true (by first | (with_reducible assumption) | assumption)
                obtain ⟨i011, hi011, _, hsz11, _⟩ := info_parts info32
                have hroom11 : l0.length ≤ c0 := HC0.out
                have hC11 : Kd.C k32 _ A0 l0.length l0 := HR0.out
                have ql11 : (x8_1 : Int) ≤ ((wrap64 (x8_1 + 1)) : Int) := of_decide_eq_true (by first | (with_reducible assumption) | assumption)
                have q011 : (0 : Int) ≤ (x8_1 : Int) := of_decide_eq_true (by first | (with_reducible assumption) | assumption)
                have hcut11 := cut_mid (P := Try.prog) 22 32 .i64 .i64 Try.underlying22 hi011 3 hsz11 A0 l0.length c0 x8_1 (wrap64 (x8_1 + 1)) q011 ql11 q11 hroom11
                have hr11 := Kd.C_mid (lo := (x8_1 : Int).toNat) (hi := ((wrap64 (x8_1 + 1)) : Int).toNat) (c := c0) hC11 (by omega) (by omega) hroom11
                obtain ⟨A11, hA11⟩ : ∃ A1, A1 = (if c0 = (x8_1 : Int).toNat then A0 else (A0 : Option Addr).map (·.add ((x8_1 : Int).toNat * 3))) := ⟨_, rfl⟩
                obtain ⟨c11, hc11⟩ : ∃ c1, c1 = c0 - (x8_1 : Int).toNat := ⟨_, rfl⟩
                have hy11 : y104.length = ((wrap64 (x8_1 + 1)) : Int).toNat - (x8_1 : Int).toNat := (by rw [Ny104.out, List.length_drop, List.length_take] <;> omega)
                rw [show ((l0).take ((wrap64 (x8_1 + 1)) : Int).toNat).drop (x8_1 : Int).toNat = y104 from Ny104.out.symm] at hr11
                replace hr11 : Kd.C k32 _ A11 y104.length y104 := (by rw [hA11]; exact hr11)
                rw [← hy11, ← hA11, ← hc11] at hcut11
                have HR107 := Aside0.mk hr11
                have HC107 := Aside0.mk (show y104.length ≤ c11 from by rw [hy11, hc11]; exact Nat.sub_le_sub_right (Nat.le_trans (by omega) hroom11) _)
                clear hr11 hC11 hroom11 hi011 hsz11 hc11
                have KY11 := Aside0.mk hy11
                have KA11 := Aside0.mk hA11
                clear hy11 hA11
                replace q11 := eq_true q11
                go_wp2_with (first | ((with_reducible refine gate_callee (f := 17) rfl ?_); refine goesL_ (some 22) rfl rfl Try.func17 (by kernel_rfl) rfl #[.slice A11 y104.length c11, .int .i64 a1, .int .i64 a2] rfl (by (try simp only [List.map_toArray, List.map_cons, List.map_nil]); first | done | rfl | (simp only [List.length_drop, List.length_take]; rfl)) ?_; (with_reducible refine (watchmanref10_Has.calls k1 _ _ y104 a1 a2 false _ ?side1 ?side2 A8.out).mono ?_); (case side1 => repeat (first | exact HR107.out | (with_reducible refine Kd.C_alloc ?_ _) | (with_reducible refine Kd.C_drewN ?_ _) | (with_reducible refine Kd.C_drew ?_))); (case side2 => exact HC107.out); rintro e w' ⟨rfl, ⟨nd, rfl⟩⟩; refine ⟨_, rfl, ?_⟩))
                go_roundg k1
                case measure => have := HK1.out; omega
                case rel => exact ⟨(wrap64 (x8_1 + 1)), (by first | rfl | (simp; done) | (simp [*]; done)), H', ⟨by have := HK1.out; omega⟩, by repeat (first | exact Drawn0.refl _ | apply Drawn0.step)⟩
            · rw [if_neg c7] at H
              exact absurd H (by simp)
          · rw [if_neg c6] at H
            exact absurd H (by simp)
        · rw [if_neg c5] at H
          exact absurd H (by simp)
      · rw [if_neg c4] at H
        have c4b0 : decide (x8_1 < (l0.length : Int)) = false := decide_eq_false c4
        clear c4
        simp only [Option.some.injEq, Prod.mk.injEq] at H
        obtain ⟨rfl, rfl⟩ := H
        go_wp2
        go_ret2
        exact ⟨by first | rfl | (simp; done) | (simp [*]; done), by repeat (first | exact Drawn0.refl _ | apply Drawn0.step)⟩

end Go.Proofs.Ytpchbdpepgeibaa.PTill
