-- PRINTED BY print.sh 35421559b90ae4d0a3588c463048766b98c2df88dd9212a6774a882060cdf62d: not written by this session
import Derived.Test.YtiamkjokiapanaaDoorPTallyDoesx0
namespace Go.Proofs.YtiamkjokiapanaaDoor.PTallyDoes
open Go.RowKit Go.Proofs.YtiamkjokiapanaaDoorW.PrintWords Go.Proofs.YtiamkjokiapanaaDoorW.PrintLast Go.Proofs.YtiamkjokiapanaaDoorW.PrintMore
attribute [local go_sem] max2_int min2_int max_two min_two max_three min_three max_four min_four   -- for this text's walks alone
set_option linter.unusedVariables false
set_option linter.unusedSimpArgs false

/-! ### watchmanref01_Own: function 8 -/
def watchmanref01_Own.f (l0 : List Int) : Option (List Int) := if ([] : List Int).length + l0.length < 17592186044416 then (some (([] : List Int) ++ l0)) else (none)
set_option maxHeartbeats 8000000 in
set_option maxRecDepth 100000 in
theorem watchmanref01_Own.calls (A0 : Option Addr) (c0 : Nat) (l0 : List Int) (r : List Int) (w : World) (hr0 : Kd.C (Kd.int .i64) w A0 l0.length l0) (hc0 : l0.length ≤ c0) (h : watchmanref01_Own.f l0 = some r) :
    Calls Tryd.prog 8 #[.slice A0 l0.length c0] w fun e w' => ∃ v0_ : Value, e = .returned (v0_) ∧ Kd.R (Kd.int .i64) 3 w' w.heap.size (fun _ => True) v0_ r ∧ Below w.heap.size w w' := by
  have HR0 := Aside0.mk hr0
  have HC0 := Aside0.mk hc0
  clear hr0 hc0
  have HB := Aside0.mk (Below.refl w.heap.size w)
  have H : (if ([] : List Int).length + l0.length < 17592186044416 then (some (([] : List Int) ++ l0)) else (none)) = some r := h
  clear h
  by_cases c2 : ([] : List Int).length + l0.length < 17592186044416
  · rw [if_pos c2] at H
    have LMc2 := Aside0.mk c2
    clear c2
    obtain ⟨y101, hy101⟩ : ∃ y_ : List Int, y_ = (([] : List Int) ++ l0) := ⟨_, rfl⟩
    replace H : (some y101) = some r := by first | (rw [hy101]; with_reducible exact H) | (have H2_ := (Option.bind_some _ _).symm.trans H; rw [hy101]; with_reducible exact H2_) | (have H2_ := (Option.bind_some _ _).symm.trans H; with_reducible exact H2_) | with_reducible exact H | (rw [hy101]; exact H) | exact H
    have Ny101 := Aside0.mk hy101
    clear hy101
    obtain rfl := Option.some.inj H
    go_enter Tryd.func8, Tryd.ntmps8
    go_wp2_with (first | ((with_reducible refine gate_builtin (b := .append) (xs := #[.tmp 4, .tmp 5]) rfl ?_); at_builtin; refine Kd.R_append_rows (Kd.int .i64) (w0 := w) w.heap.size rfl (.tmp 4) (.tmp 5) 22 3 (.int .i64 0) 8 rfl Tryd.underlying22 info3 rfl (by decide) (by omega) (.slice none 0 0) ([] : List Int) l0 _ _ _ (fun _ => True) (fun _ => False) rfl rfl ?aO ?aR (fun _ _ h => h) (fun _ h => h.elim) ?aF ?aB ?aS ?aL ?_; (case aR => repeat (first | exact HR0.out | (with_reducible refine Kd.C_alloc ?_ _) | (with_reducible refine Kd.C_drewN ?_ _) | (with_reducible refine Kd.C_drew ?_))); (case aB => exact (by repeat (first | (with_reducible first | exact HB.out | apply below_alloc | apply pw_below_drewN | apply below_drew1) | exact HB.out))); (case aF => exact (fun _ _ => trivial)); (case aO => exact ((Kd.R_nil _ _ _ _ (fun _ => True)))); (case aS => exact (below_size (by repeat (first | (with_reducible first | exact HB.out | apply below_alloc | apply pw_below_drewN | apply below_drew1) | exact HB.out)))); (case aL => have := LMc2.out; omega); intro v102 w3 ho hb hg hat; rw [← Ny101.out] at ho; have n0_ := Aside0.mk (hb); have n1_ := Aside0.mk (ho); clear HB; have HB := n0_; have HO103 := n1_; clear n0_ n1_; clear ho hb hg hat))
    go_ret
    exact ⟨_, by first | rfl | (simp [errW_none, errW_some] <;> rfl) | (simp [*, errW_none, errW_some] <;> rfl), by (with_reducible repeat (first | apply Kd.R_alloc | apply Kd.R_drewN | apply Kd.R_drew)); exact HO103.out, by repeat (first | (with_reducible first | exact HB.out | apply below_alloc | apply pw_below_drewN | apply below_drew1) | exact HB.out)⟩
  · rw [if_neg c2] at H
    exact absurd H (by simp)

/-! ### tally_most: function 25 -/
def tally_most.f (a0 : Int) : Option (Int × Bool) := if a0 ≥ 1 then (some (wrap64 ((wrap64 (Int.tdiv a0 2)) + 1), decide (a0 ≤ 7))) else (some (wrap64 ((wrap64 (Int.tdiv a0 2)) + 1), false))
set_option maxHeartbeats 8000000 in
set_option maxRecDepth 100000 in
theorem tally_most.calls (a0 : Int) (r1 : Int) (r2 : Bool) (w : World) (h : tally_most.f a0 = some (r1, r2)) :
    Calls Tryd.prog 25 #[.int .i64 a0] w fun e w' => e = .returned (.tuple #[.int .i64 r1, .bool r2]) ∧ Drawn0 w w' := by
  have H : (if a0 ≥ 1 then (some (wrap64 ((wrap64 (Int.tdiv a0 2)) + 1), decide (a0 ≤ 7))) else (some (wrap64 ((wrap64 (Int.tdiv a0 2)) + 1), false))) = some (r1, r2) := h
  clear h
  by_cases c2 : a0 ≥ 1
  · rw [if_pos c2] at H
    have c2b0 : decide (1 ≤ a0) = true := decide_eq_true c2
    clear c2
    simp only [Option.some.injEq, Prod.mk.injEq] at H
    obtain ⟨rfl, rfl⟩ := H
    go_enter Tryd.func25, Tryd.ntmps25
    go_wp2
    go_ret2
    exact ⟨by first | rfl | (simp; done) | (simp [*]; done), by repeat (first | exact Drawn0.refl _ | apply Drawn0.step)⟩
  · rw [if_neg c2] at H
    have c2b0 : decide (1 ≤ a0) = false := decide_eq_false c2
    clear c2
    simp only [Option.some.injEq, Prod.mk.injEq] at H
    obtain ⟨rfl, rfl⟩ := H
    go_enter Tryd.func25, Tryd.ntmps25
    go_wp2
    go_ret2
    exact ⟨by first | rfl | (simp; done) | (simp [*]; done), by repeat (first | exact Drawn0.refl _ | apply Drawn0.step)⟩

/-! ### tally_Leader: function 9 -/
def tally_Leader.f (a0 : Int) (a1 : Int) : Option (Int × Bool) := (tally_most.f a1).bind fun bt104 => (if bt104.2 = true then (if a0 < 0 then (some (0, false)) else (if a1 = 0 then (none) else (some (Int.tmod a0 a1, true)))) else (some (0, false)))
set_option maxHeartbeats 8000000 in
set_option maxRecDepth 100000 in
theorem tally_Leader.calls (a0 : Int) (a1 : Int) (r1 : Int) (r2 : Bool) (w : World) (h : tally_Leader.f a0 a1 = some (r1, r2)) :
    Calls Tryd.prog 9 #[.int .i64 a0, .int .i64 a1] w fun e w' => e = .returned (.tuple #[.int .i64 r1, .bool r2]) ∧ Drawn0 w w' := by
  have H : ((tally_most.f a1).bind fun bt104 => (if bt104.2 = true then (if a0 < 0 then (some (0, false)) else (if a1 = 0 then (none) else (some (Int.tmod a0 a1, true)))) else (some (0, false)))) = some (r1, r2) := h
  clear h
  replace H := Option.bind_eq_some_iff.mp H
  obtain ⟨⟨t104, t105⟩, A30, H⟩ := H
  replace H : (if t105 = true then (if a0 < 0 then (some (0, false)) else (if a1 = 0 then (none) else (some (Int.tmod a0 a1, true)))) else (some (0, false))) = some (r1, r2) := H
  have A3 := Aside0.mk A30
  clear A30
  by_cases c4 : t105 = true
  · subst c4
    have H1 : (if a0 < 0 then (some (0, false)) else (if a1 = 0 then (none) else (some (Int.tmod a0 a1, true)))) = some (r1, r2) := by rw [if_pos rfl] at H; exact H
    clear H
    have H := H1
    clear H1
    by_cases c5 : a0 < 0
    · rw [if_pos c5] at H
      have c5b0 : decide (a0 < 0) = true := decide_eq_true c5
      clear c5
      simp only [Option.some.injEq, Prod.mk.injEq] at H
      obtain ⟨rfl, rfl⟩ := H
      go_enter Tryd.func9, Tryd.ntmps9
      go_wp2_with (first | ((with_reducible refine gate_callee (f := 25) rfl ?_); refine goesL_ (some 10) rfl rfl Tryd.func25 (by kernel_rfl) rfl #[.int .i64 a1] rfl (by (try simp only [List.map_toArray, List.map_cons, List.map_nil]); first | done | rfl | (simp only [List.length_drop, List.length_take]; rfl)) ?_; (with_reducible refine (tally_most.calls a1 t104 true _ A3.out).mono ?_); rintro e w' ⟨rfl, ⟨nd, rfl⟩⟩; refine ⟨_, rfl, ?_⟩))
      go_ret2
      exact ⟨by first | rfl | (simp; done) | (simp [*]; done), by repeat (first | exact Drawn0.refl _ | apply Drawn0.step)⟩
    · rw [if_neg c5] at H
      have c5b0 : decide (a0 < 0) = false := decide_eq_false c5
      clear c5
      by_cases c6 : a1 = 0
      · rw [if_pos c6] at H
        exact absurd H (by simp)
      · rw [if_neg c6] at H
        have c6b0 : (a1 == 0) = false := beq_eq_false_iff_ne.mpr c6
        have c6b1 : (a1 != 0) = true := bne_iff_ne.mpr c6
        simp only [Option.some.injEq, Prod.mk.injEq] at H
        obtain ⟨rfl, rfl⟩ := H
        go_enter Tryd.func9, Tryd.ntmps9
        go_wp2_with (first | ((with_reducible refine gate_callee (f := 25) rfl ?_); refine goesL_ (some 10) rfl rfl Tryd.func25 (by kernel_rfl) rfl #[.int .i64 a1] rfl (by (try simp only [List.map_toArray, List.map_cons, List.map_nil]); first | done | rfl | (simp only [List.length_drop, List.length_take]; rfl)) ?_; (with_reducible refine (tally_most.calls a1 t104 true _ A3.out).mono ?_); rintro e w' ⟨rfl, ⟨nd, rfl⟩⟩; refine ⟨_, rfl, ?_⟩))
        go_ret2
        exact ⟨by first | rfl | (simp; done) | (simp [*]; done), by repeat (first | exact Drawn0.refl _ | apply Drawn0.step)⟩
  · replace c4 := Bool.eq_false_iff.mpr c4
    subst c4
    have H1 : (some (0, false)) = some (r1, r2) := by rw [if_neg (show ¬ (false = true) by decide)] at H; exact H
    clear H
    have H := H1
    clear H1
    simp only [Option.some.injEq, Prod.mk.injEq] at H
    obtain ⟨rfl, rfl⟩ := H
    go_enter Tryd.func9, Tryd.ntmps9
    go_wp2_with (first | ((with_reducible refine gate_callee (f := 25) rfl ?_); refine goesL_ (some 10) rfl rfl Tryd.func25 (by kernel_rfl) rfl #[.int .i64 a1] rfl (by (try simp only [List.map_toArray, List.map_cons, List.map_nil]); first | done | rfl | (simp only [List.length_drop, List.length_take]; rfl)) ?_; (with_reducible refine (tally_most.calls a1 t104 false _ A3.out).mono ?_); rintro e w' ⟨rfl, ⟨nd, rfl⟩⟩; refine ⟨_, rfl, ?_⟩))
    go_ret2
    exact ⟨by first | rfl | (simp; done) | (simp [*]; done), by repeat (first | exact Drawn0.refl _ | apply Drawn0.step)⟩

/-! ### watchmanref22_Leader: function 10 -/
def watchmanref22_Leader.f (a0 : Int) (a1 : Int) : Option (Int × Bool) := if a0 < 0 then (some (0, false)) else (if a1 < 1 then (some (0, false)) else (if a1 > 7 then (some (0, false)) else (if a1 = 0 then (none) else (some (Int.tmod a0 a1, true)))))
set_option maxHeartbeats 8000000 in
set_option maxRecDepth 100000 in
theorem watchmanref22_Leader.calls (a0 : Int) (a1 : Int) (r1 : Int) (r2 : Bool) (w : World) (h : watchmanref22_Leader.f a0 a1 = some (r1, r2)) :
    Calls Tryd.prog 10 #[.int .i64 a0, .int .i64 a1] w fun e w' => e = .returned (.tuple #[.int .i64 r1, .bool r2]) ∧ Drawn0 w w' := by
  have H : (if a0 < 0 then (some (0, false)) else (if a1 < 1 then (some (0, false)) else (if a1 > 7 then (some (0, false)) else (if a1 = 0 then (none) else (some (Int.tmod a0 a1, true)))))) = some (r1, r2) := h
  clear h
  by_cases c3 : a0 < 0
  · rw [if_pos c3] at H
    have c3b0 : decide (a0 < 0) = true := decide_eq_true c3
    clear c3
    simp only [Option.some.injEq, Prod.mk.injEq] at H
    obtain ⟨rfl, rfl⟩ := H
    go_enter Tryd.func10, Tryd.ntmps10
    go_wp2
    go_ret2
    exact ⟨by first | rfl | (simp; done) | (simp [*]; done), by repeat (first | exact Drawn0.refl _ | apply Drawn0.step)⟩
  · rw [if_neg c3] at H
    have c3b0 : decide (a0 < 0) = false := decide_eq_false c3
    clear c3
    by_cases c4 : a1 < 1
    · rw [if_pos c4] at H
      have c4b0 : decide (a1 < 1) = true := decide_eq_true c4
      clear c4
      simp only [Option.some.injEq, Prod.mk.injEq] at H
      obtain ⟨rfl, rfl⟩ := H
      go_enter Tryd.func10, Tryd.ntmps10
      go_wp2
      go_ret2
      exact ⟨by first | rfl | (simp; done) | (simp [*]; done), by repeat (first | exact Drawn0.refl _ | apply Drawn0.step)⟩
    · rw [if_neg c4] at H
      have c4b0 : decide (a1 < 1) = false := decide_eq_false c4
      clear c4
      by_cases c5 : a1 > 7
      · rw [if_pos c5] at H
        have c5b0 : decide (7 < a1) = true := decide_eq_true c5
        clear c5
        simp only [Option.some.injEq, Prod.mk.injEq] at H
        obtain ⟨rfl, rfl⟩ := H
        go_enter Tryd.func10, Tryd.ntmps10
        go_wp2
        go_ret2
        exact ⟨by first | rfl | (simp; done) | (simp [*]; done), by repeat (first | exact Drawn0.refl _ | apply Drawn0.step)⟩
      · rw [if_neg c5] at H
        have c5b0 : decide (7 < a1) = false := decide_eq_false c5
        clear c5
        by_cases c6 : a1 = 0
        · rw [if_pos c6] at H
          exact absurd H (by simp)
        · rw [if_neg c6] at H
          have c6b0 : (a1 == 0) = false := beq_eq_false_iff_ne.mpr c6
          have c6b1 : (a1 != 0) = true := bne_iff_ne.mpr c6
          simp only [Option.some.injEq, Prod.mk.injEq] at H
          obtain ⟨rfl, rfl⟩ := H
          go_enter Tryd.func10, Tryd.ntmps10
          go_wp2
          go_ret2
          exact ⟨by first | rfl | (simp; done) | (simp [*]; done), by repeat (first | exact Drawn0.refl _ | apply Drawn0.step)⟩

/-! ### tally_right: function 26 -/
def tally_right.f (a0 : Int) : Option (Int) := if a0 < 0 then (some 0) else (if a0 > 127 then (some 0) else (some a0))
set_option maxHeartbeats 8000000 in
set_option maxRecDepth 100000 in
theorem tally_right.calls (a0 : Int) (r : Int) (w : World) (h : tally_right.f a0 = some r) :
    Calls Tryd.prog 26 #[.int .i64 a0] w fun e w' => e = .returned (.int .i64 r) ∧ Drawn0 w w' := by
  have H : (if a0 < 0 then (some 0) else (if a0 > 127 then (some 0) else (some a0))) = some r := h
  clear h
  by_cases c2 : a0 < 0
  · rw [if_pos c2] at H
    have c2b0 : decide (a0 < 0) = true := decide_eq_true c2
    clear c2
    obtain rfl := Option.some.inj H
    go_enter Tryd.func26, Tryd.ntmps26
    go_wp2
    go_ret
    exact ⟨by first | rfl | (simp; done) | (simp [*]; done), by repeat (first | exact Drawn0.refl _ | apply Drawn0.step)⟩
  · rw [if_neg c2] at H
    have c2b0 : decide (a0 < 0) = false := decide_eq_false c2
    clear c2
    by_cases c3 : a0 > 127
    · rw [if_pos c3] at H
      have c3b0 : decide (127 < a0) = true := decide_eq_true c3
      clear c3
      obtain rfl := Option.some.inj H
      go_enter Tryd.func26, Tryd.ntmps26
      go_wp2
      go_ret
      exact ⟨by first | rfl | (simp; done) | (simp [*]; done), by repeat (first | exact Drawn0.refl _ | apply Drawn0.step)⟩
    · rw [if_neg c3] at H
      have c3b0 : decide (127 < a0) = false := decide_eq_false c3
      clear c3
      obtain rfl := Option.some.inj H
      go_enter Tryd.func26, Tryd.ntmps26
      go_wp2
      go_ret
      exact ⟨by first | rfl | (simp; done) | (simp [*]; done), by repeat (first | exact Drawn0.refl _ | apply Drawn0.step)⟩

/-! ### tally_may: function 27 -/
def tally_may.f (a0 : Int) : Option (Bool) := if a0 ≥ 0 then (some (decide (a0 < 7))) else (some false)
set_option maxHeartbeats 8000000 in
set_option maxRecDepth 100000 in
theorem tally_may.calls (a0 : Int) (r : Bool) (w : World) (h : tally_may.f a0 = some r) :
    Calls Tryd.prog 27 #[.int .i64 a0] w fun e w' => e = .returned (.bool r) ∧ Drawn0 w w' := by
  have H : (if a0 ≥ 0 then (some (decide (a0 < 7))) else (some false)) = some r := h
  clear h
  by_cases c2 : a0 ≥ 0
  · rw [if_pos c2] at H
    have c2b0 : decide (0 ≤ a0) = true := decide_eq_true c2
    clear c2
    obtain rfl := Option.some.inj H
    go_enter Tryd.func27, Tryd.ntmps27
    go_wp2
    go_ret
    exact ⟨by first | rfl | (simp; done) | (simp [*]; done), by repeat (first | exact Drawn0.refl _ | apply Drawn0.step)⟩
  · rw [if_neg c2] at H
    have c2b0 : decide (0 ≤ a0) = false := decide_eq_false c2
    clear c2
    obtain rfl := Option.some.inj H
    go_enter Tryd.func27, Tryd.ntmps27
    go_wp2
    go_ret
    exact ⟨by first | rfl | (simp; done) | (simp [*]; done), by repeat (first | exact Drawn0.refl _ | apply Drawn0.step)⟩

/-! ### tally_Add: function 11 -/
def tally_Add.l0 : Nat → Int → List Int → Int → Int → Option (Int)
  | 0, _, _, _, _ => none
  | k + 1, x0, x9, x10, x11 => if x11 < x10 then (if 0 ≤ x11 then (if x11 < (x9.length : Int) then ((tally_may.f (rd x9 x11)).bind fun t108 => (if t108 = true then (if 0 ≤ (rd x9 x11) then (tally_Add.l0 k (Go.bits .or .i64 x0 (shl .i64 1 (rd x9 x11))) x9 x10 (wrap64 (x11 + 1))) else (none)) else (tally_Add.l0 k x0 x9 x10 (wrap64 (x11 + 1))))) else (none)) else (none)) else (some x0)
def tally_Add.f (k : Nat) (a0 : Int) (l1 : List Int) : Option (Int) := (tally_right.f a0).bind fun t106 => (tally_Add.l0 k t106 l1 (l1.length : Int) 0)
theorem tally_Add.mono_l : ∀ k, (∀ y0 y1 y2 y3, LeO (tally_Add.l0 k y0 y1 y2 y3) (tally_Add.l0 (k + 1) y0 y1 y2 y3))
  | 0 => fun _ _ _ _ r h => by simp [tally_Add.l0] at h
  | k + 1 => by
    have ih0 := tally_Add.mono_l k
    · intro y0 y1 y2 y3
      unfold tally_Add.l0
      repeat' first
      | (with_reducible exact ih0 _ _ _ _)
      | (with_reducible exact LeO.refl _)
      | (with_reducible exact LeO.none _)
      | (with_reducible refine LeO.ite ?_ ?_)
      | (with_reducible refine LeO.bind ?_ (fun _ => ?_))
      | exact ih0 _ _ _ _
      | exact LeO.none _
      | refine LeO.ite ?_ ?_
      | refine LeO.bind ?_ (fun _ => ?_)
theorem tally_Add.mono : ∀ a0 a1 k, LeO (tally_Add.f k a0 a1) (tally_Add.f (k + 1) a0 a1) := by
  intro a0 a1 k
  have ih0 := tally_Add.mono_l k
  unfold tally_Add.f
  repeat' first
      | (with_reducible exact ih0 _ _ _ _)
      | (with_reducible exact LeO.refl _)
      | (with_reducible exact LeO.none _)
      | (with_reducible refine LeO.ite ?_ ?_)
      | (with_reducible refine LeO.bind ?_ (fun _ => ?_))
      | exact ih0 _ _ _ _
      | exact LeO.none _
      | refine LeO.ite ?_ ?_
      | refine LeO.bind ?_ (fun _ => ?_)
set_option maxHeartbeats 8000000 in
set_option maxRecDepth 100000 in
theorem tally_Add.calls (k : Nat) (a0 : Int) (A1 : Option Addr) (c1 : Nat) (l1 : List Int) (r : Int) (w : World) (hr1 : Kd.C (Kd.int .i64) w A1 l1.length l1) (hc1 : l1.length ≤ c1) (h : tally_Add.f k a0 l1 = some r) :
    Calls Tryd.prog 11 #[.int .i64 a0, .slice A1 l1.length c1] w fun e w' => e = .returned (.int .i64 r) ∧ Drawn0 w w' := by
  have HR1 := Aside0.mk hr1
  have HC1 := Aside0.mk hc1
  clear hr1 hc1
  have H : ((tally_right.f a0).bind fun t106 => (tally_Add.l0 k t106 l1 (l1.length : Int) 0)) = some r := h
  clear h
  replace H := Option.bind_eq_some_iff.mp H
  obtain ⟨t106, A30, H⟩ := H
  replace H : (tally_Add.l0 k t106 l1 (l1.length : Int) 0) = some r := H
  have A3 := Aside0.mk A30
  clear A30
  have H' := Aside0.mk H
  clear H
  go_enter Tryd.func11, Tryd.ntmps11
  go_wp2_with (first | ((with_reducible refine gate_callee (f := 26) rfl ?_); refine goesL_ (some 8) rfl rfl Tryd.func26 (by kernel_rfl) rfl #[.int .i64 a0] rfl (by (try simp only [List.map_toArray, List.map_cons, List.map_nil]); first | done | rfl | (simp only [List.length_drop, List.length_take]; rfl)) ?_; (with_reducible refine (tally_right.calls a0 t106 _ A3.out).mono ?_); rintro e w' ⟨rfl, ⟨nd, rfl⟩⟩; refine ⟨_, rfl, ?_⟩))
  go_loopg [0, 11] k (fun kq v0 v11 w' => ∃ (x0_1 : Int) (x11_1 : Int), v0 = .int .i64 x0_1 ∧ v11 = .int .i64 x11_1 ∧ Aside0 (tally_Add.l0 kq x0_1 l1 (l1.length : Int) x11_1 = some r) ∧ Aside0 (kq ≤ k) ∧ Drawn0 w w')
  case atStart => exact ⟨(t106), (0), (by first | rfl | (simp; done) | (simp [*]; done)), (by first | rfl | (simp; done) | (simp [*]; done)), H', ⟨Nat.le_refl _⟩, by repeat (first | exact Drawn0.refl _ | apply Drawn0.step)⟩
  case round =>
    clear H'
    try clear c1
    try clear c2
    try clear p2
    obtain ⟨x0_1, x11_1, rfl, rfl, HA, HK1, ⟨m1, rfl⟩⟩ := hrel
    cases gk with
    | zero => exact absurd HA.out (by simp [tally_Add.l0])
    | succ k1 =>
      have H := HA.out
      clear HA
      simp only [tally_Add.l0] at H
      by_cases c4 : x11_1 < (l1.length : Int)
      · rw [if_pos c4] at H
        have c4b0 : decide (x11_1 < (l1.length : Int)) = true := decide_eq_true c4
        clear c4
        by_cases c5 : 0 ≤ x11_1
        · rw [if_pos c5] at H
          have c5b0 : decide (0 ≤ x11_1) = true := decide_eq_true c5
          clear c5
          by_cases c6 : x11_1 < (l1.length : Int)
          · rw [if_pos c6] at H
            have c6b0 : decide (x11_1 < (l1.length : Int)) = true := decide_eq_true c6
            clear c6
            replace H := Option.bind_eq_some_iff.mp H
            obtain ⟨t108, A70, H⟩ := H
            replace H : (if t108 = true then (if 0 ≤ (rd l1 x11_1) then (tally_Add.l0 k1 (Go.bits .or .i64 x0_1 (shl .i64 1 (rd l1 x11_1))) l1 (l1.length : Int) (wrap64 (x11_1 + 1))) else (none)) else (tally_Add.l0 k1 x0_1 l1 (l1.length : Int) (wrap64 (x11_1 + 1)))) = some r := H
            have A7 := Aside0.mk A70
            clear A70
            by_cases c8 : t108 = true
            · subst c8
              have H1 : (if 0 ≤ (rd l1 x11_1) then (tally_Add.l0 k1 (Go.bits .or .i64 x0_1 (shl .i64 1 (rd l1 x11_1))) l1 (l1.length : Int) (wrap64 (x11_1 + 1))) else (none)) = some r := by rw [if_pos rfl] at H; exact H
              clear H
              have H := H1
              clear H1
              by_cases c9 : 0 ≤ (rd l1 x11_1)
              · rw [if_pos c9] at H
                have c9b0 := eq_true c9
                have c9b1 : decide (0 ≤ (rd l1 x11_1)) = true := decide_eq_true c9
                clear c9
                obtain ⟨ji10, hji10⟩ : ∃ j_ : Int, (shl .i64 1 (rd l1 x11_1)) = j_ := ⟨_, rfl⟩
                replace H : (tally_Add.l0 k1 (Go.bits .or .i64 x0_1 (ji10)) l1 (l1.length : Int) (wrap64 (x11_1 + 1))) = some r := by first | (rw [hji10] at H; exact H) | (simp only [hji10] at H ⊢; exact H)
                (try rw [hji10] at A7)
                have hji10_ : (IntKind.i64.wrap (1 * 2 ^ min (rd l1 x11_1).toNat 64)) = ji10 := hji10
                have hji10z : (rd l1 x11_1) ≤ 64 → (IntKind.i64.wrap (1 * 2 ^ (rd l1 x11_1).toNat)) = ji10 := shl_small hji10
                have hji10u : (IntKind.i64.wrap (2 ^ min (rd l1 x11_1).toNat 64)) = ji10 := by have h_ := hji10_; rw [Int.one_mul] at h_; exact h_
                have hji10v : (rd l1 x11_1) ≤ 64 → (IntKind.i64.wrap (2 ^ (rd l1 x11_1).toNat)) = ji10 := fun hle_ => by have h_ := hji10z hle_; rw [Int.one_mul] at h_; exact h_
                have hji10y : (wrap64 (1 * 2 ^ min (rd l1 x11_1).toNat 64)) = ji10 := (i64_w _).symm.trans hji10_
                have hji10x : (rd l1 x11_1) ≤ 64 → (wrap64 (1 * 2 ^ (rd l1 x11_1).toNat)) = ji10 := fun h_ => (i64_w _).symm.trans (hji10z h_)
                have H' := Aside0.mk H
                clear H
                have p107 : 0 ≤ (x11_1 : Int) := of_decide_eq_true (by first | (with_reducible assumption) | assumption)
                have q107 : x11_1 < (l1.length : Int) := of_decide_eq_true (by first | (with_reducible assumption) | assumption)
                obtain ⟨ad107, e107, hx107_0⟩ := Kd.at_int HR1.out x11_1 p107 q107
                cases e107
                replace p107 := eq_true p107
                replace q107 := eq_true q107
                go_wp2_with (first | ((with_reducible refine gate_callee (f := 27) rfl ?_); refine goesL_ (some 16) rfl rfl Tryd.func27 (by kernel_rfl) rfl #[.int .i64 (rd l1 x11_1)] rfl (by (try simp only [List.map_toArray, List.map_cons, List.map_nil]); first | done | rfl | (simp only [List.length_drop, List.length_take]; rfl)) ?_; (with_reducible refine (tally_may.calls (rd l1 x11_1) true _ A7.out).mono ?_); rintro e w' ⟨rfl, ⟨nd, rfl⟩⟩; refine ⟨_, rfl, ?_⟩))
                go_roundg k1
                case measure => have := HK1.out; omega
                case rel => exact ⟨(Go.bits .or .i64 x0_1 (ji10)), (wrap64 (x11_1 + 1)), (by first | rfl | (simp; done) | (simp only [← hji10] <;> (first | rfl | simp)) | (simp [*]; done)), (by first | rfl | (simp; done) | (simp [*]; done)), H', ⟨by have := HK1.out; omega⟩, by repeat (first | exact Drawn0.refl _ | apply Drawn0.step)⟩
              · rw [if_neg c9] at H
                exact absurd H (by simp)
            · replace c8 := Bool.eq_false_iff.mpr c8
              subst c8
              have H1 : (tally_Add.l0 k1 x0_1 l1 (l1.length : Int) (wrap64 (x11_1 + 1))) = some r := by rw [if_neg (show ¬ (false = true) by decide)] at H; exact H
              clear H
              have H := H1
              clear H1
              have H' := Aside0.mk H
              clear H
              have p107 : 0 ≤ (x11_1 : Int) := of_decide_eq_true (by first | (with_reducible assumption) | assumption)
              have q107 : x11_1 < (l1.length : Int) := of_decide_eq_true (by first | (with_reducible assumption) | assumption)
              obtain ⟨ad107, e107, hx107_0⟩ := Kd.at_int HR1.out x11_1 p107 q107
              cases e107
              replace p107 := eq_true p107
              replace q107 := eq_true q107
              go_wp2_with (first | ((with_reducible refine gate_callee (f := 27) rfl ?_); refine goesL_ (some 16) rfl rfl Tryd.func27 (by kernel_rfl) rfl #[.int .i64 (rd l1 x11_1)] rfl (by (try simp only [List.map_toArray, List.map_cons, List.map_nil]); first | done | rfl | (simp only [List.length_drop, List.length_take]; rfl)) ?_; (with_reducible refine (tally_may.calls (rd l1 x11_1) false _ A7.out).mono ?_); rintro e w' ⟨rfl, ⟨nd, rfl⟩⟩; refine ⟨_, rfl, ?_⟩))
              go_roundg k1
              case measure => have := HK1.out; omega
              case rel => exact ⟨(x0_1), (wrap64 (x11_1 + 1)), (by first | rfl | (simp; done) | (simp [*]; done)), (by first | rfl | (simp; done) | (simp [*]; done)), H', ⟨by have := HK1.out; omega⟩, by repeat (first | exact Drawn0.refl _ | apply Drawn0.step)⟩
          · rw [if_neg c6] at H
            exact absurd H (by simp)
        · rw [if_neg c5] at H
          exact absurd H (by simp)
      · rw [if_neg c4] at H
        have c4b0 : decide (x11_1 < (l1.length : Int)) = false := decide_eq_false c4
        clear c4
        obtain rfl := Option.some.inj H
        go_wp2
        go_ret
        exact ⟨by first | rfl | (simp; done) | (simp [*]; done), by repeat (first | exact Drawn0.refl _ | apply Drawn0.step)⟩

/-! ### watchmanref22_power: function 28 -/
def watchmanref22_power.l0 : Nat → Int → Int → Int → Option (Int)
  | 0, _, _, _ => none
  | k + 1, x0, x3, x4 => if x4 < x0 then (watchmanref22_power.l0 k x0 (wrap64 (2 * x3)) (wrap64 (x4 + 1))) else (some x3)
def watchmanref22_power.f (k : Nat) (a0 : Int) : Option (Int) := watchmanref22_power.l0 k a0 1 0
theorem watchmanref22_power.mono_l : ∀ k, (∀ y0 y1 y2, LeO (watchmanref22_power.l0 k y0 y1 y2) (watchmanref22_power.l0 (k + 1) y0 y1 y2))
  | 0 => fun _ _ _ r h => by simp [watchmanref22_power.l0] at h
  | k + 1 => by
    have ih0 := watchmanref22_power.mono_l k
    · intro y0 y1 y2
      unfold watchmanref22_power.l0
      repeat' first
      | (with_reducible exact ih0 _ _ _)
      | (with_reducible exact LeO.refl _)
      | (with_reducible exact LeO.none _)
      | (with_reducible refine LeO.ite ?_ ?_)
      | (with_reducible refine LeO.bind ?_ (fun _ => ?_))
      | exact ih0 _ _ _
      | exact LeO.none _
      | refine LeO.ite ?_ ?_
      | refine LeO.bind ?_ (fun _ => ?_)
theorem watchmanref22_power.mono : ∀ a0 k, LeO (watchmanref22_power.f k a0) (watchmanref22_power.f (k + 1) a0) := by
  intro a0 k
  have ih0 := watchmanref22_power.mono_l k
  unfold watchmanref22_power.f
  repeat' first
      | (with_reducible exact ih0 _ _ _)
      | (with_reducible exact LeO.refl _)
      | (with_reducible exact LeO.none _)
      | (with_reducible refine LeO.ite ?_ ?_)
      | (with_reducible refine LeO.bind ?_ (fun _ => ?_))
      | exact ih0 _ _ _
      | exact LeO.none _
      | refine LeO.ite ?_ ?_
      | refine LeO.bind ?_ (fun _ => ?_)
set_option maxHeartbeats 8000000 in
set_option maxRecDepth 100000 in
theorem watchmanref22_power.calls (k : Nat) (a0 : Int) (r : Int) (w : World) (h : watchmanref22_power.f k a0 = some r) :
    Calls Tryd.prog 28 #[.int .i64 a0] w fun e w' => e = .returned (.int .i64 r) ∧ Drawn0 w w' := by
  have H : (watchmanref22_power.l0 k a0 1 0) = some r := h
  clear h
  have H' := Aside0.mk H
  clear H
  go_enter Tryd.func28, Tryd.ntmps28
  go_wp2
  go_loopg [3, 4] k (fun kq v3 v4 w' => ∃ (x3_1 : Int) (x4_1 : Int), v3 = .int .i64 x3_1 ∧ v4 = .int .i64 x4_1 ∧ Aside0 (watchmanref22_power.l0 kq a0 x3_1 x4_1 = some r) ∧ Aside0 (kq ≤ k) ∧ Drawn0 w w')
  case atStart => exact ⟨(1), (0), (by first | rfl | (simp; done) | (simp [*]; done)), (by first | rfl | (simp; done) | (simp [*]; done)), H', ⟨Nat.le_refl _⟩, by repeat (first | exact Drawn0.refl _ | apply Drawn0.step)⟩
  case round =>
    clear H'
    obtain ⟨x3_1, x4_1, rfl, rfl, HA, HK1, ⟨m1, rfl⟩⟩ := hrel
    cases gk with
    | zero => exact absurd HA.out (by simp [watchmanref22_power.l0])
    | succ k1 =>
      have H := HA.out
      clear HA
      simp only [watchmanref22_power.l0] at H
      by_cases c2 : x4_1 < a0
      · rw [if_pos c2] at H
        have c2b0 : decide (x4_1 < a0) = true := decide_eq_true c2
        clear c2
        have H' := Aside0.mk H
        clear H
        go_wp2
        go_roundg k1
        case measure => have := HK1.out; omega
        case rel => exact ⟨(wrap64 (2 * x3_1)), (wrap64 (x4_1 + 1)), (by first | rfl | (simp; done) | (simp [*]; done)), (by first | rfl | (simp; done) | (simp [*]; done)), H', ⟨by have := HK1.out; omega⟩, by repeat (first | exact Drawn0.refl _ | apply Drawn0.step)⟩
      · rw [if_neg c2] at H
        have c2b0 : decide (x4_1 < a0) = false := decide_eq_false c2
        clear c2
        obtain rfl := Option.some.inj H
        go_wp2
        go_ret
        exact ⟨by first | rfl | (simp; done) | (simp [*]; done), by repeat (first | exact Drawn0.refl _ | apply Drawn0.step)⟩

/-! ### watchmanref22_Has: function 14 -/
def watchmanref22_Has.f (k : Nat) (a0 : Int) (a1 : Int) : Option (Bool) := if a0 < 0 then (some false) else (if a0 > 127 then (some false) else (if a1 < 0 then (some false) else (if a1 > 6 then (some false) else ((watchmanref22_power.f k a1).bind fun t109 => (if t109 = 0 then (none) else (some ((Int.tmod (wrap64 (Int.tdiv a0 t109)) 2) == 1)))))))
theorem watchmanref22_Has.mono : ∀ a0 a1 k, LeO (watchmanref22_Has.f k a0 a1) (watchmanref22_Has.f (k + 1) a0 a1) := by
  intro a0 a1 k
  unfold watchmanref22_Has.f
  repeat' first
      | (with_reducible exact watchmanref22_power.mono _ _)
      | (with_reducible exact LeO.refl _)
      | (with_reducible exact LeO.none _)
      | (with_reducible refine LeO.ite ?_ ?_)
      | (with_reducible refine LeO.bind ?_ (fun _ => ?_))
      | exact watchmanref22_power.mono _ _
      | exact LeO.none _
      | refine LeO.ite ?_ ?_
      | refine LeO.bind ?_ (fun _ => ?_)
set_option maxHeartbeats 8000000 in
set_option maxRecDepth 100000 in
theorem watchmanref22_Has.calls (k : Nat) (a0 : Int) (a1 : Int) (r : Bool) (w : World) (h : watchmanref22_Has.f k a0 a1 = some r) :
    Calls Tryd.prog 14 #[.int .i64 a0, .int .i64 a1] w fun e w' => e = .returned (.bool r) ∧ Drawn0 w w' := by
  have H : (if a0 < 0 then (some false) else (if a0 > 127 then (some false) else (if a1 < 0 then (some false) else (if a1 > 6 then (some false) else ((watchmanref22_power.f k a1).bind fun t109 => (if t109 = 0 then (none) else (some ((Int.tmod (wrap64 (Int.tdiv a0 t109)) 2) == 1)))))))) = some r := h
  clear h
  by_cases c3 : a0 < 0
  · rw [if_pos c3] at H
    have c3b0 : decide (a0 < 0) = true := decide_eq_true c3
    clear c3
    obtain rfl := Option.some.inj H
    go_enter Tryd.func14, Tryd.ntmps14
    go_wp2
    go_ret
    exact ⟨by first | rfl | (simp; done) | (simp [*]; done), by repeat (first | exact Drawn0.refl _ | apply Drawn0.step)⟩
  · rw [if_neg c3] at H
    have c3b0 : decide (a0 < 0) = false := decide_eq_false c3
    clear c3
    by_cases c4 : a0 > 127
    · rw [if_pos c4] at H
      have c4b0 : decide (127 < a0) = true := decide_eq_true c4
      clear c4
      obtain rfl := Option.some.inj H
      go_enter Tryd.func14, Tryd.ntmps14
      go_wp2
      go_ret
      exact ⟨by first | rfl | (simp; done) | (simp [*]; done), by repeat (first | exact Drawn0.refl _ | apply Drawn0.step)⟩
    · rw [if_neg c4] at H
      have c4b0 : decide (127 < a0) = false := decide_eq_false c4
      clear c4
      by_cases c5 : a1 < 0
      · rw [if_pos c5] at H
        have c5b0 : decide (a1 < 0) = true := decide_eq_true c5
        clear c5
        obtain rfl := Option.some.inj H
        go_enter Tryd.func14, Tryd.ntmps14
        go_wp2
        go_ret
        exact ⟨by first | rfl | (simp; done) | (simp [*]; done), by repeat (first | exact Drawn0.refl _ | apply Drawn0.step)⟩
      · rw [if_neg c5] at H
        have c5b0 : decide (a1 < 0) = false := decide_eq_false c5
        clear c5
        by_cases c6 : a1 > 6
        · rw [if_pos c6] at H
          have c6b0 : decide (6 < a1) = true := decide_eq_true c6
          clear c6
          obtain rfl := Option.some.inj H
          go_enter Tryd.func14, Tryd.ntmps14
          go_wp2
          go_ret
          exact ⟨by first | rfl | (simp; done) | (simp [*]; done), by repeat (first | exact Drawn0.refl _ | apply Drawn0.step)⟩
        · rw [if_neg c6] at H
          have c6b0 : decide (6 < a1) = false := decide_eq_false c6
          clear c6
          replace H := Option.bind_eq_some_iff.mp H
          obtain ⟨t109, A70, H⟩ := H
          replace H : (if t109 = 0 then (none) else (some ((Int.tmod (wrap64 (Int.tdiv a0 t109)) 2) == 1))) = some r := H
          have A7 := Aside0.mk A70
          clear A70
          by_cases c8 : t109 = 0
          · rw [if_pos c8] at H
            exact absurd H (by simp)
          · rw [if_neg c8] at H
            have c8b0 : (t109 == 0) = false := beq_eq_false_iff_ne.mpr c8
            have c8b1 : (t109 != 0) = true := bne_iff_ne.mpr c8
            obtain rfl := Option.some.inj H
            go_enter Tryd.func14, Tryd.ntmps14
            go_wp2_with (first | ((with_reducible refine gate_callee (f := 28) rfl ?_); refine goesL_ (some 21) rfl rfl Tryd.func28 (by kernel_rfl) rfl #[.int .i64 a1] rfl (by (try simp only [List.map_toArray, List.map_cons, List.map_nil]); first | done | rfl | (simp only [List.length_drop, List.length_take]; rfl)) ?_; (with_reducible refine (watchmanref22_power.calls k a1 t109 _ A7.out).mono ?_); rintro e w' ⟨rfl, ⟨nd, rfl⟩⟩; refine ⟨_, rfl, ?_⟩))
            go_ret
            exact ⟨by first | rfl | (simp; done) | (simp [*]; done), by repeat (first | exact Drawn0.refl _ | apply Drawn0.step)⟩

/-! ### watchmanref22_Add: function 12 -/
mutual
def watchmanref22_Add.j0 : Nat → Int → List Int → Bool → Option (Int)
  | 0, _, _, _ => none
  | k + 1, x0, x1, x11 => if x11 = true then (watchmanref22_Add.j1 k 0 x1) else (watchmanref22_Add.j1 k x0 x1)
def watchmanref22_Add.j1 : Nat → Int → List Int → Option (Int)
  | 0, _, _ => none
  | k + 1, x0, x1 => watchmanref22_Add.l0 k x0 x1 0
def watchmanref22_Add.l0 : Nat → Int → List Int → Int → Option (Int)
  | 0, _, _, _ => none
  | k + 1, x0, x1, x5 => if x5 < (x1.length : Int) then (if 0 ≤ x5 then (if (rd x1 x5) ≥ 0 then (if (rd x1 x5) ≤ 6 then ((watchmanref22_Has.f k x0 (rd x1 x5)).bind fun t113 => (if t113 = true then (watchmanref22_Add.l0 k x0 x1 (wrap64 (x5 + 1))) else ((watchmanref22_power.f k (rd x1 x5)).bind fun t115 => (watchmanref22_Add.l0 k (wrap64 (x0 + t115)) x1 (wrap64 (x5 + 1)))))) else (watchmanref22_Add.l0 k x0 x1 (wrap64 (x5 + 1)))) else (watchmanref22_Add.l0 k x0 x1 (wrap64 (x5 + 1)))) else (none)) else (some x0)
end
def watchmanref22_Add.f (k : Nat) (a0 : Int) (l1 : List Int) : Option (Int) := if a0 < 0 then (watchmanref22_Add.j0 k a0 l1 true) else (watchmanref22_Add.j0 k a0 l1 (decide (a0 > 127)))
theorem watchmanref22_Add.mono_l : ∀ k, (∀ y0 y1 y2, LeO (watchmanref22_Add.j0 k y0 y1 y2) (watchmanref22_Add.j0 (k + 1) y0 y1 y2)) ∧ (∀ y0 y1, LeO (watchmanref22_Add.j1 k y0 y1) (watchmanref22_Add.j1 (k + 1) y0 y1)) ∧ (∀ y0 y1 y2, LeO (watchmanref22_Add.l0 k y0 y1 y2) (watchmanref22_Add.l0 (k + 1) y0 y1 y2))
  | 0 => ⟨fun _ _ _ r h => by simp [watchmanref22_Add.j0] at h, fun _ _ r h => by simp [watchmanref22_Add.j1] at h, fun _ _ _ r h => by simp [watchmanref22_Add.l0] at h⟩
  | k + 1 => by
    obtain ⟨ih0, ih1, ih2⟩ := watchmanref22_Add.mono_l k
    refine ⟨?_, ?_, ?_⟩
    · intro y0 y1 y2
      unfold watchmanref22_Add.j0
      repeat' first
      | (with_reducible exact ih0 _ _ _)
      | (with_reducible exact ih1 _ _)
      | (with_reducible exact ih2 _ _ _)
      | (with_reducible exact watchmanref22_Has.mono _ _ _)
      | (with_reducible exact watchmanref22_power.mono _ _)
      | (with_reducible exact LeO.refl _)
      | (with_reducible exact LeO.none _)
      | (with_reducible refine LeO.ite ?_ ?_)
      | (with_reducible refine LeO.bind ?_ (fun _ => ?_))
      | exact ih0 _ _ _
      | exact ih1 _ _
      | exact ih2 _ _ _
      | exact watchmanref22_Has.mono _ _ _
      | exact watchmanref22_power.mono _ _
      | exact LeO.none _
      | refine LeO.ite ?_ ?_
      | refine LeO.bind ?_ (fun _ => ?_)
    · intro y0 y1
      unfold watchmanref22_Add.j1
      repeat' first
      | (with_reducible exact ih0 _ _ _)
      | (with_reducible exact ih1 _ _)
      | (with_reducible exact ih2 _ _ _)
      | (with_reducible exact watchmanref22_Has.mono _ _ _)
      | (with_reducible exact watchmanref22_power.mono _ _)
      | (with_reducible exact LeO.refl _)
      | (with_reducible exact LeO.none _)
      | (with_reducible refine LeO.ite ?_ ?_)
      | (with_reducible refine LeO.bind ?_ (fun _ => ?_))
      | exact ih0 _ _ _
      | exact ih1 _ _
      | exact ih2 _ _ _
      | exact watchmanref22_Has.mono _ _ _
      | exact watchmanref22_power.mono _ _
      | exact LeO.none _
      | refine LeO.ite ?_ ?_
      | refine LeO.bind ?_ (fun _ => ?_)
    · intro y0 y1 y2
      unfold watchmanref22_Add.l0
      repeat' first
      | (with_reducible exact ih0 _ _ _)
      | (with_reducible exact ih1 _ _)
      | (with_reducible exact ih2 _ _ _)
      | (with_reducible exact watchmanref22_Has.mono _ _ _)
      | (with_reducible exact watchmanref22_power.mono _ _)
      | (with_reducible exact LeO.refl _)
      | (with_reducible exact LeO.none _)
      | (with_reducible refine LeO.ite ?_ ?_)
      | (with_reducible refine LeO.bind ?_ (fun _ => ?_))
      | exact ih0 _ _ _
      | exact ih1 _ _
      | exact ih2 _ _ _
      | exact watchmanref22_Has.mono _ _ _
      | exact watchmanref22_power.mono _ _
      | exact LeO.none _
      | refine LeO.ite ?_ ?_
      | refine LeO.bind ?_ (fun _ => ?_)
theorem watchmanref22_Add.mono : ∀ a0 a1 k, LeO (watchmanref22_Add.f k a0 a1) (watchmanref22_Add.f (k + 1) a0 a1) := by
  intro a0 a1 k
  obtain ⟨ih0, ih1, ih2⟩ := watchmanref22_Add.mono_l k
  unfold watchmanref22_Add.f
  repeat' first
      | (with_reducible exact ih0 _ _ _)
      | (with_reducible exact ih1 _ _)
      | (with_reducible exact ih2 _ _ _)
      | (with_reducible exact watchmanref22_Has.mono _ _ _)
      | (with_reducible exact watchmanref22_power.mono _ _)
      | (with_reducible exact LeO.refl _)
      | (with_reducible exact LeO.none _)
      | (with_reducible refine LeO.ite ?_ ?_)
      | (with_reducible refine LeO.bind ?_ (fun _ => ?_))
      | exact ih0 _ _ _
      | exact ih1 _ _
      | exact ih2 _ _ _
      | exact watchmanref22_Has.mono _ _ _
      | exact watchmanref22_power.mono _ _
      | exact LeO.none _
      | refine LeO.ite ?_ ?_
      | refine LeO.bind ?_ (fun _ => ?_)
set_option maxHeartbeats 8000000 in
set_option maxRecDepth 100000 in
theorem watchmanref22_Add.calls (k : Nat) (a0 : Int) (A1 : Option Addr) (c1 : Nat) (l1 : List Int) (r : Int) (w : World) (hr1 : Kd.C (Kd.int .i64) w A1 l1.length l1) (hc1 : l1.length ≤ c1) (h : watchmanref22_Add.f k a0 l1 = some r) :
    Calls Tryd.prog 12 #[.int .i64 a0, .slice A1 l1.length c1] w fun e w' => e = .returned (.int .i64 r) ∧ Drawn0 w w' := by
  have HR1 := Aside0.mk hr1
  have HC1 := Aside0.mk hc1
  clear hr1 hc1
  have H : (if a0 < 0 then (watchmanref22_Add.j0 k a0 l1 true) else (watchmanref22_Add.j0 k a0 l1 (decide (a0 > 127)))) = some r := h
  clear h
  have HC3 := Aside0.mk H
  clear H
  go_enter Tryd.func12, Tryd.ntmps12
  go_upto_region 1 with (fail)
  go_cut [11] (fun v11 wc => ∃ (kq : Nat) (x11_2 : Bool), v11 = .bool x11_2 ∧ Aside0 (watchmanref22_Add.j0 kq a0 l1 x11_2 = some r) ∧ Aside0 (kq ≤ k) ∧ Drawn0 w wc)
  case first =>
    have H := HC3.out
    clear HC3
    by_cases c4 : a0 < 0
    · rw [if_pos c4] at H
      have c4b0 : decide (a0 < 0) = true := decide_eq_true c4
      clear c4
      (first | rw [c4b0] | (simp only [i64_w, i32_w]; rw [c4b0]) | skip)
      have H' := Aside0.mk H
      clear H
      go_wp2
      go_meet
      case rel => exact ⟨_, (true), (by first | rfl | (simp; done) | (simp [*]; done)), H', ⟨by first | omega | exact Nat.le_refl _⟩, by repeat (first | exact Drawn0.refl _ | apply Drawn0.step)⟩
    · rw [if_neg c4] at H
      have c4b0 : decide (a0 < 0) = false := decide_eq_false c4
      clear c4
      (first | rw [c4b0] | (simp only [i64_w, i32_w]; rw [c4b0]) | skip)
      have H' := Aside0.mk H
      clear H
      go_wp2
      go_meet
      case rel => exact ⟨_, (decide (a0 > 127)), (by first | rfl | (simp; done) | (simp [*]; done)), H', ⟨by first | omega | exact Nat.le_refl _⟩, by repeat (first | exact Drawn0.refl _ | apply Drawn0.step)⟩
  case rest =>
    clear HC3
    try clear c1
    try clear p2
    try clear c4
    try clear c4b0
    obtain ⟨kq, x11_2, rfl, HA, HJ2, ⟨mc2, rfl⟩⟩ := hcut
    cases kq with
    | zero => exact absurd HA.out (by simp [watchmanref22_Add.j0])
    | succ kj2 =>
      have H := HA.out
      clear HA
      simp only [watchmanref22_Add.j0] at H
      have HC5 := Aside0.mk H
      clear H
      go_upto_if 11 with (fail)
      go_cut [0] (fun v0 wc => ∃ (kq : Nat) (x0_4 : Int), v0 = .int .i64 x0_4 ∧ Aside0 (watchmanref22_Add.j1 kq x0_4 l1 = some r) ∧ Aside0 (kq ≤ kj2) ∧ Drawn0 w wc)
      case first =>
        have H := HC5.out
        clear HC5
        by_cases c6 : x11_2 = true
        · subst c6
          have H1 : (watchmanref22_Add.j1 kj2 0 l1) = some r := by rw [if_pos rfl] at H; exact H
          clear H
          have H := H1
          clear H1
          have H' := Aside0.mk H
          clear H
          go_wp2
          go_meet
          case rel => exact ⟨_, (0), (by first | rfl | (simp; done) | (simp [*]; done)), H', ⟨by have := HJ2.out; first | omega | exact Nat.le_refl _⟩, by repeat (first | exact Drawn0.refl _ | apply Drawn0.step)⟩
        · replace c6 := Bool.eq_false_iff.mpr c6
          subst c6
          have H1 : (watchmanref22_Add.j1 kj2 a0 l1) = some r := by rw [if_neg (show ¬ (false = true) by decide)] at H; exact H
          clear H
          have H := H1
          clear H1
          have H' := Aside0.mk H
          clear H
          go_wp2
          go_meet
          case rel => exact ⟨_, (a0), (by first | rfl | (simp; done) | (simp [*]; done)), H', ⟨by have := HJ2.out; first | omega | exact Nat.le_refl _⟩, by repeat (first | exact Drawn0.refl _ | apply Drawn0.step)⟩
      case rest =>
        clear HC5
        try clear c1
        try clear c2
        try clear p2
        try clear c4
        try clear c4b0
        try clear c6
        try clear p2
        obtain ⟨kq, x0_4, rfl, HA, HJ4, ⟨mc4, rfl⟩⟩ := hcut
        cases kq with
        | zero => exact absurd HA.out (by simp [watchmanref22_Add.j1])
        | succ kj4 =>
          have H := HA.out
          clear HA
          simp only [watchmanref22_Add.j1] at H
          have H' := Aside0.mk H
          clear H
          go_wp2
          go_loopg [0, 5] kj4 (fun kq v0 v5 w' => ∃ (x0_3 : Int) (x5_3 : Int), v0 = .int .i64 x0_3 ∧ v5 = .int .i64 x5_3 ∧ Aside0 (watchmanref22_Add.l0 kq x0_3 l1 x5_3 = some r) ∧ Aside0 (kq ≤ kj4) ∧ Drawn0 w w')
          case atStart => exact ⟨(x0_4), (0), (by first | rfl | (simp; done) | (simp [*]; done)), (by first | rfl | (simp; done) | (simp [*]; done)), H', ⟨Nat.le_refl _⟩, by repeat (first | exact Drawn0.refl _ | apply Drawn0.step)⟩
          case round =>
            clear H'
            try clear c1
            try clear c2
            try clear p2
            try clear c4
            try clear c4b0
            try clear c6
            try clear p2
            obtain ⟨x0_3, x5_3, rfl, rfl, HA, HK3, ⟨m3, rfl⟩⟩ := hrel
            cases gk with
            | zero => exact absurd HA.out (by simp [watchmanref22_Add.l0])
            | succ k3 =>
              have H := HA.out
              clear HA
              simp only [watchmanref22_Add.l0] at H
              by_cases c7 : x5_3 < (l1.length : Int)
              · rw [if_pos c7] at H
                have c7b0 : decide (x5_3 < (l1.length : Int)) = true := decide_eq_true c7
                clear c7
                by_cases c8 : 0 ≤ x5_3
                · rw [if_pos c8] at H
                  have c8b0 : decide (0 ≤ x5_3) = true := decide_eq_true c8
                  clear c8
                  by_cases c9 : (rd l1 x5_3) ≥ 0
                  · rw [if_pos c9] at H
                    have c9b0 : decide (0 ≤ (rd l1 x5_3)) = true := decide_eq_true c9
                    clear c9
                    by_cases c10 : (rd l1 x5_3) ≤ 6
                    · rw [if_pos c10] at H
                      have c10b0 : decide ((rd l1 x5_3) ≤ 6) = true := decide_eq_true c10
                      clear c10
                      replace H := Option.bind_eq_some_iff.mp H
                      obtain ⟨t113, A110, H⟩ := H
                      replace H : (if t113 = true then (watchmanref22_Add.l0 k3 x0_3 l1 (wrap64 (x5_3 + 1))) else ((watchmanref22_power.f k3 (rd l1 x5_3)).bind fun t115 => (watchmanref22_Add.l0 k3 (wrap64 (x0_3 + t115)) l1 (wrap64 (x5_3 + 1))))) = some r := H
                      have A11 := Aside0.mk A110
                      clear A110
                      by_cases c12 : t113 = true
                      · subst c12
                        have H1 : (watchmanref22_Add.l0 k3 x0_3 l1 (wrap64 (x5_3 + 1))) = some r := by rw [if_pos rfl] at H; exact H
                        clear H
                        have H := H1
                        clear H1
                        have H' := Aside0.mk H
                        clear H
                        have p110 : 0 ≤ (x5_3 : Int) := of_decide_eq_true (by first | (with_reducible assumption) | assumption)
                        have q110 : x5_3 < (l1.length : Int) := of_decide_eq_true (by first | (with_reducible assumption) | assumption)
                        obtain ⟨ad110, e110, hx110_0⟩ := Kd.at_int HR1.out x5_3 p110 q110
                        cases e110
                        replace p110 := eq_true p110
                        replace q110 := eq_true q110
                        have p111 : 0 ≤ (x5_3 : Int) := of_decide_eq_true (by first | (with_reducible assumption) | assumption)
                        have q111 : x5_3 < (l1.length : Int) := of_decide_eq_true (by first | (with_reducible assumption) | assumption)
                        obtain ⟨ad111, e111, hx111_0⟩ := Kd.at_int HR1.out x5_3 p111 q111
                        obtain rfl : ad110 = ad111 := (by injection e111)
                        replace p111 := eq_true p111
                        replace q111 := eq_true q111
                        have p112 : 0 ≤ (x5_3 : Int) := of_decide_eq_true (by first | (with_reducible assumption) | assumption)
                        have q112 : x5_3 < (l1.length : Int) := of_decide_eq_true (by first | (with_reducible assumption) | assumption)
                        obtain ⟨ad112, e112, hx112_0⟩ := Kd.at_int HR1.out x5_3 p112 q112
                        obtain rfl : ad110 = ad112 := (by injection e112)
                        replace p112 := eq_true p112
                        replace q112 := eq_true q112
                        go_wp2_with (first | (go_at_call 14; (with_reducible refine (watchmanref22_Has.calls k3 x0_3 (rd l1 x5_3) true _ A11.out).mono ?_); rintro e w' ⟨rfl, ⟨nd, rfl⟩⟩))
                        go_roundg k3
                        case measure => have := HJ2.out; have := HJ4.out; have := HK3.out; omega
                        case rel => exact ⟨(x0_3), (wrap64 (x5_3 + 1)), (by first | rfl | (simp; done) | (simp [*]; done)), (by first | rfl | (simp; done) | (simp [*]; done)), H', ⟨by have := HJ2.out; have := HJ4.out; have := HK3.out; omega⟩, by repeat (first | exact Drawn0.refl _ | apply Drawn0.step)⟩
                      · replace c12 := Bool.eq_false_iff.mpr c12
                        subst c12
                        have H1 : ((watchmanref22_power.f k3 (rd l1 x5_3)).bind fun t115 => (watchmanref22_Add.l0 k3 (wrap64 (x0_3 + t115)) l1 (wrap64 (x5_3 + 1)))) = some r := by rw [if_neg (show ¬ (false = true) by decide)] at H; exact H
                        clear H
                        have H := H1
                        clear H1
                        replace H := Option.bind_eq_some_iff.mp H
                        obtain ⟨t115, A130, H⟩ := H
                        replace H : (watchmanref22_Add.l0 k3 (wrap64 (x0_3 + t115)) l1 (wrap64 (x5_3 + 1))) = some r := H
                        have A13 := Aside0.mk A130
                        clear A130
                        have H' := Aside0.mk H
                        clear H
                        have p110 : 0 ≤ (x5_3 : Int) := of_decide_eq_true (by first | (with_reducible assumption) | assumption)
                        have q110 : x5_3 < (l1.length : Int) := of_decide_eq_true (by first | (with_reducible assumption) | assumption)
                        obtain ⟨ad110, e110, hx110_0⟩ := Kd.at_int HR1.out x5_3 p110 q110
                        cases e110
                        replace p110 := eq_true p110
                        replace q110 := eq_true q110
                        have p111 : 0 ≤ (x5_3 : Int) := of_decide_eq_true (by first | (with_reducible assumption) | assumption)
                        have q111 : x5_3 < (l1.length : Int) := of_decide_eq_true (by first | (with_reducible assumption) | assumption)
                        obtain ⟨ad111, e111, hx111_0⟩ := Kd.at_int HR1.out x5_3 p111 q111
                        obtain rfl : ad110 = ad111 := (by injection e111)
                        replace p111 := eq_true p111
                        replace q111 := eq_true q111
                        have p112 : 0 ≤ (x5_3 : Int) := of_decide_eq_true (by first | (with_reducible assumption) | assumption)
                        have q112 : x5_3 < (l1.length : Int) := of_decide_eq_true (by first | (with_reducible assumption) | assumption)
                        obtain ⟨ad112, e112, hx112_0⟩ := Kd.at_int HR1.out x5_3 p112 q112
                        obtain rfl : ad110 = ad112 := (by injection e112)
                        replace p112 := eq_true p112
                        replace q112 := eq_true q112
                        go_wp2_with (first | (go_at_call 14; (with_reducible refine (watchmanref22_Has.calls k3 x0_3 (rd l1 x5_3) false _ A11.out).mono ?_); rintro e w' ⟨rfl, ⟨nd, rfl⟩⟩; have p114 : 0 ≤ (x5_3 : Int) := of_decide_eq_true (by first | (with_reducible assumption) | assumption); have q114 : x5_3 < (l1.length : Int) := of_decide_eq_true (by first | (with_reducible assumption) | assumption); obtain ⟨ad114, e114, hx114_0⟩ := Kd.at_int HR1.out x5_3 p114 q114; obtain rfl : ad110 = ad114 := (by injection e114); replace p114 := eq_true p114; replace q114 := eq_true q114) | ((with_reducible refine gate_callee (f := 28) rfl ?_); refine goesL_ (some 44) rfl rfl Tryd.func28 (by kernel_rfl) rfl #[.int .i64 (rd l1 x5_3)] rfl (by (try simp only [List.map_toArray, List.map_cons, List.map_nil]); first | done | rfl | (simp only [List.length_drop, List.length_take]; rfl)) ?_; (with_reducible refine (watchmanref22_power.calls k3 (rd l1 x5_3) t115 _ A13.out).mono ?_); rintro e w' ⟨rfl, ⟨nd, rfl⟩⟩; refine ⟨_, rfl, ?_⟩))
                        go_roundg k3
                        case measure => have := HJ2.out; have := HJ4.out; have := HK3.out; omega
                        case rel => exact ⟨(wrap64 (x0_3 + t115)), (wrap64 (x5_3 + 1)), (by first | rfl | (simp; done) | (simp [*]; done)), (by first | rfl | (simp; done) | (simp [*]; done)), H', ⟨by have := HJ2.out; have := HJ4.out; have := HK3.out; omega⟩, by repeat (first | exact Drawn0.refl _ | apply Drawn0.step)⟩
                    · rw [if_neg c10] at H
                      have c10b0 : decide ((rd l1 x5_3) ≤ 6) = false := decide_eq_false c10
                      clear c10
                      have H' := Aside0.mk H
                      clear H
                      have p110 : 0 ≤ (x5_3 : Int) := of_decide_eq_true (by first | (with_reducible assumption) | assumption)
                      have q110 : x5_3 < (l1.length : Int) := of_decide_eq_true (by first | (with_reducible assumption) | assumption)
                      obtain ⟨ad110, e110, hx110_0⟩ := Kd.at_int HR1.out x5_3 p110 q110
                      cases e110
                      replace p110 := eq_true p110
                      replace q110 := eq_true q110
                      have p111 : 0 ≤ (x5_3 : Int) := of_decide_eq_true (by first | (with_reducible assumption) | assumption)
                      have q111 : x5_3 < (l1.length : Int) := of_decide_eq_true (by first | (with_reducible assumption) | assumption)
                      obtain ⟨ad111, e111, hx111_0⟩ := Kd.at_int HR1.out x5_3 p111 q111
                      obtain rfl : ad110 = ad111 := (by injection e111)
                      replace p111 := eq_true p111
                      replace q111 := eq_true q111
                      go_wp2
                      go_roundg k3
                      case measure => have := HJ2.out; have := HJ4.out; have := HK3.out; omega
                      case rel => exact ⟨(x0_3), (wrap64 (x5_3 + 1)), (by first | rfl | (simp; done) | (simp [*]; done)), (by first | rfl | (simp; done) | (simp [*]; done)), H', ⟨by have := HJ2.out; have := HJ4.out; have := HK3.out; omega⟩, by repeat (first | exact Drawn0.refl _ | apply Drawn0.step)⟩
                  · rw [if_neg c9] at H
                    have c9b0 : decide (0 ≤ (rd l1 x5_3)) = false := decide_eq_false c9
                    clear c9
                    have H' := Aside0.mk H
                    clear H
                    have p110 : 0 ≤ (x5_3 : Int) := of_decide_eq_true (by first | (with_reducible assumption) | assumption)
                    have q110 : x5_3 < (l1.length : Int) := of_decide_eq_true (by first | (with_reducible assumption) | assumption)
                    obtain ⟨ad110, e110, hx110_0⟩ := Kd.at_int HR1.out x5_3 p110 q110
                    cases e110
                    replace p110 := eq_true p110
                    replace q110 := eq_true q110
                    go_wp2
                    go_roundg k3
                    case measure => have := HJ2.out; have := HJ4.out; have := HK3.out; omega
                    case rel => exact ⟨(x0_3), (wrap64 (x5_3 + 1)), (by first | rfl | (simp; done) | (simp [*]; done)), (by first | rfl | (simp; done) | (simp [*]; done)), H', ⟨by have := HJ2.out; have := HJ4.out; have := HK3.out; omega⟩, by repeat (first | exact Drawn0.refl _ | apply Drawn0.step)⟩
                · rw [if_neg c8] at H
                  exact absurd H (by simp)
              · rw [if_neg c7] at H
                have c7b0 : decide (x5_3 < (l1.length : Int)) = false := decide_eq_false c7
                clear c7
                obtain rfl := Option.some.inj H
                go_wp2
                go_ret
                exact ⟨by first | rfl | (simp; done) | (simp [*]; done), by repeat (first | exact Drawn0.refl _ | apply Drawn0.step)⟩

end Go.Proofs.YtiamkjokiapanaaDoor.PTallyDoes
