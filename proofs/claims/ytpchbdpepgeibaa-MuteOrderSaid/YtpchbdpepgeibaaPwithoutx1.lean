-- PRINTED BY print.sh 35421559b90ae4d0a3588c463048766b98c2df88dd9212a6774a882060cdf62d: not written by this session
import Derived.Test.YtpchbdpepgeibaaPwithoutx0
namespace Go.Proofs.Ytpchbdpepgeibaa.Pwithout
open Go.RowKit Go.Proofs.YtpchbdpepgeibaaW.PrintWords Go.Proofs.YtpchbdpepgeibaaW.PrintLast Go.Proofs.YtpchbdpepgeibaaW.PrintMore
attribute [local go_sem] max2_int min2_int max_two min_two max_three min_three max_four min_four   -- for this text's walks alone
set_option linter.unusedVariables false
set_option linter.unusedSimpArgs false

/-! ### mute_without: function 26 -/
def mute_without.j0 : Nat → Bool → Int → Int → Int → Int → Int → Int → Option ((List (S32)))
  | 0, _, _, _, _, _, _, _ => none
  | k + 1, x24, x102000, x102001, x102002, x103000, x103001, x103002 => if x24 = true then (some (([(⟨x102000, x102001, x102002⟩ : S32)] : List (S32)))) else (if x102001 < x103001 then (if ([] : List (S32)).length < 5864062014805 then ((some (([] : List (S32)) ++ [(⟨x102000, x102001, x103001⟩ : S32)] : List (S32))).bind fun y106 => (if x103002 < x102002 then (if y106.length < 5864062014805 then (some (y106 ++ [(⟨x102000, x103002, x102002⟩ : S32)])) else (none)) else (some y106))) else (none)) else (if x103002 < x102002 then (if ([] : List (S32)).length < 5864062014805 then (some (([] : List (S32)) ++ [(⟨x102000, x103002, x102002⟩ : S32)])) else (none)) else (some ([] : List (S32)))))
def mute_without.f (k : Nat) (a0_0 : Int) (a0_1 : Int) (a0_2 : Int) (a1_0 : Int) (a1_1 : Int) (a1_2 : Int) : Option ((List (S32))) := if a0_0 = a1_0 then (if a1_2 ≤ a0_1 then (mute_without.j0 k true a0_0 a0_1 a0_2 a1_0 a1_1 a1_2) else (mute_without.j0 k (decide (a0_2 ≤ a1_1)) a0_0 a0_1 a0_2 a1_0 a1_1 a1_2)) else (mute_without.j0 k true a0_0 a0_1 a0_2 a1_0 a1_1 a1_2)
theorem mute_without.mono_l : ∀ k, (∀ y0 y1 y2 y3 y4 y5 y6, LeO (mute_without.j0 k y0 y1 y2 y3 y4 y5 y6) (mute_without.j0 (k + 1) y0 y1 y2 y3 y4 y5 y6))
  | 0 => fun _ _ _ _ _ _ _ r h => by simp [mute_without.j0] at h
  | k + 1 => by
    have ih0 := mute_without.mono_l k
    · intro y0 y1 y2 y3 y4 y5 y6
      unfold mute_without.j0
      repeat' first
      | (with_reducible exact ih0 _ _ _ _ _ _ _)
      | (with_reducible exact LeO.refl _)
      | (with_reducible exact LeO.none _)
      | (with_reducible refine LeO.ite ?_ ?_)
      | (with_reducible refine LeO.bind ?_ (fun _ => ?_))
      | exact ih0 _ _ _ _ _ _ _
      | exact LeO.none _
      | refine LeO.ite ?_ ?_
      | refine LeO.bind ?_ (fun _ => ?_)
theorem mute_without.mono : ∀ a0 a1 a2 a3 a4 a5 k, LeO (mute_without.f k a0 a1 a2 a3 a4 a5) (mute_without.f (k + 1) a0 a1 a2 a3 a4 a5) := by
  intro a0 a1 a2 a3 a4 a5 k
  have ih0 := mute_without.mono_l k
  unfold mute_without.f
  repeat' first
      | (with_reducible exact ih0 _ _ _ _ _ _ _)
      | (with_reducible exact LeO.refl _)
      | (with_reducible exact LeO.none _)
      | (with_reducible refine LeO.ite ?_ ?_)
      | (with_reducible refine LeO.bind ?_ (fun _ => ?_))
      | exact ih0 _ _ _ _ _ _ _
      | exact LeO.none _
      | refine LeO.ite ?_ ?_
      | refine LeO.bind ?_ (fun _ => ?_)
set_option maxHeartbeats 8000000 in
set_option maxRecDepth 100000 in
theorem mute_without.calls (k : Nat) (a0_0 : Int) (a0_1 : Int) (a0_2 : Int) (a1_0 : Int) (a1_1 : Int) (a1_2 : Int) (r : List (S32)) (w : World) (h : mute_without.f k a0_0 a0_1 a0_2 a1_0 a1_1 a1_2 = some r) :
    Calls Try.prog 26 #[.agg #[.int .i64 a0_0, .int .i64 a0_1, .int .i64 a0_2], .agg #[.int .i64 a1_0, .int .i64 a1_1, .int .i64 a1_2]] w fun e w' => ∃ v0_ : Value, e = .returned (v0_) ∧ Kd.R k32 32 w' w.heap.size (fun _ => True) v0_ r ∧ Below w.heap.size w w' := by
  have hu32 := Try.underlying32
  have HB := Aside0.mk (Below.refl w.heap.size w)
  have H : (if a0_0 = a1_0 then (if a1_2 ≤ a0_1 then (mute_without.j0 k true a0_0 a0_1 a0_2 a1_0 a1_1 a1_2) else (mute_without.j0 k (decide (a0_2 ≤ a1_1)) a0_0 a0_1 a0_2 a1_0 a1_1 a1_2)) else (mute_without.j0 k true a0_0 a0_1 a0_2 a1_0 a1_1 a1_2)) = some r := h
  clear h
  have HC3 := Aside0.mk H
  clear H
  go_enter Try.func26, Try.ntmps26
  go_upto_region 1 with (first | ((with_reducible refine gate_dst (N := 2) rfl ?_); refine box_event ?hg (N := 2) ?hd (cs := #[.int .i64 a0_0, .int .i64 a0_1, .int .i64 a0_2]) (t := 32) ?hr ?_; (case hd => rfl); (case hg => rfl); (case hr => first | (go_simp; done) | (go_simp; rfl)); intro gb101 hg w4 hbox hb; have n0_ := Aside0.mk (below_step (by repeat (first | (with_reducible first | exact HB.out | apply below_alloc | apply pw_below_drewN | apply below_drew1) | exact HB.out)) hb); have n1_ := Aside0.mk (hbox); have n2_ := Aside0.mk ((by rw [hg]; exact (below_size (by repeat (first | (with_reducible first | exact HB.out | apply below_alloc | apply pw_below_drewN | apply below_drew1) | exact HB.out))) : w.heap.size ≤ gb101)); have n3_ := Aside0.mk ((by rw [hg]; exact (below_size (by repeat (first | (with_reducible first | exact HB.out | apply below_alloc | apply pw_below_drewN | apply below_drew1) | exact HB.out))) : w.heap.size ≤ gb101)); clear HB; have HB := n0_; have BK101 := n1_; have GW101 := n2_; have GE101 := n3_; clear n0_ n1_ n2_ n3_; clear hb hbox hg) | ((with_reducible refine gate_dst (N := 3) rfl ?_); refine box_event ?hg (N := 3) ?hd (cs := #[.int .i64 a1_0, .int .i64 a1_1, .int .i64 a1_2]) (t := 32) ?hr ?_; (case hd => rfl); (case hg => rfl); (case hr => first | (go_simp; done) | (go_simp; rfl)); intro gb102 hg w5 hbox hb; have n0_ := Aside0.mk (blk_below (g := gb101) (o := .cells #[.int .i64 a0_0, .int .i64 a0_1, .int .i64 a0_2] 32 (0, 0)) (by (with_reducible repeat (first | refine blk_drewN ?_ _ | refine blk_drew ?_ | refine blk_alloc ?_ _)); exact BK101.out) hb); have n1_ := Aside0.mk (below_step (by repeat (first | (with_reducible first | exact HB.out | apply below_alloc | apply pw_below_drewN | apply below_drew1 | refine below_set ?_ GE101.out) | exact HB.out)) hb); have n2_ := Aside0.mk (hbox); have n3_ := Aside0.mk ((by rw [hg]; exact (below_size (by repeat (first | (with_reducible first | exact HB.out | apply below_alloc | apply pw_below_drewN | apply below_drew1 | refine below_set ?_ GE101.out) | exact HB.out))) : w.heap.size ≤ gb102)); have n4_ := Aside0.mk ((by rw [hg]; exact (below_size (by repeat (first | (with_reducible first | exact HB.out | apply below_alloc | apply pw_below_drewN | apply below_drew1 | refine below_set ?_ GE101.out) | exact HB.out))) : w.heap.size ≤ gb102)); have n5_ := Aside0.mk ((by rw [hg]; exact Nat.ne_of_lt (blk_lt (g := gb101) (o := .cells #[.int .i64 a0_0, .int .i64 a0_1, .int .i64 a0_2] 32 (0, 0)) (by (with_reducible repeat (first | refine blk_drewN ?_ _ | refine blk_drew ?_ | refine blk_alloc ?_ _)); exact BK101.out)) : gb101 ≠ gb102)); have n6_ := Aside0.mk ((by rw [hg]; exact Nat.ne_of_gt (blk_lt (g := gb101) (o := .cells #[.int .i64 a0_0, .int .i64 a0_1, .int .i64 a0_2] 32 (0, 0)) (by (with_reducible repeat (first | refine blk_drewN ?_ _ | refine blk_drew ?_ | refine blk_alloc ?_ _)); exact BK101.out)) : gb102 ≠ gb101)); clear BK101; clear HB; have BK101 := n0_; have HB := n1_; have BK102 := n2_; have GW102 := n3_; have GE102 := n4_; have NB101_102 := n5_; have NB102_101 := n6_; clear n0_ n1_ n2_ n3_ n4_ n5_ n6_; clear hb hbox hg))
  (try simp only [Act.put, List.setIfInBounds_toArray, List.set_cons_zero, List.set_cons_succ])
  go_cut [24] (fun v24 wc => ∃ (kq : Nat) (x24_2 : Bool), v24 = .bool x24_2 ∧ Aside0 (mute_without.j0 kq x24_2 a0_0 a0_1 a0_2 a1_0 a1_1 a1_2 = some r) ∧ Aside0 (kq ≤ k) ∧ Aside0 (wc.heap[gb101]? = some (.cells #[.int .i64 a0_0, .int .i64 a0_1, .int .i64 a0_2] 32 (0, 0))) ∧ Aside0 (wc.heap[gb102]? = some (.cells #[.int .i64 a1_0, .int .i64 a1_1, .int .i64 a1_2] 32 (0, 0))) ∧ Aside0 (Below w.heap.size w wc))
  case first =>
    have H := HC3.out
    clear HC3
    by_cases c6 : a0_0 = a1_0
    · rw [if_pos c6] at H
      have c6b0 : (a0_0 == a1_0) = true := beq_iff_eq.mpr c6
      have c6b1 : (a0_0 != a1_0) = false := bne_eq_false_iff_eq.mpr c6
      clear c6
      (first | rw [c6b0] | (simp only [i64_w, i32_w]; rw [c6b0]) | skip)
      by_cases c7 : a1_2 ≤ a0_1
      · rw [if_pos c7] at H
        have c7b0 : decide (a1_2 ≤ a0_1) = true := decide_eq_true c7
        clear c7
        have H' := Aside0.mk H
        clear H
        have hnb8 := NB101_102.out
        have hnc8 := NB102_101.out
        have hcz9_0 : w5.cell? ⟨gb101, 0, none⟩ = some (.int .i64 a0_0) := (blk_cell BK101.out 0).trans rfl
        have hcz9_1 : w5.cell? ⟨gb101, 1, none⟩ = some (.int .i64 a0_1) := (blk_cell BK101.out 1).trans rfl
        have hcz9_2 : w5.cell? ⟨gb101, 2, none⟩ = some (.int .i64 a0_2) := (blk_cell BK101.out 2).trans rfl
        have hfz9_0 := blk_frozen BK101.out 0
        have hfz9_1 := blk_frozen BK101.out 1
        have hfz9_2 := blk_frozen BK101.out 2
        have hcz10_0 : w5.cell? ⟨gb102, 0, none⟩ = some (.int .i64 a1_0) := (blk_cell BK102.out 0).trans rfl
        have hcz10_1 : w5.cell? ⟨gb102, 1, none⟩ = some (.int .i64 a1_1) := (blk_cell BK102.out 1).trans rfl
        have hcz10_2 : w5.cell? ⟨gb102, 2, none⟩ = some (.int .i64 a1_2) := (blk_cell BK102.out 2).trans rfl
        have hfz10_0 := blk_frozen BK102.out 0
        have hfz10_1 := blk_frozen BK102.out 1
        have hfz10_2 := blk_frozen BK102.out 2
        go_wp2
        go_meet
        case rel => exact ⟨_, (true), (by first | rfl | (simp; done) | (simp [*]; done)), H', ⟨by first | omega | exact Nat.le_refl _⟩, ⟨by (with_reducible repeat (first | refine blk_drewN ?_ _ | refine blk_drew ?_ | refine blk_alloc ?_ _)); exact BK101.out⟩, ⟨by (with_reducible repeat (first | refine blk_drewN ?_ _ | refine blk_drew ?_ | refine blk_alloc ?_ _)); exact BK102.out⟩, ⟨by repeat (first | (with_reducible first | exact HB.out | apply below_alloc | apply pw_below_drewN | apply below_drew1 | refine below_set ?_ GE101.out | refine below_set ?_ GE102.out) | exact HB.out)⟩⟩
      · rw [if_neg c7] at H
        have c7b0 : decide (a1_2 ≤ a0_1) = false := decide_eq_false c7
        clear c7
        have H' := Aside0.mk H
        clear H
        have hnb11 := NB101_102.out
        have hnc11 := NB102_101.out
        have hcz12_0 : w5.cell? ⟨gb101, 0, none⟩ = some (.int .i64 a0_0) := (blk_cell BK101.out 0).trans rfl
        have hcz12_1 : w5.cell? ⟨gb101, 1, none⟩ = some (.int .i64 a0_1) := (blk_cell BK101.out 1).trans rfl
        have hcz12_2 : w5.cell? ⟨gb101, 2, none⟩ = some (.int .i64 a0_2) := (blk_cell BK101.out 2).trans rfl
        have hfz12_0 := blk_frozen BK101.out 0
        have hfz12_1 := blk_frozen BK101.out 1
        have hfz12_2 := blk_frozen BK101.out 2
        have hcz13_0 : w5.cell? ⟨gb102, 0, none⟩ = some (.int .i64 a1_0) := (blk_cell BK102.out 0).trans rfl
        have hcz13_1 : w5.cell? ⟨gb102, 1, none⟩ = some (.int .i64 a1_1) := (blk_cell BK102.out 1).trans rfl
        have hcz13_2 : w5.cell? ⟨gb102, 2, none⟩ = some (.int .i64 a1_2) := (blk_cell BK102.out 2).trans rfl
        have hfz13_0 := blk_frozen BK102.out 0
        have hfz13_1 := blk_frozen BK102.out 1
        have hfz13_2 := blk_frozen BK102.out 2
        go_wp2
        go_meet
        case rel => exact ⟨_, (decide (a0_2 ≤ a1_1)), (by first | rfl | (simp; done) | (simp [*]; done)), H', ⟨by first | omega | exact Nat.le_refl _⟩, ⟨by (with_reducible repeat (first | refine blk_drewN ?_ _ | refine blk_drew ?_ | refine blk_alloc ?_ _)); exact BK101.out⟩, ⟨by (with_reducible repeat (first | refine blk_drewN ?_ _ | refine blk_drew ?_ | refine blk_alloc ?_ _)); exact BK102.out⟩, ⟨by repeat (first | (with_reducible first | exact HB.out | apply below_alloc | apply pw_below_drewN | apply below_drew1 | refine below_set ?_ GE101.out | refine below_set ?_ GE102.out) | exact HB.out)⟩⟩
    · rw [if_neg c6] at H
      have c6b0 : (a0_0 == a1_0) = false := beq_eq_false_iff_ne.mpr c6
      have c6b1 : (a0_0 != a1_0) = true := bne_iff_ne.mpr c6
      (first | rw [c6b0] | (simp only [i64_w, i32_w]; rw [c6b0]) | skip)
      have H' := Aside0.mk H
      clear H
      have hnb14 := NB101_102.out
      have hnc14 := NB102_101.out
      have hcz15_0 : w5.cell? ⟨gb101, 0, none⟩ = some (.int .i64 a0_0) := (blk_cell BK101.out 0).trans rfl
      have hcz15_1 : w5.cell? ⟨gb101, 1, none⟩ = some (.int .i64 a0_1) := (blk_cell BK101.out 1).trans rfl
      have hcz15_2 : w5.cell? ⟨gb101, 2, none⟩ = some (.int .i64 a0_2) := (blk_cell BK101.out 2).trans rfl
      have hfz15_0 := blk_frozen BK101.out 0
      have hfz15_1 := blk_frozen BK101.out 1
      have hfz15_2 := blk_frozen BK101.out 2
      have hcz16_0 : w5.cell? ⟨gb102, 0, none⟩ = some (.int .i64 a1_0) := (blk_cell BK102.out 0).trans rfl
      have hcz16_1 : w5.cell? ⟨gb102, 1, none⟩ = some (.int .i64 a1_1) := (blk_cell BK102.out 1).trans rfl
      have hcz16_2 : w5.cell? ⟨gb102, 2, none⟩ = some (.int .i64 a1_2) := (blk_cell BK102.out 2).trans rfl
      have hfz16_0 := blk_frozen BK102.out 0
      have hfz16_1 := blk_frozen BK102.out 1
      have hfz16_2 := blk_frozen BK102.out 2
      go_wp2
      go_meet
      case rel => exact ⟨_, (true), (by first | rfl | (simp; done) | (simp [*]; done)), H', ⟨by first | omega | exact Nat.le_refl _⟩, ⟨by (with_reducible repeat (first | refine blk_drewN ?_ _ | refine blk_drew ?_ | refine blk_alloc ?_ _)); exact BK101.out⟩, ⟨by (with_reducible repeat (first | refine blk_drewN ?_ _ | refine blk_drew ?_ | refine blk_alloc ?_ _)); exact BK102.out⟩, ⟨by repeat (first | (with_reducible first | exact HB.out | apply below_alloc | apply pw_below_drewN | apply below_drew1 | refine below_set ?_ GE101.out | refine below_set ?_ GE102.out) | exact HB.out)⟩⟩
  case rest =>
    clear HC3
    try clear c1
    try clear c2
    try clear p2
    try clear c6
    try clear c6b0
    try clear c6b1
    try clear c7
    try clear c7b0
    try clear c8
    try clear c11
    try clear c14
    try clear hcz10_0
    try clear hcz10_1
    try clear hcz10_2
    try clear hcz12_0
    try clear hcz12_1
    try clear hcz12_2
    try clear hcz13_0
    try clear hcz13_1
    try clear hcz13_2
    try clear hcz15_0
    try clear hcz15_1
    try clear hcz15_2
    try clear hcz16_0
    try clear hcz16_1
    try clear hcz16_2
    try clear hcz9_0
    try clear hcz9_1
    try clear hcz9_2
    try clear hfz10_0
    try clear hfz10_1
    try clear hfz10_2
    try clear hfz12_0
    try clear hfz12_1
    try clear hfz12_2
    try clear hfz13_0
    try clear hfz13_1
    try clear hfz13_2
    try clear hfz15_0
    try clear hfz15_1
    try clear hfz15_2
    try clear hfz16_0
    try clear hfz16_1
    try clear hfz16_2
    try clear hfz9_0
    try clear hfz9_1
    try clear hfz9_2
    obtain ⟨kq, x24_2, rfl, HA, HJ2, BK101, BK102, HB⟩ := hcut
    cases kq with
    | zero => exact absurd HA.out (by simp [mute_without.j0])
    | succ kj2 =>
      have H := HA.out
      clear HA
      simp only [mute_without.j0] at H
      by_cases c17 : x24_2 = true
      · subst c17
        have H1 : (some (([(⟨a0_0, a0_1, a0_2⟩ : S32)] : List (S32)))) = some r := by rw [if_pos rfl] at H; exact H
        clear H
        have H := H1
        clear H1
        obtain ⟨y103, hy103⟩ : ∃ y_ : List (S32), y_ = (([(⟨a0_0, a0_1, a0_2⟩ : S32)] : List (S32))) := ⟨_, rfl⟩
        replace H : (some y103) = some r := by first | (rw [hy103]; with_reducible exact H) | (have H2_ := (Option.bind_some _ _).symm.trans H; rw [hy103]; with_reducible exact H2_) | (have H2_ := (Option.bind_some _ _).symm.trans H; with_reducible exact H2_) | with_reducible exact H | (rw [hy103]; exact H) | exact H
        have Ny103 := Aside0.mk hy103
        clear hy103
        obtain rfl := Option.some.inj H
        have hnb18 := NB101_102.out
        have hnc18 := NB102_101.out
        have hcz19_0 : wc.cell? ⟨gb101, 0, none⟩ = some (.int .i64 a0_0) := (blk_cell BK101.out 0).trans rfl
        have hcz19_1 : wc.cell? ⟨gb101, 1, none⟩ = some (.int .i64 a0_1) := (blk_cell BK101.out 1).trans rfl
        have hcz19_2 : wc.cell? ⟨gb101, 2, none⟩ = some (.int .i64 a0_2) := (blk_cell BK101.out 2).trans rfl
        have hfz19_0 := blk_frozen BK101.out 0
        have hfz19_1 := blk_frozen BK101.out 1
        have hfz19_2 := blk_frozen BK101.out 2
        go_wp2_with (first | ((with_reducible refine gate_dst (N := 26) rfl ?_); refine Kd.R_lit k32 _ 32 ?hg (N := 26) ?hd (xs := ([(⟨a0_0, a0_1, a0_2⟩ : S32)] : List (S32))) (inner := [.int .i64 a0_0, .int .i64 a0_1, .int .i64 a0_2]) (ok := fun _ => True) (okp := fun _ => True) ?hr ?hp (fun _ hk => hk) trivial (Below.refl _ _) (Nat.le_refl _) (by simp) ?_; (case hd => rfl); (case hg => rfl); (case hr => first | (go_simp; done) | (go_simp; rfl)); (case hp => exact (Reps.c3 (show Kd.M k32 _ _ _ (⟨a0_0, a0_1, a0_2⟩ : S32) [.int .i64 a0_0, .int .i64 a0_1, .int .i64 a0_2] from (k32_mkM _ _ _ (⟨a0_0, a0_1, a0_2⟩ : S32) )) (Reps.none _ _))); intro v104 w20 ho21 hb hg_ hnew_; clear hg_ hnew_; (first | rw [← Ny103.out] at ho21 | (simp only [Int.reduceToNat] at ho21; rw [← Ny103.out] at ho21)); have n0_ := Aside0.mk (Kd.R_lower (Kd.R_newB (Kd.R_newB ho21 (g := gb101) (o := .cells #[.int .i64 a0_0, .int .i64 a0_1, .int .i64 a0_2] 32 (0, 0)) (by (with_reducible repeat (first | refine blk_drewN ?_ _ | refine blk_drew ?_ | refine blk_alloc ?_ _)); exact BK101.out)) (g := gb102) (o := .cells #[.int .i64 a1_0, .int .i64 a1_1, .int .i64 a1_2] 32 (0, 0)) (by (with_reducible repeat (first | refine blk_drewN ?_ _ | refine blk_drew ?_ | refine blk_alloc ?_ _)); exact BK102.out)) (below_size (by repeat (first | (with_reducible first | exact HB.out | apply below_alloc | apply pw_below_drewN | apply below_drew1 | refine below_set ?_ GE101.out | refine below_set ?_ GE102.out) | exact HB.out)))); have n1_ := Aside0.mk (blk_below (g := gb101) (o := .cells #[.int .i64 a0_0, .int .i64 a0_1, .int .i64 a0_2] 32 (0, 0)) (by (with_reducible repeat (first | refine blk_drewN ?_ _ | refine blk_drew ?_ | refine blk_alloc ?_ _)); exact BK101.out) hb); have n2_ := Aside0.mk (blk_below (g := gb102) (o := .cells #[.int .i64 a1_0, .int .i64 a1_1, .int .i64 a1_2] 32 (0, 0)) (by (with_reducible repeat (first | refine blk_drewN ?_ _ | refine blk_drew ?_ | refine blk_alloc ?_ _)); exact BK102.out) hb); have n3_ := Aside0.mk (below_step (by repeat (first | (with_reducible first | exact HB.out | apply below_alloc | apply pw_below_drewN | apply below_drew1 | refine below_set ?_ GE101.out | refine below_set ?_ GE102.out) | exact HB.out)) hb); clear BK101; clear BK102; clear HB; have HO105 := n0_; have BK101 := n1_; have BK102 := n2_; have HB := n3_; clear n0_ n1_ n2_ n3_; clear hb ho21))
        go_ret
        exact ⟨_, by first | rfl | (simp [errW_none, errW_some] <;> rfl) | (simp [*, errW_none, errW_some] <;> rfl), by (with_reducible repeat (first | apply Kd.R_alloc | apply Kd.R_drewN | apply Kd.R_drew)); exact Kd.R_mono HO105.out (fun _ hk => trivial), by repeat (first | (with_reducible first | exact HB.out | apply below_alloc | apply pw_below_drewN | apply below_drew1 | refine below_set ?_ GE101.out | refine below_set ?_ GE102.out) | exact HB.out)⟩
      · replace c17 := Bool.eq_false_iff.mpr c17
        subst c17
        have H1 : (if a0_1 < a1_1 then (if ([] : List (S32)).length < 5864062014805 then ((some (([] : List (S32)) ++ [(⟨a0_0, a0_1, a1_1⟩ : S32)] : List (S32))).bind fun y106 => (if a1_2 < a0_2 then (if y106.length < 5864062014805 then (some (y106 ++ [(⟨a0_0, a1_2, a0_2⟩ : S32)])) else (none)) else (some y106))) else (none)) else (if a1_2 < a0_2 then (if ([] : List (S32)).length < 5864062014805 then (some (([] : List (S32)) ++ [(⟨a0_0, a1_2, a0_2⟩ : S32)])) else (none)) else (some ([] : List (S32))))) = some r := by rw [if_neg (show ¬ (false = true) by decide)] at H; exact H
        clear H
        have H := H1
        clear H1
        by_cases c22 : a0_1 < a1_1
        · rw [if_pos c22] at H
          have c22b0 : decide (a0_1 < a1_1) = true := decide_eq_true c22
          clear c22
          by_cases c23 : ([] : List (S32)).length < 5864062014805
          · rw [if_pos c23] at H
            have LMc23 := Aside0.mk c23
            clear c23
            obtain ⟨y106, hy106⟩ : ∃ y_ : List (S32), y_ = (([] : List (S32)) ++ [(⟨a0_0, a0_1, a1_1⟩ : S32)]) := ⟨_, rfl⟩
            replace H : (if a1_2 < a0_2 then (if y106.length < 5864062014805 then (some (y106 ++ [(⟨a0_0, a1_2, a0_2⟩ : S32)])) else (none)) else (some y106)) = some r := by first | (rw [hy106]; with_reducible exact H) | (have H2_ := (Option.bind_some _ _).symm.trans H; rw [hy106]; with_reducible exact H2_) | (have H2_ := (Option.bind_some _ _).symm.trans H; with_reducible exact H2_) | with_reducible exact H | (rw [hy106]; exact H) | exact H
            have Ny106 := Aside0.mk hy106
            clear hy106
            by_cases c24 : a1_2 < a0_2
            · rw [if_pos c24] at H
              have c24b0 : decide (a1_2 < a0_2) = true := decide_eq_true c24
              clear c24
              by_cases c25 : y106.length < 5864062014805
              · rw [if_pos c25] at H
                have LMc25 := Aside0.mk c25
                clear c25
                obtain ⟨y109, hy109⟩ : ∃ y_ : List (S32), y_ = (y106 ++ [(⟨a0_0, a1_2, a0_2⟩ : S32)]) := ⟨_, rfl⟩
                replace H : (some y109) = some r := by first | (rw [hy109]; with_reducible exact H) | (have H2_ := (Option.bind_some _ _).symm.trans H; rw [hy109]; with_reducible exact H2_) | (have H2_ := (Option.bind_some _ _).symm.trans H; with_reducible exact H2_) | with_reducible exact H | (rw [hy109]; exact H) | exact H
                have Ny109 := Aside0.mk hy109
                clear hy109
                obtain rfl := Option.some.inj H
                have hnb26 := NB101_102.out
                have hnc26 := NB102_101.out
                have hcz27_0 : wc.cell? ⟨gb101, 0, none⟩ = some (.int .i64 a0_0) := (blk_cell BK101.out 0).trans rfl
                have hcz27_1 : wc.cell? ⟨gb101, 1, none⟩ = some (.int .i64 a0_1) := (blk_cell BK101.out 1).trans rfl
                have hcz27_2 : wc.cell? ⟨gb101, 2, none⟩ = some (.int .i64 a0_2) := (blk_cell BK101.out 2).trans rfl
                have hfz27_0 := blk_frozen BK101.out 0
                have hfz27_1 := blk_frozen BK101.out 1
                have hfz27_2 := blk_frozen BK101.out 2
                have hcz28_0 : wc.cell? ⟨gb102, 0, none⟩ = some (.int .i64 a1_0) := (blk_cell BK102.out 0).trans rfl
                have hcz28_1 : wc.cell? ⟨gb102, 1, none⟩ = some (.int .i64 a1_1) := (blk_cell BK102.out 1).trans rfl
                have hcz28_2 : wc.cell? ⟨gb102, 2, none⟩ = some (.int .i64 a1_2) := (blk_cell BK102.out 2).trans rfl
                have hfz28_0 := blk_frozen BK102.out 0
                have hfz28_1 := blk_frozen BK102.out 1
                have hfz28_2 := blk_frozen BK102.out 2
                go_wp2_with (first | ((with_reducible refine gate_builtin (b := .append) (xs := #[.tmp 32, .tmp 40]) rfl ?_); at_builtin; refine Kd.R_append k32 (w0 := w) w.heap.size rfl (.tmp 32) (.tmp 40) 22 32 (.agg #[(.int .i64 0), (.int .i64 0), (.int .i64 0)]) 24 rfl Try.underlying22 info32 rfl (by decide) (by omega) (.slice none 0 0) ([] : List (S32)) (⟨a0_0, a0_1, a1_1⟩ : S32) [.int .i64 a0_0, .int .i64 a0_1, .int .i64 a1_1] (fun k_ => k_ ≠ gb101 ∧ k_ ≠ gb102) (fun _ => False) rfl rfl ?aP (fun _ hk => hk.elim) ?aF ?aO ?aB ?aS ?aL ?_; (case aP => exact k32_mkM _ _ _ (⟨a0_0, a0_1, a1_1⟩ : S32)); (case aB => exact (by repeat (first | (with_reducible first | exact HB.out | apply below_alloc | apply pw_below_drewN | apply below_drew1 | refine below_set ?_ GE101.out | refine below_set ?_ GE102.out) | exact HB.out))); (case aF => exact (fun k_ hk => ⟨Kd.freshB (g := gb101) (o := .cells #[.int .i64 a0_0, .int .i64 a0_1, .int .i64 a0_2] 32 (0, 0)) (by (with_reducible repeat (first | refine blk_drewN ?_ _ | refine blk_drew ?_ | refine blk_alloc ?_ _)); exact BK101.out) k_ hk, Kd.freshB (g := gb102) (o := .cells #[.int .i64 a1_0, .int .i64 a1_1, .int .i64 a1_2] 32 (0, 0)) (by (with_reducible repeat (first | refine blk_drewN ?_ _ | refine blk_drew ?_ | refine blk_alloc ?_ _)); exact BK102.out) k_ hk⟩)); (case aO => exact ((Kd.R_nil _ _ _ _ (fun k_ => k_ ≠ gb101 ∧ k_ ≠ gb102)))); (case aS => exact (below_size (by repeat (first | (with_reducible first | exact HB.out | apply below_alloc | apply pw_below_drewN | apply below_drew1 | refine below_set ?_ GE101.out | refine below_set ?_ GE102.out) | exact HB.out)))); (case aL => have := LMc23.out; omega); intro v107 w29 ho hb hg hat; rw [← Ny106.out] at ho; have n0_ := Aside0.mk (blk_grown (g := gb101) (o := .cells #[.int .i64 a0_0, .int .i64 a0_1, .int .i64 a0_2] 32 (0, 0)) (by (with_reducible repeat (first | refine blk_drewN ?_ _ | refine blk_drew ?_ | refine blk_alloc ?_ _)); exact BK101.out) hg (by simp [Value.ownBlock])); have n1_ := Aside0.mk (blk_grown (g := gb102) (o := .cells #[.int .i64 a1_0, .int .i64 a1_1, .int .i64 a1_2] 32 (0, 0)) (by (with_reducible repeat (first | refine blk_drewN ?_ _ | refine blk_drew ?_ | refine blk_alloc ?_ _)); exact BK102.out) hg (by simp [Value.ownBlock])); have n2_ := Aside0.mk (hb); have n3_ := Aside0.mk (ho); clear BK101; clear BK102; clear HB; have BK101 := n0_; have BK102 := n1_; have HB := n2_; have HO108 := n3_; clear n0_ n1_ n2_ n3_; clear ho hb hg hat; have hcz30_0 : w29.cell? ⟨gb102, 0, none⟩ = some (.int .i64 a1_0) := (blk_cell BK102.out 0).trans rfl; have hcz30_1 : w29.cell? ⟨gb102, 1, none⟩ = some (.int .i64 a1_1) := (blk_cell BK102.out 1).trans rfl; have hcz30_2 : w29.cell? ⟨gb102, 2, none⟩ = some (.int .i64 a1_2) := (blk_cell BK102.out 2).trans rfl; have hfz30_0 := blk_frozen BK102.out 0; have hfz30_1 := blk_frozen BK102.out 1; have hfz30_2 := blk_frozen BK102.out 2; have hcz31_0 : w29.cell? ⟨gb101, 0, none⟩ = some (.int .i64 a0_0) := (blk_cell BK101.out 0).trans rfl; have hcz31_1 : w29.cell? ⟨gb101, 1, none⟩ = some (.int .i64 a0_1) := (blk_cell BK101.out 1).trans rfl; have hcz31_2 : w29.cell? ⟨gb101, 2, none⟩ = some (.int .i64 a0_2) := (blk_cell BK101.out 2).trans rfl; have hfz31_0 := blk_frozen BK101.out 0; have hfz31_1 := blk_frozen BK101.out 1; have hfz31_2 := blk_frozen BK101.out 2) | ((with_reducible refine gate_builtin (b := .append) (xs := #[.tmp 47, .tmp 55]) rfl ?_); at_builtin; refine Kd.R_append k32 (w0 := w) w.heap.size rfl (.tmp 47) (.tmp 55) 22 32 (.agg #[(.int .i64 0), (.int .i64 0), (.int .i64 0)]) 24 rfl Try.underlying22 info32 rfl (by decide) (by omega) v107 y106 (⟨a0_0, a1_2, a0_2⟩ : S32) [.int .i64 a0_0, .int .i64 a1_2, .int .i64 a0_2] (fun k_ => k_ ≠ gb101 ∧ k_ ≠ gb102) (fun _ => False) rfl rfl ?aP (fun _ hk => hk.elim) ?aF ?aO ?aB ?aS ?aL ?_; (case aP => exact k32_mkM _ _ _ (⟨a0_0, a1_2, a0_2⟩ : S32)); (case aB => exact (by repeat (first | (with_reducible first | exact HB.out | apply below_alloc | apply pw_below_drewN | apply below_drew1 | refine below_set ?_ GE101.out | refine below_set ?_ GE102.out) | exact HB.out))); (case aF => exact (fun k_ hk => ⟨Kd.freshB (g := gb101) (o := .cells #[.int .i64 a0_0, .int .i64 a0_1, .int .i64 a0_2] 32 (0, 0)) (by (with_reducible repeat (first | refine blk_drewN ?_ _ | refine blk_drew ?_ | refine blk_alloc ?_ _)); exact BK101.out) k_ hk, Kd.freshB (g := gb102) (o := .cells #[.int .i64 a1_0, .int .i64 a1_1, .int .i64 a1_2] 32 (0, 0)) (by (with_reducible repeat (first | refine blk_drewN ?_ _ | refine blk_drew ?_ | refine blk_alloc ?_ _)); exact BK102.out) k_ hk⟩)); (case aO => exact (by (with_reducible repeat (first | apply Kd.R_alloc | apply Kd.R_drewN | apply Kd.R_drew)); exact HO108.out)); (case aS => exact (below_size (by repeat (first | (with_reducible first | exact HB.out | apply below_alloc | apply pw_below_drewN | apply below_drew1 | refine below_set ?_ GE101.out | refine below_set ?_ GE102.out) | exact HB.out)))); (case aL => have := LMc25.out; omega); intro v110 w32 ho hb hg hat; rw [← Ny109.out] at ho; have n0_ := Aside0.mk (blk_grown (g := gb101) (o := .cells #[.int .i64 a0_0, .int .i64 a0_1, .int .i64 a0_2] 32 (0, 0)) (by (with_reducible repeat (first | refine blk_drewN ?_ _ | refine blk_drew ?_ | refine blk_alloc ?_ _)); exact BK101.out) hg (Kd.R_away HO108.out (fun _ hk => hk.1))); have n1_ := Aside0.mk (blk_grown (g := gb102) (o := .cells #[.int .i64 a1_0, .int .i64 a1_1, .int .i64 a1_2] 32 (0, 0)) (by (with_reducible repeat (first | refine blk_drewN ?_ _ | refine blk_drew ?_ | refine blk_alloc ?_ _)); exact BK102.out) hg (Kd.R_away HO108.out (fun _ hk => hk.2))); have n2_ := Aside0.mk (hb); have n3_ := Aside0.mk (ho); clear BK101; clear BK102; clear HB; clear HO108; have BK101 := n0_; have BK102 := n1_; have HB := n2_; have HO111 := n3_; clear n0_ n1_ n2_ n3_; clear ho hb hg hat))
                go_ret
                exact ⟨_, by first | rfl | (simp [errW_none, errW_some] <;> rfl) | (simp [*, errW_none, errW_some] <;> rfl), by (with_reducible repeat (first | apply Kd.R_alloc | apply Kd.R_drewN | apply Kd.R_drew)); exact Kd.R_mono HO111.out (fun _ hk => trivial), by repeat (first | (with_reducible first | exact HB.out | apply below_alloc | apply pw_below_drewN | apply below_drew1 | refine below_set ?_ GE101.out | refine below_set ?_ GE102.out) | exact HB.out)⟩
              · rw [if_neg c25] at H
                exact absurd H (by simp)
            · rw [if_neg c24] at H
              have c24b0 : decide (a1_2 < a0_2) = false := decide_eq_false c24
              clear c24
              obtain rfl := Option.some.inj H
              have hnb33 := NB101_102.out
              have hnc33 := NB102_101.out
              have hcz34_0 : wc.cell? ⟨gb101, 0, none⟩ = some (.int .i64 a0_0) := (blk_cell BK101.out 0).trans rfl
              have hcz34_1 : wc.cell? ⟨gb101, 1, none⟩ = some (.int .i64 a0_1) := (blk_cell BK101.out 1).trans rfl
              have hcz34_2 : wc.cell? ⟨gb101, 2, none⟩ = some (.int .i64 a0_2) := (blk_cell BK101.out 2).trans rfl
              have hfz34_0 := blk_frozen BK101.out 0
              have hfz34_1 := blk_frozen BK101.out 1
              have hfz34_2 := blk_frozen BK101.out 2
              have hcz35_0 : wc.cell? ⟨gb102, 0, none⟩ = some (.int .i64 a1_0) := (blk_cell BK102.out 0).trans rfl
              have hcz35_1 : wc.cell? ⟨gb102, 1, none⟩ = some (.int .i64 a1_1) := (blk_cell BK102.out 1).trans rfl
              have hcz35_2 : wc.cell? ⟨gb102, 2, none⟩ = some (.int .i64 a1_2) := (blk_cell BK102.out 2).trans rfl
              have hfz35_0 := blk_frozen BK102.out 0
              have hfz35_1 := blk_frozen BK102.out 1
              have hfz35_2 := blk_frozen BK102.out 2
              go_wp2_with (first | ((with_reducible refine gate_builtin (b := .append) (xs := #[.tmp 32, .tmp 40]) rfl ?_); at_builtin; refine Kd.R_append k32 (w0 := w) w.heap.size rfl (.tmp 32) (.tmp 40) 22 32 (.agg #[(.int .i64 0), (.int .i64 0), (.int .i64 0)]) 24 rfl Try.underlying22 info32 rfl (by decide) (by omega) (.slice none 0 0) ([] : List (S32)) (⟨a0_0, a0_1, a1_1⟩ : S32) [.int .i64 a0_0, .int .i64 a0_1, .int .i64 a1_1] (fun k_ => k_ ≠ gb101 ∧ k_ ≠ gb102) (fun _ => False) rfl rfl ?aP (fun _ hk => hk.elim) ?aF ?aO ?aB ?aS ?aL ?_; (case aP => exact k32_mkM _ _ _ (⟨a0_0, a0_1, a1_1⟩ : S32)); (case aB => exact (by repeat (first | (with_reducible first | exact HB.out | apply below_alloc | apply pw_below_drewN | apply below_drew1 | refine below_set ?_ GE101.out | refine below_set ?_ GE102.out) | exact HB.out))); (case aF => exact (fun k_ hk => ⟨Kd.freshB (g := gb101) (o := .cells #[.int .i64 a0_0, .int .i64 a0_1, .int .i64 a0_2] 32 (0, 0)) (by (with_reducible repeat (first | refine blk_drewN ?_ _ | refine blk_drew ?_ | refine blk_alloc ?_ _)); exact BK101.out) k_ hk, Kd.freshB (g := gb102) (o := .cells #[.int .i64 a1_0, .int .i64 a1_1, .int .i64 a1_2] 32 (0, 0)) (by (with_reducible repeat (first | refine blk_drewN ?_ _ | refine blk_drew ?_ | refine blk_alloc ?_ _)); exact BK102.out) k_ hk⟩)); (case aO => exact ((Kd.R_nil _ _ _ _ (fun k_ => k_ ≠ gb101 ∧ k_ ≠ gb102)))); (case aS => exact (below_size (by repeat (first | (with_reducible first | exact HB.out | apply below_alloc | apply pw_below_drewN | apply below_drew1 | refine below_set ?_ GE101.out | refine below_set ?_ GE102.out) | exact HB.out)))); (case aL => have := LMc23.out; omega); intro v107 w36 ho hb hg hat; rw [← Ny106.out] at ho; have n0_ := Aside0.mk (blk_grown (g := gb101) (o := .cells #[.int .i64 a0_0, .int .i64 a0_1, .int .i64 a0_2] 32 (0, 0)) (by (with_reducible repeat (first | refine blk_drewN ?_ _ | refine blk_drew ?_ | refine blk_alloc ?_ _)); exact BK101.out) hg (by simp [Value.ownBlock])); have n1_ := Aside0.mk (blk_grown (g := gb102) (o := .cells #[.int .i64 a1_0, .int .i64 a1_1, .int .i64 a1_2] 32 (0, 0)) (by (with_reducible repeat (first | refine blk_drewN ?_ _ | refine blk_drew ?_ | refine blk_alloc ?_ _)); exact BK102.out) hg (by simp [Value.ownBlock])); have n2_ := Aside0.mk (hb); have n3_ := Aside0.mk (ho); clear BK101; clear BK102; clear HB; have BK101 := n0_; have BK102 := n1_; have HB := n2_; have HO108 := n3_; clear n0_ n1_ n2_ n3_; clear ho hb hg hat; have hcz37_0 : w36.cell? ⟨gb102, 0, none⟩ = some (.int .i64 a1_0) := (blk_cell BK102.out 0).trans rfl; have hcz37_1 : w36.cell? ⟨gb102, 1, none⟩ = some (.int .i64 a1_1) := (blk_cell BK102.out 1).trans rfl; have hcz37_2 : w36.cell? ⟨gb102, 2, none⟩ = some (.int .i64 a1_2) := (blk_cell BK102.out 2).trans rfl; have hfz37_0 := blk_frozen BK102.out 0; have hfz37_1 := blk_frozen BK102.out 1; have hfz37_2 := blk_frozen BK102.out 2; have hcz38_0 : w36.cell? ⟨gb101, 0, none⟩ = some (.int .i64 a0_0) := (blk_cell BK101.out 0).trans rfl; have hcz38_1 : w36.cell? ⟨gb101, 1, none⟩ = some (.int .i64 a0_1) := (blk_cell BK101.out 1).trans rfl; have hcz38_2 : w36.cell? ⟨gb101, 2, none⟩ = some (.int .i64 a0_2) := (blk_cell BK101.out 2).trans rfl; have hfz38_0 := blk_frozen BK101.out 0; have hfz38_1 := blk_frozen BK101.out 1; have hfz38_2 := blk_frozen BK101.out 2))
              go_ret
              exact ⟨_, by first | rfl | (simp [errW_none, errW_some] <;> rfl) | (simp [*, errW_none, errW_some] <;> rfl), by (with_reducible repeat (first | apply Kd.R_alloc | apply Kd.R_drewN | apply Kd.R_drew)); exact Kd.R_mono HO108.out (fun _ hk => trivial), by repeat (first | (with_reducible first | exact HB.out | apply below_alloc | apply pw_below_drewN | apply below_drew1 | refine below_set ?_ GE101.out | refine below_set ?_ GE102.out) | exact HB.out)⟩
          · rw [if_neg c23] at H
            exact absurd H (by simp)
        · rw [if_neg c22] at H
          have c22b0 : decide (a0_1 < a1_1) = false := decide_eq_false c22
          clear c22
          by_cases c39 : a1_2 < a0_2
          · rw [if_pos c39] at H
            have c39b0 : decide (a1_2 < a0_2) = true := decide_eq_true c39
            clear c39
            by_cases c40 : ([] : List (S32)).length < 5864062014805
            · rw [if_pos c40] at H
              have LMc40 := Aside0.mk c40
              clear c40
              obtain ⟨y112, hy112⟩ : ∃ y_ : List (S32), y_ = (([] : List (S32)) ++ [(⟨a0_0, a1_2, a0_2⟩ : S32)]) := ⟨_, rfl⟩
              replace H : (some y112) = some r := by first | (rw [hy112]; with_reducible exact H) | (have H2_ := (Option.bind_some _ _).symm.trans H; rw [hy112]; with_reducible exact H2_) | (have H2_ := (Option.bind_some _ _).symm.trans H; with_reducible exact H2_) | with_reducible exact H | (rw [hy112]; exact H) | exact H
              have Ny112 := Aside0.mk hy112
              clear hy112
              obtain rfl := Option.some.inj H
              have hnb41 := NB101_102.out
              have hnc41 := NB102_101.out
              have hcz42_0 : wc.cell? ⟨gb101, 0, none⟩ = some (.int .i64 a0_0) := (blk_cell BK101.out 0).trans rfl
              have hcz42_1 : wc.cell? ⟨gb101, 1, none⟩ = some (.int .i64 a0_1) := (blk_cell BK101.out 1).trans rfl
              have hcz42_2 : wc.cell? ⟨gb101, 2, none⟩ = some (.int .i64 a0_2) := (blk_cell BK101.out 2).trans rfl
              have hfz42_0 := blk_frozen BK101.out 0
              have hfz42_1 := blk_frozen BK101.out 1
              have hfz42_2 := blk_frozen BK101.out 2
              have hcz43_0 : wc.cell? ⟨gb102, 0, none⟩ = some (.int .i64 a1_0) := (blk_cell BK102.out 0).trans rfl
              have hcz43_1 : wc.cell? ⟨gb102, 1, none⟩ = some (.int .i64 a1_1) := (blk_cell BK102.out 1).trans rfl
              have hcz43_2 : wc.cell? ⟨gb102, 2, none⟩ = some (.int .i64 a1_2) := (blk_cell BK102.out 2).trans rfl
              have hfz43_0 := blk_frozen BK102.out 0
              have hfz43_1 := blk_frozen BK102.out 1
              have hfz43_2 := blk_frozen BK102.out 2
              go_wp2_with (first | ((with_reducible refine gate_builtin (b := .append) (xs := #[.tmp 47, .tmp 55]) rfl ?_); at_builtin; refine Kd.R_append k32 (w0 := w) w.heap.size rfl (.tmp 47) (.tmp 55) 22 32 (.agg #[(.int .i64 0), (.int .i64 0), (.int .i64 0)]) 24 rfl Try.underlying22 info32 rfl (by decide) (by omega) (.slice none 0 0) ([] : List (S32)) (⟨a0_0, a1_2, a0_2⟩ : S32) [.int .i64 a0_0, .int .i64 a1_2, .int .i64 a0_2] (fun k_ => k_ ≠ gb101 ∧ k_ ≠ gb102) (fun _ => False) rfl rfl ?aP (fun _ hk => hk.elim) ?aF ?aO ?aB ?aS ?aL ?_; (case aP => exact k32_mkM _ _ _ (⟨a0_0, a1_2, a0_2⟩ : S32)); (case aB => exact (by repeat (first | (with_reducible first | exact HB.out | apply below_alloc | apply pw_below_drewN | apply below_drew1 | refine below_set ?_ GE101.out | refine below_set ?_ GE102.out) | exact HB.out))); (case aF => exact (fun k_ hk => ⟨Kd.freshB (g := gb101) (o := .cells #[.int .i64 a0_0, .int .i64 a0_1, .int .i64 a0_2] 32 (0, 0)) (by (with_reducible repeat (first | refine blk_drewN ?_ _ | refine blk_drew ?_ | refine blk_alloc ?_ _)); exact BK101.out) k_ hk, Kd.freshB (g := gb102) (o := .cells #[.int .i64 a1_0, .int .i64 a1_1, .int .i64 a1_2] 32 (0, 0)) (by (with_reducible repeat (first | refine blk_drewN ?_ _ | refine blk_drew ?_ | refine blk_alloc ?_ _)); exact BK102.out) k_ hk⟩)); (case aO => exact ((Kd.R_nil _ _ _ _ (fun k_ => k_ ≠ gb101 ∧ k_ ≠ gb102)))); (case aS => exact (below_size (by repeat (first | (with_reducible first | exact HB.out | apply below_alloc | apply pw_below_drewN | apply below_drew1 | refine below_set ?_ GE101.out | refine below_set ?_ GE102.out) | exact HB.out)))); (case aL => have := LMc40.out; omega); intro v113 w44 ho hb hg hat; rw [← Ny112.out] at ho; have n0_ := Aside0.mk (blk_grown (g := gb101) (o := .cells #[.int .i64 a0_0, .int .i64 a0_1, .int .i64 a0_2] 32 (0, 0)) (by (with_reducible repeat (first | refine blk_drewN ?_ _ | refine blk_drew ?_ | refine blk_alloc ?_ _)); exact BK101.out) hg (by simp [Value.ownBlock])); have n1_ := Aside0.mk (blk_grown (g := gb102) (o := .cells #[.int .i64 a1_0, .int .i64 a1_1, .int .i64 a1_2] 32 (0, 0)) (by (with_reducible repeat (first | refine blk_drewN ?_ _ | refine blk_drew ?_ | refine blk_alloc ?_ _)); exact BK102.out) hg (by simp [Value.ownBlock])); have n2_ := Aside0.mk (hb); have n3_ := Aside0.mk (ho); clear BK101; clear BK102; clear HB; have BK101 := n0_; have BK102 := n1_; have HB := n2_; have HO114 := n3_; clear n0_ n1_ n2_ n3_; clear ho hb hg hat))
              go_ret
              exact ⟨_, by first | rfl | (simp [errW_none, errW_some] <;> rfl) | (simp [*, errW_none, errW_some] <;> rfl), by (with_reducible repeat (first | apply Kd.R_alloc | apply Kd.R_drewN | apply Kd.R_drew)); exact Kd.R_mono HO114.out (fun _ hk => trivial), by repeat (first | (with_reducible first | exact HB.out | apply below_alloc | apply pw_below_drewN | apply below_drew1 | refine below_set ?_ GE101.out | refine below_set ?_ GE102.out) | exact HB.out)⟩
            · rw [if_neg c40] at H
              exact absurd H (by simp)
          · rw [if_neg c39] at H
            have c39b0 : decide (a1_2 < a0_2) = false := decide_eq_false c39
            clear c39
            obtain rfl := Option.some.inj H
            have hnb45 := NB101_102.out
            have hnc45 := NB102_101.out
            have hcz46_0 : wc.cell? ⟨gb101, 0, none⟩ = some (.int .i64 a0_0) := (blk_cell BK101.out 0).trans rfl
            have hcz46_1 : wc.cell? ⟨gb101, 1, none⟩ = some (.int .i64 a0_1) := (blk_cell BK101.out 1).trans rfl
            have hcz46_2 : wc.cell? ⟨gb101, 2, none⟩ = some (.int .i64 a0_2) := (blk_cell BK101.out 2).trans rfl
            have hfz46_0 := blk_frozen BK101.out 0
            have hfz46_1 := blk_frozen BK101.out 1
            have hfz46_2 := blk_frozen BK101.out 2
            have hcz47_0 : wc.cell? ⟨gb102, 0, none⟩ = some (.int .i64 a1_0) := (blk_cell BK102.out 0).trans rfl
            have hcz47_1 : wc.cell? ⟨gb102, 1, none⟩ = some (.int .i64 a1_1) := (blk_cell BK102.out 1).trans rfl
            have hcz47_2 : wc.cell? ⟨gb102, 2, none⟩ = some (.int .i64 a1_2) := (blk_cell BK102.out 2).trans rfl
            have hfz47_0 := blk_frozen BK102.out 0
            have hfz47_1 := blk_frozen BK102.out 1
            have hfz47_2 := blk_frozen BK102.out 2
            go_wp2
            go_ret
            exact ⟨_, by first | rfl | (simp [errW_none, errW_some] <;> rfl) | (simp [*, errW_none, errW_some] <;> rfl), by first | exact Kd.R_nil _ _ _ _ _ | exact Kd.N_nil _ _ _ _ _ | exact Kd.V_nil _ _ _ _ _ | exact Kd.Q_nil _ _ _ _ _ | exact Kd.S_nil _ _ _ _ _, by repeat (first | (with_reducible first | exact HB.out | apply below_alloc | apply pw_below_drewN | apply below_drew1 | refine below_set ?_ GE101.out | refine below_set ?_ GE102.out) | exact HB.out)⟩

end Go.Proofs.Ytpchbdpepgeibaa.Pwithout
