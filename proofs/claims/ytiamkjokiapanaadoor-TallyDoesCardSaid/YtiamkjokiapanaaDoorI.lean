/- Contract of tally.Members: a range over tally.members' function. -/
import Derived.RangeFuncBox
import Derived.RangeFuncNested
import Derived.RangeFuncBound
import Derived.RangeFuncCalls
import Derived.RangeFuncLeaves
import Derived.Shelf.Abstract
import Derived.Shelf.RegionOpen
import Derived.OwnWalkIn
import Derived.TacticsInMore
import Derived.LoopNIn
import Derived.LoopIn
import Derived.Test.YtiamkjokiapanaaDoorZ
namespace Go.Proofs.YtiamkjokiapanaaDoor
open Go.RowKit Go.Shelf Go.Proofs
attribute [local go_sem] Oper.semAt_some

theorem memb_step (s : Nat) (h : s < 128) (h0 : s ≠ 0) : membN s = ((Lib.ctz 64 s : Nat) : Int) :: membN (s &&& (s - 1)) := by
  have := all128 (fun s => s == 0 || (membN s == ((Lib.ctz 64 s : Nat) : Int) :: membN (s &&& (s - 1)))) (by decide +kernel) s h
  simpa [h0] using this
theorem and_step (s : Nat) (h : s < 128) (h0 : s ≠ 0) : bits BinOp.and IntKind.u64 (s : Int) ((s : Int) - 1) = ((s &&& (s - 1) : Nat) : Int) := by
  have := all128 (fun s => s == 0 || (bits BinOp.and IntKind.u64 (s : Int) ((s : Int) - 1) == ((s &&& (s - 1) : Nat) : Int))) (by decide +kernel) s h
  simpa [h0] using this
theorem and_less (s : Nat) (h : s < 128) (h0 : s ≠ 0) : s &&& (s - 1) < s := by
  have := all128 (fun s => s == 0 || decide (s &&& (s - 1) < s)) (by decide +kernel) s h
  simpa [h0] using this
theorem tab_below {g : Nat} {tab : List Nat} {B : Nat} {w w' : World} (h : TabAt g tab w) (hb : Below B w w') (hg : g < B) : TabAt g tab w' := fun j hj => (hb.cell (p := ⟨g, j, none⟩) hg).trans (h j hj)

set_option maxRecDepth 100000 in
set_option maxHeartbeats 2000000 in
theorem members1_in (n : Nat) (hn : 2 ≤ n) (l Bn n₀ : Nat) (s0 : Int) (J Jx : List Int → World → Prop) (hg : 1 < n₀)
    (hY : ∀ pre x W, J pre W → pre.length < (membN (rt s0)).length → YieldAt Fence.wide (n - 1) Tryd.prog l #[.int .i64 x] W fun e W' =>
      (e = .returned (.bool true) ∧ J (pre ++ [x]) W' ∧ Below n₀ W W') ∨ (e = .returned (.bool false) ∧ Jx (pre ++ [x]) W'))
    (W : World) (hBn : W.cell? ⟨Bn, 0, none⟩ = some (.int .i64 s0)) (hT : TabAt 1 Lib.deBruijn64tab W) (h0 : J [] W) :
    CallsIn Fence.wide n Tryd.prog 36 #[.func (.yield l) #[] #[], .pointer (some ⟨Bn, 0, none⟩)] W fun e W' => (∃ v, e = .returned v) ∧
      ((∃ ys, ys = membN (rt s0) ∧ J ys W') ∨ (∃ pre, pre <+: membN (rt s0) ∧ Jx pre W')) := by
  have hr := rt_lt s0
  have HR := Lib.hid (fun W => right_any s0 W)
  generalize rt s0 = S at *
  have hS : (S : Int) ≤ 127 := by omega
  have HT := Lib.hid hT
  clear hT
  refine callsIn_of_wp Tryd.func36 rfl trivial ?_ rfl
  simp only [Tryd.ntmps36, List.size_toArray, List.length_cons, List.length_nil, Nat.reduceAdd, Nat.reduceSub, Array.replicate_succ, Array.replicate_zero, List.push_toArray, List.append_toArray, List.nil_append, List.cons_append]
  gi_wp2_with fail
  refine ⟨trivial, (fun _ => by omega), (callsIn_wide.2 (HR.out _)).mono ?_⟩
  rintro e w' ⟨rfl, rfl⟩
  gi_wp2_with fail
  gi_loopw [3] (fun v wr => ∃ (s : Nat) (pre : List Int), v = .int .u64 s ∧ s < 128 ∧ Hid (membN S = pre ++ membN s) ∧ J pre wr ∧ Below n₀ W wr) (fun v _ => (intOf v).toNat)
  case atStart => exact ⟨S, [], rfl, hr, rfl, h0, Below.refl _ _⟩
  case round =>
    obtain ⟨s, pre, rfl, hs, hx, hJs, hb⟩ := hrel
    by_cases hz : s = 0
    · subst hz
      have hx' : membN S = pre := by have := hx.out; simpa [membN, hasN] using this
      gi_wp2
      go_end0
      exact ⟨⟨_, rfl⟩, .inl ⟨pre, hx'.symm, hJs⟩⟩
    · have hnz : ((s : Int) != 0) = true := by simpa using hz
      have hm := memb_step s hs hz
      have hlen : pre.length < (membN S).length := by rw [hx.out, hm]; simp
      obtain ⟨fn, tmps, assign, body, hy, hRR⟩ := hY pre (Lib.ctz 64 s) wr hJs hlen
      have htz := tz_any s hs wr (tab_below HT.out hb hg)
      have has := and_step s hs hz
      have hal := and_less s hs hz
      have hs1 : (s : Int) ≤ 127 := by omega
      have hs0 : 1 ≤ (s : Int) := by omega
      have HX := Lib.hid (And.intro hx.out hm)
      have HA := Lib.hid has
      clear hx hm has hz
      have HTZ := Lib.hid htz
      clear htz
      gi_wp2_with fail
      refine ⟨trivial, (fun _ => by omega), (callsIn_wide.2 HTZ.out).mono ?_⟩
      rintro e w' ⟨rfl, hw'⟩
      subst hw'
      gi_wp2_with fail
      refine ⟨(fun _ => by omega), hRR.mono ?_⟩
      rintro e W3 (⟨rfl, hJ3, hk3⟩ | ⟨rfl, hJx3⟩)
      · have hb3 := hb.trans hk3
        have hpre : Hid (membN S = (pre ++ [((Lib.ctz 64 s : Nat) : Int)]) ++ membN (s &&& (s - 1))) := by
          unfold Hid
          rw [HX.out.1, HX.out.2]
          simp
        have has := HA.out
        gi_wp2_with fail
        go_roundw
        case rel => exact ⟨s &&& (s - 1), pre ++ [_], rfl, by omega, hpre, hJ3, hb3⟩
        case measure => simp [intOf]; omega
      · have hpre : pre ++ [((Lib.ctz 64 s : Nat) : Int)] <+: membN S := ⟨membN (s &&& (s - 1)), by rw [HX.out.1, HX.out.2]; simp⟩
        gi_wp2_with fail
        refine bodyPost_ret (results_none rfl _ _ _) rfl ?_
        exact ⟨⟨_, rfl⟩, .inr ⟨_, hpre, hJx3⟩⟩

theorem members_in (n : Nat) (s0 : Int) (w : World) :
    CallsIn Fence.wide n Tryd.prog 30 #[.int .i64 s0] w fun e w' => e = .returned (.func (.func 36) #[] #[.pointer (some ⟨w.heap.size, 0, none⟩)]) ∧ w' = w.alloc (.cells #[.int .i64 s0] 3) := by
  refine callsIn_of_wp Tryd.func30 rfl trivial ?_ rfl
  simp only [Tryd.ntmps30, List.size_toArray, List.length_cons, List.length_nil, Nat.reduceAdd, Nat.reduceSub, Array.replicate_succ, Array.replicate_zero, List.push_toArray, List.append_toArray, List.nil_append, List.cons_append]
  gi_wp2
  go_ret
  exact ⟨rfl, rfl⟩
theorem members_stops (n : Nat) (hn : 2 ≤ n) (Bn n₀ : Nat) (s0 : Int) (w : World) (hBn : Bn < w.heap.size) (hn₀ : n₀ ≤ w.heap.size) (hg : 1 < n₀)
    (hc : w.cell? ⟨Bn, 0, none⟩ = some (.int .i64 s0)) (hT : TabAt 1 Lib.deBruijn64tab w) :
    SeqStopsK Fence.wide n Tryd.prog 36 #[.pointer (some ⟨Bn, 0, none⟩)] (fun x : Int => #[Value.int .i64 x]) (Below n₀) (fun ys => ys = membN (rt s0)) (fun pre => pre <+: membN (rt s0)) (membN (rt s0)).length w := fun l J Jx W hW _ _ hY h0 =>
  members1_in n hn l Bn n₀ s0 J Jx hg hY W ((hW.cell (p := ⟨Bn, 0, none⟩) hBn).trans hc) (tab_below hT hW (by omega)) h0

set_option maxRecDepth 100000 in
set_option maxHeartbeats 2000000 in
theorem members_any (s0 : Int) (w : World) (hT : TabAt 1 Lib.deBruijn64tab w) (hg : 1 < w.heap.size) :
    Calls Tryd.prog 18 #[.int .i64 s0] w fun e W' => ∃ v, e = .returned v ∧ W'.ownsRow w.heap.size 3 1 v (membN (rt s0)).length (ints (membN (rt s0))) ∧ Below w.heap.size w W' := by
  refine (callsIn_wide (n := 5)).1 ?_
  obtain ⟨i0, hi, hz0, hz1, hz2⟩ := info_parts info3
  have hlen7 : (membN (rt s0)).length ≤ 7 := by unfold membN; exact Nat.le_trans (List.length_filter_le _ _) (by decide)
  refine callsIn_of_wp_marks Tryd.func18 rfl trivial ?_ rfl
  simp only [Tryd.ntmps18, List.size_toArray, List.length_cons, List.length_nil, Nat.reduceAdd, Nat.reduceSub, Array.replicate_succ, Array.replicate_zero, List.push_toArray, List.append_toArray, List.nil_append, List.cons_append]
  gi_wp2_with fail
  refine ⟨trivial, (members_in _ _ _).mono ?_⟩
  rintro e w' ⟨rfl, hw'⟩
  subst hw'
  gi_wp2_with fail
  have bO := Boxed.new w 22 (.slice none 0 0)
  have bN := Boxed.new (w.alloc (.cells #[.slice none 0 0] 22)) 3 (.int .i64 s0)
  rw [World.size_alloc] at bN
  have hB0 : Below w.heap.size w ((w.alloc (.cells #[.slice none 0 0] 22)).alloc (.cells #[.int .i64 s0] 3)) := ((Below.refl _ w).alloc (Nat.le_refl _) _).alloc (by simp) _
  refine wpIn_rangeFunc_ownG rfl (by decide) (gf := 36) (lb := #[.pointer (some ⟨w.heap.size + 1, 0, none⟩)]) rfl trivial (enters_of Tryd.func36 (by kernel_rfl) rfl)
    (members_stops (5 - 1) (by decide) (w.heap.size + 1) w.heap.size s0 _ (by simp) (by simp; omega) hg bN.cell (tab_below hT hB0 (by omega))) belowK_t (belowK_b (by simp; omega)) (Below.refl _ _) (fun _ => rfl)
    (fun pre W => (∃ v, Boxed W w.heap.size 22 v ∧ W.ownsRow w.heap.size 3 1 v pre.length (ints pre) ∧ True) ∧ Below w.heap.size w W)
    (fun _ _ _ => False)
    (OwnFrom.and (Own.from (holdsRow_own w.heap.size w.heap.size 22 3 1 (fun (pre : List Int) => pre.length) (fun pre => ints pre) (fun _ _ => True)) _) (ownFrom_below (Nat.le_refl _) (by simp; omega)))
    (fun _ _ _ _ _ hs _ _ => hs)
    ⟨⟨_, bO.alloc _, World.ownsRow_nil _ _ _ _, trivial⟩, hB0⟩
    (fun x => { tmps := #[.int .i64 s0, undef, .slice none 0 0, .pointer (some ⟨w.heap.size, 0, none⟩), .int .i64 x, .int .i64 s0, .func (.func 36) #[] #[.pointer (some ⟨w.heap.size + 1, 0, none⟩)], .int .i64 x, undef, undef, undef, undef, undef], defers := [] }) ?assign ?body ?done ?stop
  case assign =>
    intro l x W K hK
    gi_wp2
    exact hK
  case body =>
    rintro l pre x W ⟨⟨v, hv, hrow, -⟩, hB⟩ hlt
    have hc := hv.cell
    have hlt7 : pre.length < 7 := by omega
    have hml : 8 ≤ maxLen := by decide
    gi_wp2_with (gi_at_builtin; go_loud (refine wpListIn_append_own _ rfl _ _ 22 rfl w.heap.size 3 i0 (.int .i64 0) 1 8 Tryd.underlying22 hi hz0 hz1 hz2 rfl (by decide) _ _ _ rfl (hrow.alloc _) ⟨W.heap.size, 0, none⟩ 1 1 [.int .i64 x] rfl rfl (cell_one_new _ _ _) (by simp [Value.oneCell']) (by omega) (by omega) (by have := hB.size; simp; omega) ?_))
    intro v' w1 hown' hgrow _
    obtain ⟨g', cap', rfl⟩ := ownsRow_succ hown'
    obtain ⟨hv1, hv2, hr2, hk2, hb2⟩ := hv.appended (by decide) hrow hB.size (Nat.le_refl _) hown' hgrow
    have hc1 := hv1.cell
    have hf1 := hv1.frozen
    gi_wp2_with fail
    exact ⟨hk2.from _, hb2, ⟨_, hv2, by simpa [ints] using hr2, trivial⟩, hB.trans hb2⟩
  case done =>
    rintro D ys W hD rfl ⟨⟨v, hv, hrow, -⟩, hB⟩ hK
    have hc := hv.cell
    gi_wp2
    refine ⟨by simp, .inl ⟨_, _, rfl, run_takeDeferred hK, ?_⟩⟩
    exact ⟨_, results_tmp rfl _ _ _, _, rfl, ownsRow_putObj hrow _ hK rfl, hB.trans (belowK_b (w := w) (Nat.le_refl _) W D _ _ (by simp at hD; omega) hK rfl rfl)⟩
  case stop =>
    rintro D c pre W _ _ h _
    exact h.elim
end Go.Proofs.YtiamkjokiapanaaDoor
