/- slices.Values, Collect at windows: the range over a function. -/
import Derived.RangeFuncBox
import Derived.RangeFuncNested
import Derived.RangeFuncBound
import Derived.RangeFuncCalls
import Derived.RangeFuncLeaves
import Derived.Shelf.Abstract
import Derived.Shelf.RegionOpen
import Derived.OwnWalkIn
import Derived.TacticsInMore
import Derived.LoopNIn
import Derived.LoopIn
import Derived.Test.YtpchbdpepgeibaaM
namespace Go.Proofs.Ytpchbdpepgeibaa
open Go.RowKit Go.Shelf Go.Proofs Go.Proofs.YtpchbdpepgeibaaW.PrintWords Pturn
attribute [local go_sem] Oper.semAt_some

set_option maxRecDepth 100000 in
set_option maxHeartbeats 2000000 in
theorem values1_in (n : Nat) (hn : 2 ≤ n) (lo Bn n₀ : Nat) (A : Option Addr) (c : Nat) (l : List S32) (hl : l.length ≤ 100000) (J Jx : List S32 → World → Prop)
    (hY : ∀ pre x W, J pre W → pre.length < l.length → YieldAt Fence.wide (n - 1) Try.prog lo #[.agg (wc x).toArray] W fun e W' =>
      (e = .returned (.bool true) ∧ J (pre ++ [x]) W' ∧ Below n₀ W W') ∨ (e = .returned (.bool false) ∧ Jx (pre ++ [x]) W'))
    (W : World) (hJ : AbidesFrom W.heap.size J) (hn₀ : n₀ ≤ W.heap.size) (hBn : W.cell? ⟨Bn, 0, none⟩ = some (.slice A l.length c)) (hA : 0 < l.length → ∀ b off, A = some ⟨b, off, none⟩ → b < n₀) (hC : CW W A l) (h0 : J [] W) :
    CallsIn Fence.wide n Try.prog 44 #[.func (.yield lo) #[] #[], .pointer (some ⟨Bn, 0, none⟩)] W fun e W' => (∃ v, e = .returned v) ∧
      ((∃ ys, ys = l ∧ J ys W') ∨ (∃ pre, pre <+: l ∧ Jx pre W')) := by
  have HC := Lib.hid (show ∀ W', Below n₀ W W' → ∀ k, k < l.length → ∃ b off, A = some ⟨b, off, none⟩ ∧ b < W'.heap.size ∧
      W'.cell? ⟨b, off + k * 3, none⟩ = some (.int .i64 (l.getD k z32).f0) ∧ W'.cell? ⟨b, off + k * 3 + 1, none⟩ = some (.int .i64 (l.getD k z32).f1) ∧ W'.cell? ⟨b, off + k * 3 + 2, none⟩ = some (.int .i64 (l.getD k z32).f2) from
    fun W' hb k hk => by
      obtain ⟨b, off, rfl, hbs, a0, a1, a2⟩ := hC k hk
      have hbn := hA (by omega) b off rfl
      exact ⟨b, off, rfl, Nat.lt_of_lt_of_le hbs hb.size, (hb.cell (p := ⟨b, _, none⟩) hbn).trans a0, (hb.cell (p := ⟨b, _, none⟩) hbn).trans a1, (hb.cell (p := ⟨b, _, none⟩) hbn).trans a2⟩)
  have HT := Lib.hid (show ∀ k, k < l.length → l.take (k + 1) = l.take k ++ [l.getD k z32] from fun k hk => by rw [List.take_succ_eq_append_getElem hk, getD_eq l z32 k hk])
  have HF := Lib.hid (show l.take l.length = l from List.take_length)
  have HP := Lib.hid (show ∀ k, l.take k <+: l from fun k => List.take_prefix k l)
  have HY := Lib.hid (show ∀ k W, k < l.length → J (l.take k) W → YieldAt Fence.wide (n - 1) Try.prog lo #[.agg (wc (l.getD k z32)).toArray] W fun e W' =>
      (e = .returned (.bool true) ∧ J (l.take (k + 1)) W' ∧ Below n₀ W W') ∨ (e = .returned (.bool false) ∧ Jx (l.take (k + 1)) W') from fun k W hk hj => by
    have := hY (l.take k) (l.getD k z32) W hj (by rw [List.length_take]; omega)
    rw [← HT.out k hk] at this
    exact this)
  have h0' : J (l.take 0) W := by simpa using h0
  obtain ⟨m, hm⟩ : ∃ m, m = l.length := ⟨_, rfl⟩
  rw [← hm] at HC HT HF HY hl hBn
  clear hm hY hC hA h0
  refine callsIn_of_wp Try.func44 rfl trivial ?_ rfl
  simp only [Try.ntmps44, List.size_toArray, List.length_cons, List.length_nil, Nat.reduceAdd, Nat.reduceSub, Array.replicate_succ, Array.replicate_zero, List.push_toArray, List.append_toArray, List.nil_append, List.cons_append]
  gi_wp2_with fail
  gi_loopw [7] (fun v wr => ∃ k : Nat, k ≤ m ∧ v = .int .i64 k ∧ J (l.take k) wr ∧ Below n₀ W wr) (fun v _ => m - (intOf v).toNat)
  case atStart => exact ⟨0, by omega, rfl, h0', Below.refl _ _⟩
  case round =>
    obtain ⟨k, hk, rfl, hJs, hb⟩ := hrel
    by_cases hlt : k < m
    · obtain ⟨b, off, rfl, hbs, a0, a1, a2⟩ := HC.out wr hb k hlt
      have hY2 := HY.out k
      have hTk := HP.out (k + 1)
      have HJa := Lib.hid (show ∀ o, J (l.take k) (wr.alloc o) from fun o => hJ _ wr _ none hJs (grow_alloc wr o) (fun r e => by cases e))
      generalize l.getD k z32 = z at *
      obtain ⟨z0, z1, z2⟩ := z
      dsimp only at a0 a1 a2
      obtain ⟨fn, tmps, assign, body, hy, hRR⟩ := hY2 (wr.alloc (.cells #[.int .i64 z0, .int .i64 z1, .int .i64 z2] 32)) hlt (HJa.out _)
      have hy' : (Instr.yield lo #[.agg #[.int .i64 z0, .int .i64 z1, .int .i64 z2]]).run Try.prog (wr.alloc (.cells #[.int .i64 z0, .int .i64 z1, .int .i64 z2] 32)) = .ok (.round lo fn tmps assign body) (wr.alloc (.cells #[.int .i64 z0, .int .i64 z1, .int .i64 z2] 32)) := hy
      have hk0 : (0 : Int) ≤ (k : Int) := by omega
      have hkm : (k : Int) < (m : Int) := by omega
      have hbA := Lib.hid (hb.alloc (by have := hb.size; omega) (.cells #[.int .i64 z0, .int .i64 z1, .int .i64 z2] 32))
      clear hy hY2 HC HT HY hJs
      gi_wp2_with fail
      refine ⟨(fun _ => by omega), hRR.mono ?_⟩
      rintro e W3 (⟨rfl, hJ3, hk3⟩ | ⟨rfl, hJx3⟩)
      · have hb3 := Lib.hid (hbA.out.trans hk3)
        gi_wp2_with fail
        go_roundw
        case rel => exact ⟨k + 1, by omega, by go_num, hJ3, hb3.out⟩
        case measure => simp [intOf]; omega
      · gi_wp2_with fail
        refine bodyPost_ret (results_none rfl _ _ _) rfl ?_
        exact ⟨⟨_, rfl⟩, .inr ⟨_, hTk, hJx3⟩⟩
    · have e : k = m := by omega
      subst e
      rw [HF.out] at hJs
      gi_wp2
      go_end0
      exact ⟨⟨_, rfl⟩, .inl ⟨_, rfl, hJs⟩⟩
theorem values_in (n : Nat) (A : Option Addr) (m c : Nat) (w : World) :
    CallsIn Fence.wide n Try.prog 33 #[.slice A m c] w fun e w' => e = .returned (.func (.func 44) #[] #[.pointer (some ⟨w.heap.size, 0, none⟩)]) ∧ w' = w.alloc (.cells #[.slice A m c] 22) := by
  refine callsIn_of_wp Try.func33 rfl trivial ?_ rfl
  simp only [Try.ntmps33, List.size_toArray, List.length_cons, List.length_nil, Nat.reduceAdd, Nat.reduceSub, Array.replicate_succ, Array.replicate_zero, List.push_toArray, List.append_toArray, List.nil_append, List.cons_append]
  gi_wp2
  go_ret
  exact ⟨rfl, rfl⟩
theorem values_stops (n : Nat) (hn : 2 ≤ n) (Bn n₀ : Nat) (A : Option Addr) (c : Nat) (l : List S32) (hl : l.length ≤ 100000) (w : World) (hBn : Bn < w.heap.size) (hn₀ : n₀ ≤ w.heap.size)
    (hc : w.cell? ⟨Bn, 0, none⟩ = some (.slice A l.length c)) (hA : 0 < l.length → ∀ b off, A = some ⟨b, off, none⟩ → b < n₀) (hC : CW w A l) :
    SeqStopsK Fence.wide n Try.prog 44 #[.pointer (some ⟨Bn, 0, none⟩)] (fun x : S32 => #[.agg (wc x).toArray]) (Below n₀) (fun ys => ys = l) (fun pre => pre <+: l) l.length w := fun lo J Jx W hW hJ _ hY h0 =>
  values1_in n hn lo Bn n₀ A c l hl J Jx hY W hJ (Nat.le_trans hn₀ hW.size) ((hW.cell (p := ⟨Bn, 0, none⟩) hBn).trans hc) hA (hC.grow (grow_of_below hW)) h0

set_option maxRecDepth 100000 in
set_option maxHeartbeats 4000000 in
theorem appendSeq_in (n : Nat) (hn : 3 ≤ n) (Bn : Nat) (A : Option Addr) (c : Nat) (l : List S32) (hl : l.length ≤ 100000) (w : World) (hBn : Bn < w.heap.size)
    (hc : w.cell? ⟨Bn, 0, none⟩ = some (.slice A l.length c)) (hC : CW w A l) (hA : 0 < l.length → ∀ b off, A = some ⟨b, off, none⟩ → b < w.heap.size) :
    CallsIn Fence.wide n Try.prog 47 #[.slice none 0 0, .func (.func 44) #[] #[.pointer (some ⟨Bn, 0, none⟩)]] w fun e w' => ∃ v, e = .returned v ∧ w'.ownsRow w.heap.size 32 3 v l.length (wcs l) ∧ Below w.heap.size w w' := by
  obtain ⟨i0, hi, hz0, hz1, hz2⟩ := info_parts info32
  refine callsIn_of_wp_marks Try.func47 rfl trivial ?_ rfl
  simp only [Try.ntmps47, List.size_toArray, List.length_cons, List.length_nil, Nat.reduceAdd, Nat.reduceSub, Array.replicate_succ, Array.replicate_zero, List.push_toArray, List.append_toArray, List.nil_append, List.cons_append]
  gi_wp2_with fail
  have bO := Boxed.new w 22 (.slice none 0 0)
  have hB0 : Below w.heap.size w (w.alloc (.cells #[.slice none 0 0] 22)) := (Below.refl _ w).alloc (Nat.le_refl _) _
  have hO : OwnFrom (w.alloc (.cells #[.slice none 0 0] 22)).heap.size (fun (pre : List S32) W => (∃ v, Boxed W w.heap.size 22 v ∧ W.ownsRow w.heap.size 32 3 v pre.length (wcs pre) ∧ True) ∧ Below w.heap.size w W) :=
    OwnFrom.and (Own.from (holdsRow_own w.heap.size w.heap.size 22 32 3 (fun (pre : List S32) => pre.length) (fun pre => wcs pre) (fun _ _ => True)) _) (ownFrom_below (Nat.le_refl _) (by simp))
  refine wpIn_rangeFunc_ownH rfl (by omega) (gf := 44) (lb := #[.pointer (some ⟨Bn, 0, none⟩)]) rfl trivial (enters_of Try.func44 (by kernel_rfl) rfl)
    (values_stops (n - 1) (by omega) Bn w.heap.size A c l hl w hBn (Nat.le_refl _) hc hA hC) belowK_t (belowK_b (by simp)) hB0 (fun _ => rfl)
    (fun pre W => (∃ v, Boxed W w.heap.size 22 v ∧ W.ownsRow w.heap.size 32 3 v pre.length (wcs pre) ∧ True) ∧ Below w.heap.size w W)
    (fun _ _ _ => False)
    hO
    (fun _ _ _ _ _ hs _ _ => hs)
    ⟨⟨_, bO, World.ownsRow_nil _ _ _ _, trivial⟩, hB0⟩
    (fun x a' W => ∃ B, a' = { tmps := #[.slice none 0 0, .func (.func 44) #[] #[.pointer (some ⟨Bn, 0, none⟩)], .pointer (some ⟨w.heap.size, 0, none⟩), undef, .slice none 0 0, .pointer (some ⟨B, 0, none⟩), .func (.func 44) #[] #[.pointer (some ⟨Bn, 0, none⟩)], .agg (wc x).toArray, undef, undef, undef, undef, undef], defers := [] } ∧ W.heap[B]? = some (.cells (wc x).toArray 32 (0, 0)))
    ?hAx ?assign ?body ?done ?stop
  case hAx =>
    rintro x a' _ W W' row ⟨B, ha, hB⟩ hg hr
    refine ⟨B, ha, (hg.block B (Array.getElem?_eq_some_iff.1 hB).1 (fun e => ?_)).trans hB⟩
    obtain ⟨_, o, ho, hcl⟩ := hr B e.symm
    rw [hB] at ho
    cases ho
    cases hcl
  case assign =>
    intro lo pre x W K hI hK
    have hK' : ∀ W', KeepsFrom (w.alloc (.cells #[.slice none 0 0] 22)).heap.size W W' → _ := fun W' => hK { tmps := #[.slice none 0 0, .func (.func 44) #[] #[.pointer (some ⟨Bn, 0, none⟩)], .pointer (some ⟨w.heap.size, 0, none⟩), undef, .slice none 0 0, .pointer (some ⟨W.heap.size, 0, none⟩), .func (.func 44) #[] #[.pointer (some ⟨Bn, 0, none⟩)], .agg (wc x).toArray, undef, undef, undef, undef, undef], defers := [] } W'
    have hfin := hK' (W.alloc (.cells (wc x).toArray 32)) ((KeepsOthers.alloc _ _).from _) ((Below.refl _ W).alloc hI.2.size _) (hO.alloc _ hI) ⟨_, rfl, heap_alloc_new _ _⟩
    clear hK hK' hI
    obtain ⟨x0, x1, x2⟩ := x
    simp only [wc] at hfin ⊢
    gi_wp2
    exact hfin
  case body =>
    rintro lo pre x a' W _ _ ⟨⟨v, hv, hrow, -⟩, hB⟩ ⟨B, rfl, hBx⟩ hlt
    have hcv := hv.cell
    have hc0 : W.cell? ⟨B, 0, none⟩ = some (.int .i64 x.f0) := cell_of_row W B 0 _ 32 (0, 0) hBx
    have hc1 : W.cell? ⟨B, 1, none⟩ = some (.int .i64 x.f1) := cell_of_row W B 1 _ 32 (0, 0) hBx
    have hc2 : W.cell? ⟨B, 2, none⟩ = some (.int .i64 x.f2) := cell_of_row W B 2 _ 32 (0, 0) hBx
    have hpl : pre.length ≤ 100000 := by omega
    have hml : 1000000 ≤ maxLen := by decide
    obtain ⟨x0, x1, x2⟩ := x
    dsimp only at hc0 hc1 hc2
    have HBx := Lib.hid hBx
    clear hBx
    gi_wp2_with (gi_at_builtin; go_loud (refine wpListIn_append_own _ rfl _ _ 22 rfl w.heap.size 32 i0 (.agg #[.int .i64 0, .int .i64 0, .int .i64 0]) 3 24 Try.underlying22 hi hz0 hz1 hz2 rfl (by decide) _ _ _ rfl (hrow.alloc _) ⟨W.heap.size, 0, none⟩ 1 1 [.int .i64 x0, .int .i64 x1, .int .i64 x2] rfl rfl (fun j u hu => by rw [add_at]; exact (cw_new W ⟨x0, x1, x2⟩).cells j u hu) (by simp [Value.oneCell']) (by omega) (by omega) (by have := hB.size; simp; omega) ?_))
    intro v' w1 hown' hgrow _
    obtain ⟨g', cap', rfl⟩ := ownsRow_succ hown'
    obtain ⟨hv1, hv2, hr2, hk2, hb2⟩ := hv.appended (by decide) hrow hB.size (Nat.le_refl _) hown' hgrow
    have hc1 := hv1.cell
    have hf1 := hv1.frozen
    gi_wp2_with fail
    exact ⟨hk2.from _, hb2, ⟨_, hv2, by rw [wcs_append, wcs_one, List.length_append]; exact hr2, trivial⟩, hB.trans hb2⟩
  case done =>
    rintro D ys W hD rfl ⟨⟨v, hv, hrow, -⟩, hB⟩ hK
    have hc := hv.cell
    gi_wp2
    refine ⟨by simp, .inl ⟨_, _, rfl, run_takeDeferred hK, ?_⟩⟩
    exact ⟨_, results_tmp rfl _ _ _, _, rfl, ownsRow_putObj hrow _ hK rfl, hB.trans (belowK_b (w := w) (Nat.le_refl _) W D _ _ (by simp at hD; omega) hK rfl rfl)⟩
  case stop =>
    rintro D c pre W _ _ h _
    exact h.elim
theorem collect_in (n : Nat) (hn : 4 ≤ n) (Bn : Nat) (A : Option Addr) (c : Nat) (l : List S32) (hl : l.length ≤ 100000) (w : World) (hBn : Bn < w.heap.size)
    (hc : w.cell? ⟨Bn, 0, none⟩ = some (.slice A l.length c)) (hC : CW w A l) (hA : 0 < l.length → ∀ b off, A = some ⟨b, off, none⟩ → b < w.heap.size) :
    CallsIn Fence.wide n Try.prog 42 #[.func (.func 44) #[] #[.pointer (some ⟨Bn, 0, none⟩)]] w fun e w' => ∃ v, e = .returned v ∧ RW w' w.heap.size v l ∧ Below w.heap.size w w' := by
  have H := Lib.hid (appendSeq_in (n - 1) (by omega) Bn A c l hl w hBn hc hC hA)
  clear hc hC hA
  refine callsIn_of_wp Try.func42 rfl trivial ?_ rfl
  simp only [Try.ntmps42, List.size_toArray, List.length_cons, List.length_nil, Nat.reduceAdd, Nat.reduceSub, Array.replicate_succ, Array.replicate_zero, List.push_toArray, List.append_toArray, List.nil_append, List.cons_append]
  gi_wp2_with fail
  refine ⟨trivial, (fun _ => by omega), H.out.mono ?_⟩
  rintro e w' ⟨v, rfl, hrow, hb⟩
  gi_wp2_with fail
  go_ret
  exact ⟨v, rfl, hrow, hb⟩
end Go.Proofs.Ytpchbdpepgeibaa
