/- slices.Grow, Concat, Clone at windows. -/
import Derived.Test.YtpchbdpepgeibaaO
namespace Go.Proofs.Ytpchbdpepgeibaa
open Go.RowKit Go.Shelf Go.Proofs Go.Proofs.YtpchbdpepgeibaaW.PrintWords Pturn

theorem grow_any (n : Nat) (w : World) (hn : n ≤ 1000000) :
    Calls Try.prog 37 #[.slice none 0 0, .int .i64 n] w fun e w' => ∃ v, e = .returned v ∧ RW w' w.heap.size v [] ∧ Below w.heap.size w w' := by
  by_cases h0 : n = 0
  · subst h0
    exact (Any8.slices_Grow_room Try.growW none 0 0 0 w (Nat.le_refl _) (by omega) (by omega) (by omega)).mono fun e w' ⟨he, hw⟩ => ⟨_, he, RW.nil _ _, by rw [hw]; exact .refl _ _⟩
  · obtain ⟨i0, hi, hz0, hz1, hz2⟩ := info_parts info32
    have hcon := Any8.slices_Grow_grow Try.growW i0 (.agg #[.int .i64 0, .int .i64 0, .int .i64 0]) hi hz0 (by rw [hz1]; omega) none 0 0 n [] w (Nat.le_refl _) (by omega) (by rw [hz2]; omega) (by omega) (by simp) (fun _ => rfl) (fun a h => by cases h)
    refine hcon.mono ?_
    rintro e w' ⟨rfl, rfl⟩
    refine ⟨_, rfl, ?_, ((Below.refl _ _).drew).alloc (Nat.le_refl _) _⟩
    have h1 := grownCap_ge w (0 + n) 0 32
    have h2 := grownCap_le_maxLen w (0 + n) 0 32 (by unfold maxLen; omega)
    refine ⟨rfl, .inr ⟨w.heap.size, _, _, rfl, Nat.le_refl _, heap_alloc_new w.drew _, Nat.zero_le _, h2, ?_, by simp [wcs]⟩⟩
    have h3 : (Value.agg #[.int .i64 0, .int .i64 0, .int .i64 0]).cells.size = 3 := rfl
    show (([] : List Value).toArray ++ Builtin.zeroCells _ _ ++ Builtin.zeroCells _ _).size = _
    rw [Array.size_append, Array.size_append, size_zeroCells, size_zeroCells, h3]
    show 0 + (0 + n - 0) * 3 + (grownCap w (0 + n) 0 32 - (0 + n)) * 3 = grownCap w (0 + n) 0 32 * 3
    omega

set_option maxHeartbeats 4000000 in
theorem concat_any (B : Nat) (A1 A2 : Option Addr) (c1 c2 : Nat) (l m : List S32) (w : World) (hB : B < w.heap.size) (h1 : w.cell? ⟨B, 0, none⟩ = some (.slice A1 l.length c1)) (h2 : w.cell? ⟨B, 1, none⟩ = some (.slice A2 m.length c2))
    (hl : l.length ≤ 10000) (hm : m.length ≤ 10000) (hC1 : CW w A1 l) (hC2 : CW w A2 m) :
    Calls Try.prog 23 #[.slice (some ⟨B, 0, none⟩) 2 2] w fun e w' => ∃ v, e = .returned v ∧ RW w' w.heap.size v (l ++ m) ∧ Below w.heap.size w w' := by
  have HG := Lib.hid (fun n W (h : n ≤ 1000000) => grow_any n W h)
  have HC := Lib.hid (show ∀ W, Below w.heap.size w W → W.cell? ⟨B, 0, none⟩ = some (.slice A1 l.length c1) ∧ W.cell? ⟨B, 1, none⟩ = some (.slice A2 m.length c2) from fun W hb => ⟨(hb.cell (p := ⟨B, 0, none⟩) hB).trans h1, (hb.cell (p := ⟨B, 1, none⟩) hB).trans h2⟩)
  have HA1 := Lib.hid (fun W v (hb : Below w.heap.size w W) (h : RW W w.heap.size v []) => append_cw W w.heap.size v [] h A1 c1 l (hC1.grow (grow_of_below hb)) (by simp; omega) hb.size)
  have HA2 := Lib.hid (fun W v (hb : Below w.heap.size w W) (h : RW W w.heap.size v l) => append_cw W w.heap.size v l h A2 c2 m (hC2.grow (grow_of_below hb)) (by omega) hb.size)
  obtain ⟨a, ha⟩ : ∃ a, a = l.length := ⟨_, rfl⟩
  obtain ⟨b, hb⟩ : ∃ b, b = m.length := ⟨_, rfl⟩
  rw [← ha] at h1 hl HC HA1
  rw [← hb] at h2 hm HC HA2
  clear ha hb hC1 hC2
  go_enter Try.func23, Try.ntmps23
  go_wp2_with fail
  go_loop [3, 5, 11] (fun n _ i => (i = .int .i64 0 ∧ n = .int .i64 0) ∨ (i = .int .i64 1 ∧ n = .int .i64 a) ∨ (i = .int .i64 2 ∧ n = .int .i64 ((a + b : Nat) : Int))) (fun _ _ i => (2 - intOf i).toNat)
  case atStart => exact .inl ⟨rfl, rfl⟩
  case round =>
    rcases hrel with ⟨rfl, rfl⟩ | ⟨rfl, rfl⟩ | ⟨rfl, rfl⟩
    · go_wp2_with fail
      go_round
      case rel => exact .inr (.inl ⟨rfl, by go_num⟩)
      case measure => decide
    · go_wp2_with fail
      go_round
      case rel => exact .inr (.inr ⟨rfl, by go_num⟩)
      case measure => decide
    · clear h1 h2
      have hab : a + b ≤ 1000000 := by omega
      go_wp2_with fail
      refine (HG.out (a + b) w hab).mono ?_
      rintro e w1 ⟨v, rfl, hr, hb1⟩
      obtain ⟨x1, x2⟩ := HC.out w1 hb1
      have HR := Lib.hid hr
      have HB1 := Lib.hid hb1
      clear hr hb1 x1 x2
      go_wp2_with fail
      go_loopw [6, 8, 27] (fun v _ i wr => ((i = .int .i64 0 ∧ RW wr w.heap.size v []) ∨ (i = .int .i64 1 ∧ RW wr w.heap.size v l) ∨ (i = .int .i64 2 ∧ RW wr w.heap.size v (l ++ m))) ∧ Below w.heap.size w wr) (fun _ _ i _ => (2 - intOf i).toNat)
      case atStart => exact ⟨.inl ⟨rfl, HR.out⟩, HB1.out⟩
      case round =>
        obtain ⟨⟨rfl, hr⟩ | ⟨rfl, hr⟩ | ⟨rfl, hr⟩, hb⟩ := hrel
        · obtain ⟨x1, x2⟩ := HC.out wr hb
          obtain ⟨v', w2, hrun, hr2, hg2⟩ := HA1.out wr _ hb hr
          have hb2 := hb.grown hg2 hb.size (fun k hk => own_base hr k hk)
          have HF := Lib.hid (And.intro hr2 hb2)
          clear hr2 hg2 hb2 hr x2
          go_wp2_with (refine wpList_append_run (d := some 33) _ _ (by rfl) (by rfl) hrun ?_)
          go_roundw
          case rel => exact ⟨.inr (.inl ⟨rfl, HF.out.1⟩), HF.out.2⟩
          case measure => decide
        · obtain ⟨x1, x2⟩ := HC.out wr hb
          obtain ⟨v', w2, hrun, hr2, hg2⟩ := HA2.out wr _ hb hr
          have hb2 := hb.grown hg2 hb.size (fun k hk => own_base hr k hk)
          have HF := Lib.hid (And.intro hr2 hb2)
          clear hr2 hg2 hb2 hr x1
          go_wp2_with (refine wpList_append_run (d := some 33) _ _ (by rfl) (by rfl) hrun ?_)
          go_roundw
          case rel => exact ⟨.inr (.inr ⟨rfl, HF.out.1⟩), HF.out.2⟩
          case measure => decide
        · have HF := Lib.hid (And.intro hr hb)
          clear hr hb
          go_wp2_with fail
          go_ret
          exact ⟨_, rfl, HF.out.1, HF.out.2⟩

theorem clone_any (A : Option Addr) (c : Nat) (l : List S32) (w : World) (h : CW w A l) (hl : l.length ≤ 10000) :
    Calls Try.prog 25 #[.slice A l.length c] w fun e w' => ∃ v, e = .returned v ∧ RW w' w.heap.size v l ∧ Below w.heap.size w w' := by
  cases A with
  | none =>
    have h0 : l.length = 0 := by
      rcases Nat.eq_zero_or_pos l.length with h0 | h0
      · exact h0
      · obtain ⟨b, off, e, _⟩ := h.has1 h0; cases e
    have : l = [] := List.eq_nil_of_length_eq_zero h0
    subst this
    clear h
    have hq : ∀ W : World, (binOp .eql 22 (.slice none 0 c) (.slice none 0 0)).run Try.prog W = .ok (.bool true) W := fun W => Lib.run_eql_slice_nil W 22 32 none 0 c 0 0 Try.underlying22
    rw [List.length_nil]
    go_enter Try.func25, Try.ntmps25
    go_wp2_with fail
    go_ret
    exact ⟨_, rfl, RW.nil _ _, .refl _ _⟩
  | some ad =>
    have HA := Lib.hid (fun (W : World) (v : Value) (g : w.grownBy W none) (hr : RW W w.heap.size v []) => append_cw W w.heap.size v [] hr (some ad) c l (h.grow g) (by simp; omega) g.size)
    have hr0 : RW (w.alloc (.cells #[] 32)) w.heap.size (.slice (some ⟨w.heap.size, 0, none⟩) 0 0) [] := World.ownsRow_lit (base := w.heap.size) (e := 32) (size := 3) w #[] 0 (Nat.le_refl _) (by decide) rfl
    obtain ⟨v', w2, hrun, hr2, hg2⟩ := HA.out _ _ (grow_alloc w _) hr0
    have hb2 := ((Below.refl _ w).alloc (Nat.le_refl _) (.cells #[] 32)).grown hg2 (by simp) (fun k hk => own_base hr0 k hk)
    have HF := Lib.hid (And.intro hr2 hb2)
    obtain ⟨m, hm⟩ : ∃ m, m = l.length := ⟨_, rfl⟩
    rw [← hm] at hrun ⊢
    clear hm h HA hr0 hr2 hg2 hb2
    have hq : ∀ W : World, (binOp .eql 22 (.slice (some ad) m c) (.slice none 0 0)).run Try.prog W = .ok (.bool false) W := fun W => Lib.run_eql_slice_nil W 22 32 (some ad) m c 0 0 Try.underlying22
    go_enter Try.func25, Try.ntmps25
    go_wp2_with (refine wpList_append_run (d := some 7) _ _ (by rfl) (by rfl) hrun ?_)
    go_ret
    exact ⟨_, rfl, HF.out.1, HF.out.2⟩
end Go.Proofs.Ytpchbdpepgeibaa
