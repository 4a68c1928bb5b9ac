/- Contracts over this program of what the walks call: appends to rows of ints, the library's Clone and Sort, watchmanref01.Same and Own. -/
import Derived.Test.YtpchbdpepgeibaaDoorK1
import Derived.Test.YtpchbdpepgeibaaDoorProg
import Derived.Test.YtpchbdpepgeibaaDoorShelf
import Derived.Deep.Upon
namespace Go.Proofs.YtpchbdpepgeibaaDoor
open Go.RowKit Go.Proofs.YtpchbdpepgeibaaDoorW.PrintWords

theorem info3 : (Tryd.prog.info? 3).map (fun i => (i.zero, i.size, i.bytes)) = some (some (.int .i64 0), 1, 8) := by kernel_rfl

/-- An append to a row of the call's own, of whatever reads as zs. -/
theorem append_ci (w : World) (base : Nat) (v : Value) (xs : List Int) (hown : w.ownsRow base 3 1 v xs.length (ints xs)) (A : Option Addr) (c : Nat) (zs : List Int) (hc : CI w A zs) (hl : xs.length + zs.length ≤ 100000) (hb : base ≤ w.heap.size) :
    ∃ v' w', (Builtin.append_ #[38, 38] 38 #[v, .slice A zs.length c]).run Tryd.prog w = .ok v' w' ∧ w'.ownsRow base 3 1 v' (xs ++ zs).length (ints (xs ++ zs)) ∧ w.grownBy w' v.ownBlock := by
  obtain ⟨i3, hi3, hz3, hs3, hb3⟩ := info_parts info3
  have hi' : ints (xs ++ zs) = ints xs ++ ints zs := by simp [ints]
  cases zs with
  | nil =>
    obtain ⟨A', n', c', rfl, hle⟩ : ∃ A' n' c', v = .slice A' n' c' ∧ n' ≤ c' := by
      rcases hown.2 with ⟨h, _⟩ | ⟨g, cap, cur, h, _, _, hn, _⟩
      · exact ⟨_, _, _, h, Nat.le_refl _⟩
      · exact ⟨_, _, _, h, hn⟩
    refine ⟨_, _, run_append_zero w 38 38 3 i3 Tryd.underlying38 hi3 A' n' c' hle A c, ?_, ⟨rfl, rfl, rfl, Nat.le_refl _, fun _ _ _ => rfl⟩⟩
    rw [List.append_nil]
    exact hown
  | cons z zs =>
    obtain ⟨b, off, rfl, hbs, h0⟩ := hc 0 (by simp)
    obtain ⟨v', w', h1, h2, h3, _⟩ := run_append_own_at (P := Tryd.prog) (w := w) base 38 38 3 i3 (.int .i64 0) 1 8 Tryd.underlying38 hi3 hz3 hs3 hb3 rfl (by decide) v xs.length (ints xs) hown
      ⟨b, off, none⟩ (z :: zs).length c (ints (z :: zs)) (by simp [ints]) (fun j u hj => by
        have hj' : j < (z :: zs).length := by have := (List.getElem?_eq_some_iff.1 hj).1; simpa [ints] using this
        obtain ⟨b', off', e, _, hcell⟩ := hc j hj'
        cases e
        rw [add_at, hcell]
        rw [← hj]
        simp only [ints, List.getElem?_map, List.getElem?_eq_getElem hj', List.getD, Option.map_some, Option.getD_some]) (fun u hu => by obtain ⟨x, _, rfl⟩ := List.mem_map.1 hu; rfl) (by unfold maxLen; omega) (by omega) hb
    refine ⟨v', w', h1, ?_, h3⟩
    rw [hi', List.length_append]
    exact h2

theorem sort_q (base g cap n : Nat) (zs : List Int) (w : World) (h : w.ownsRow base 3 1 (.slice (some ⟨g, 0, none⟩) n cap) n (ints zs)) (hn : n = zs.length) (hb : n ≤ 1000000) :
    Calls Tryd.prog 32 #[.slice (some ⟨g, 0, none⟩) n cap] w fun e w' => e = .returned (.tuple #[]) ∧ w'.ownsRow base 3 1 (.slice (some ⟨g, 0, none⟩) n cap) n (ints (zs.mergeSort fun x y => decide (x ≤ y))) ∧ w.grownBy w' (some g) := by
  subst hn
  rcases h.2 with ⟨e, _⟩ | ⟨g', cap', cur, e, hg, hh, hnc, hcm, hcs, ht⟩
  · cases e
  · cases e
    refine (Tryd.slices_Sort_int g 0 cap zs w (holds_of_blockI hh (by simpa [ints] using ht)) (lt_of_heap hh) (by omega)).mono ?_
    rintro e w' ⟨rfl, n, os, rfl⟩
    exact ⟨rfl, ownsRow_sortedI (by simp) hg hh hnc hcm hcs, grownBy_sortedI _⟩

set_option maxHeartbeats 400000 in
theorem same_any (A B : Option Addr) (c d : Nat) (xs ys : List Int) (w : World) (hl : xs.length * 8 ≤ 140737488355328) (hl2 : ys.length * 8 ≤ 140737488355328) (hx : CI w A xs) (hy : CI w B ys) :
    Calls Tryd.prog 22 #[.slice A xs.length c, .slice B ys.length d] w fun e w' => e = .returned (.bool (decide (xs = ys))) ∧ w.grownBy w' none := by
  by_cases hn : xs.length = ys.length
  · have HX := Lib.hid hx; clear hx
    have HY := Lib.hid hy; clear hy
    rw [← hn]
    obtain ⟨m, hm⟩ : ∃ m, m = xs.length := ⟨_, rfl⟩
    rw [← hm]
    have hl' : m ≤ 17592186044416 := by omega
    have HM := Lib.hid hm
    have HN := Lib.hid hn
    clear hm hn hl hl2
    go_enter Tryd.func22, Tryd.ntmps22
    go_wp2_with fail
    go_loopw [5] (fun i wr => ∃ k : Nat, k ≤ m ∧ i = .int .i64 k ∧ Hid (xs.take k = ys.take k) ∧ w.grownBy wr none) (fun i _ => m - (intOf i).toNat)
    case atStart => exact ⟨0, Nat.zero_le _, rfl, rfl, .refl _ _⟩
    case round =>
      obtain ⟨k, hk, rfl, HE, hg⟩ := hrel
      by_cases hlt : k < m
      · have hkx : k < xs.length := by rw [← HM.out]; exact hlt
        have hky : k < ys.length := by rw [← HN.out]; exact hkx
        obtain ⟨b, off, rfl, hbs, hcell⟩ := (HX.out.grow hg) k hkx
        obtain ⟨b2, off2, rfl, hbs2, hcell2⟩ := (HY.out.grow hg) k hky
        have tx := Lib.hid (take_succ xs k hkx)
        have ty := Lib.hid (take_succ ys k hky)
        generalize xs.getD k 0 = x at *
        generalize ys.getD k 0 = y at *
        clear hkx hky
        have hk0 : (0 : Int) ≤ (k : Int) := by omega
        have hkm : (k : Int) < (m : Int) := by omega
        by_cases he : x = y
        · have hb : (x == y) = true := by simp [he]
          have hb2 : (x != y) = false := by simp [he]
          have HE2 := Lib.hid he
          clear he
          go_wp2_with fail
          go_quiet (fail)
          go_wp2_with fail
          go_roundw
          case rel => exact ⟨k + 1, by omega, by go_num, by unfold Hid; rw [tx.out, ty.out, HE.out, HE2.out], grow_trans hg (grow_drewN _ _)⟩
          case measure => simp [intOf]; omega
        · have hb : (x == y) = false := by simp [he]
          have hb2 : (x != y) = true := by simp [he]
          have HE2 := Lib.hid he
          clear he
          go_wp2_with fail
          go_quiet (fail)
          go_wp2_with fail
          go_ret
          refine ⟨?_, grow_trans hg (grow_drewN _ _)⟩
          have : ¬ xs = ys := by
            intro e
            subst e
            have h1 := tx.out
            rw [ty.out] at h1
            exact HE2.out (by simpa using h1.symm)
          simp [this]
      · go_wp2_with fail
        go_ret
        have e1 : xs.take k = xs := List.take_of_length_le (by rw [← HM.out]; omega)
        have e2 : ys.take k = ys := List.take_of_length_le (by rw [← HN.out, ← HM.out]; omega)
        have : xs = ys := by rw [← e1, ← e2]; exact HE.out
        exact ⟨by simp [this], hg⟩
  · have hb : (xs.length == ys.length) = false := by simp [hn]
    have hb2 : (xs.length != ys.length) = true := by simp [hn]
    have HN := Lib.hid hn
    clear hn hl hl2 hx hy
    go_enter Tryd.func22, Tryd.ntmps22
    go_wp2_with fail
    go_ret
    have : ¬ xs = ys := fun e => HN.out (by rw [e])
    exact ⟨by simp [this], .refl _ _⟩


end Go.Proofs.YtpchbdpepgeibaaDoor
