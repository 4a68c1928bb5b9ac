/- Contracts of mute.Total, told. -/
import Derived.Test.YtpchbdpepgeibaaL
namespace Go.Proofs.Ytpchbdpepgeibaa
open Go.RowKit Go.Proofs.YtpchbdpepgeibaaW.PrintWords Pturn

theorem ret_int {k : IntKind} {a b : Int} (h : a = b) : Ending.returned (.int k a) = .returned (.int k b) := by rw [h]
def totS (b : Int) (n : Int) (w : S32) : Int := if w.f0 = b then n + (w.f2 - w.f1) else n
def totF (l : List S32) (b : Int) : Int := l.foldl (totS b) 0
def totV (l : List S32) (b : Int) : Int := if isB l then totF l b else 0
theorem tot_take (l : List S32) (b : Int) (k : Nat) (h : k < l.length) : totF (l.take (k + 1)) b = totS b (totF (l.take k) b) (l.getD k z32) := by
  unfold totF
  rw [List.take_succ_eq_append_getElem h, List.foldl_append, ← getD_eq l z32 k h]
  rfl
theorem tot_bound (l : List S32) (b : Int) (hm : ∀ w ∈ l, mayB w = true) : ∀ k, k ≤ l.length → 0 ≤ totF (l.take k) b ∧ totF (l.take k) b ≤ 1000000000 * k
  | 0, _ => by simp [totF]
  | k + 1, h => by
    have ih := tot_bound l b hm k (by omega)
    rw [tot_take l b k h]
    have := may_spec (hm (l.getD k z32) (by rw [getD_eq l z32 k h]; exact List.getElem_mem _))
    unfold totS
    split <;> omega

theorem total_bad (A : Option Addr) (c : Nat) (l : List S32) (b : Int) (w : World) (h : CW w A l) (hl : l.length ≤ 100000) (hi : isB l = false) :
    Calls Try.prog 18 #[.slice A l.length c, .int .i64 b] w fun e w' => e = .returned (.int .i64 (totV l b)) ∧ Below w.heap.size w w' := by
  have HI := Lib.hid (is_any A c l w h hl)
  have HV := Lib.hid (show 0 = totV l b by unfold totV; rw [hi]; rfl)
  rw [hi] at HI
  generalize totV l b = V at *
  generalize l.length = m at *
  clear h hi
  go_enter Try.func18, Try.ntmps18
  go_wp2_with fail
  refine HI.out.mono ?_
  rintro e w1 ⟨rfl, hb⟩
  go_wp2_with fail
  go_ret
  exact ⟨ret_int HV.out, hb⟩
set_option maxHeartbeats 2000000 in
theorem total_good (A : Option Addr) (c : Nat) (l : List S32) (b : Int) (w : World) (h : CW w A l) (hl : l.length ≤ 100000) (hi : isB l = true) :
    Calls Try.prog 18 #[.slice A l.length c, .int .i64 b] w fun e w' => e = .returned (.int .i64 (totV l b)) ∧ Below w.heap.size w w' := by
  obtain ⟨_, hm, h100⟩ := is_spec hi
  have HI := Lib.hid (is_any A c l w h hl)
  have HV := Lib.hid (show totF (l.take l.length) b = totV l b by unfold totV; rw [hi, List.take_length]; rfl)
  have HB := Lib.hid (tot_bound l b hm)
  have HT := Lib.hid (tot_take l b)
  have HM := Lib.hid (fun k (hk : k < l.length) => may_spec (hm (l.getD k z32) (by rw [getD_eq l z32 k hk]; exact List.getElem_mem _)))
  have HC := Lib.hid (fun W (g : w.grownBy W none) k hk => (h.grow g) k hk)
  rw [hi] at HI
  generalize totV l b = V at *
  obtain ⟨m, hm⟩ : ∃ m, m = l.length := ⟨_, rfl⟩
  rw [← hm] at HI HV HB HT HM HC hl h100 ⊢
  clear h hi hm
  go_enter Try.func18, Try.ntmps18
  go_wp2_with fail
  refine HI.out.mono ?_
  rintro e w1 ⟨rfl, hb1⟩
  have HB1 := Lib.hid hb1
  clear hb1
  go_wp2_with fail
  go_loopw [5, 13] (fun n i wr => ∃ k : Nat, k ≤ m ∧ i = .int .i64 k ∧ n = .int .i64 (totF (l.take k) b) ∧ Below w.heap.size w wr) (fun _ i _ => m - (intOf i).toNat)
  case atStart => exact ⟨0, by omega, rfl, rfl, HB1.out⟩
  case round =>
    obtain ⟨k, hk, rfl, rfl, hb⟩ := hrel
    by_cases hlt : k < m
    · obtain ⟨bb, off, rfl, hbs, a0, a1, a2⟩ := HC.out wr ⟨hb.os, hb.tape, hb.output, hb.size, fun i hi _ => hb.block i hi⟩ k hlt
      have HTk := Lib.hid (HT.out k hlt)
      obtain ⟨t1, t2⟩ := HB.out k hk
      have hmx := HM.out k hlt
      have hk0 : (0 : Int) ≤ (k : Int) := by omega
      have hkm : (k : Int) < (m : Int) := by omega
      have hB := Lib.hid hb
      clear hb
      generalize totF (l.take k) b = n at *
      generalize l.getD k z32 = z at *
      obtain ⟨z0, z1, z2⟩ := z
      dsimp only at a0 a1 a2 hmx
      obtain ⟨m0, m1, m2, m3, m4⟩ := hmx
      clear HC HT HB HM HV
      cases hz : (z0 == b)
      · have hne : z0 ≠ b := by simpa using hz
        have HF := Lib.hid (show totF (l.take (k + 1)) b = n by rw [HTk.out]; unfold totS; rw [if_neg hne])
        clear HTk hne
        go_wp2_with fail
        go_roundw
        case rel => exact ⟨k + 1, by omega, by go_num, by rw [HF.out], below_alloc hB.out _⟩
        case measure => simp [intOf]; omega
      · have hne : z0 = b := by simpa using hz
        have HF := Lib.hid (show totF (l.take (k + 1)) b = n + (z2 - z1) by rw [HTk.out]; unfold totS; rw [if_pos hne])
        clear HTk hne
        go_wp2_with fail
        go_roundw
        case rel => exact ⟨k + 1, by omega, by go_num, by rw [HF.out], below_alloc hB.out _⟩
        case measure => simp [intOf]; omega
    · have e : k = m := by omega
      subst e
      go_wp2_with fail
      go_ret
      exact ⟨ret_int HV.out, hb⟩
theorem total_any (A : Option Addr) (c : Nat) (l : List S32) (b : Int) (w : World) (h : CW w A l) (hl : l.length ≤ 100000) :
    Calls Try.prog 18 #[.slice A l.length c, .int .i64 b] w fun e w' => e = .returned (.int .i64 (totV l b)) ∧ Below w.heap.size w w' := by
  cases hi : isB l
  · exact total_bad A c l b w h hl hi
  · exact total_good A c l b w h hl hi
theorem told_full (A : Option Addr) (n c : Nat) (w : World) (hn : 100 < n) (hl : n ≤ 100000) :
    Calls Try.prog 21 #[.slice A n c] w fun e w' => e = .returned (.tuple #[.slice none 0 0, .int .i64 81]) ∧ w = w' := by
  go_enter Try.func21, Try.ntmps21
  go_wp2_with fail
  go_ret2
  exact ⟨rfl, rfl⟩
theorem told_fits (A : Option Addr) (n c : Nat) (w : World) (hn : n ≤ 100) :
    Calls Try.prog 21 #[.slice A n c] w fun e w' => e = .returned (.tuple #[.slice A n c, .int .i64 0]) ∧ w = w' := by
  have hd : decide (100 < (n : Int)) = false := by simp; omega
  go_enter Try.func21, Try.ntmps21
  go_wp2_with fail
  go_ret2
  exact ⟨rfl, rfl⟩
end Go.Proofs.Ytpchbdpepgeibaa
