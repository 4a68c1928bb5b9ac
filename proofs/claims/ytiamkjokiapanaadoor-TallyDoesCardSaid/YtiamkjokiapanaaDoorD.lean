/- Contracts of tally.Add, most, Enough, Leader. -/
import Derived.Test.YtiamkjokiapanaaDoorC
namespace Go.Proofs.YtiamkjokiapanaaDoor
open Go.RowKit Go.Proofs.YtiamkjokiapanaaDoorW.PrintWords

theorem adds_snoc (s : Nat) (l : List Int) (x : Int) : addsN s (l ++ [x]) = addN (addsN s l) x := by rw [adds_append]; rfl

theorem or_eq : ∀ n ∈ List.range 128, ∀ i ∈ List.range 7, bits BinOp.or IntKind.i64 (n : Int) (wrap64 (2 ^ i)) = ((n ||| 2 ^ i : Nat) : Int) := by decide +kernel
theorem or_add (q : Nat) (x : Int) (hq : q < 128) (hx : mayB x = true) : bits BinOp.or IntKind.i64 (q : Int) (wrap64 (2 ^ x.toNat)) = ((addN q x : Nat) : Int) := by
  have hx' : 0 ≤ x ∧ x < 7 := by simpa [mayB] using hx
  rw [or_eq q (List.mem_range.2 hq) x.toNat (List.mem_range.2 (by omega))]
  unfold addN
  rw [if_pos hx']
theorem not_add (q : Nat) (x : Int) (hx : mayB x = false) : addN q x = q := by
  have hx' : ¬ (0 ≤ x ∧ x < 7) := by simpa [mayB] using hx
  unfold addN
  rw [if_neg hx']
set_option maxHeartbeats 1000000 in
theorem add_any (s : Int) (A : Option Addr) (c : Nat) (zs : List Int) (w : World) (hl : zs.length ≤ 1000000) (hc : CI w A zs) :
    Calls Tryd.prog 11 #[.int .i64 s, .slice A zs.length c] w fun e w' => e = .returned (.int .i64 (addsN (rt s) zs)) ∧ w = w' := by
  obtain ⟨m, hm⟩ : ∃ m, m = zs.length := ⟨_, rfl⟩
  have hl' : m ≤ 1000000 := by omega
  rw [← hm]
  have HM := Lib.hid hm
  have HC := Lib.hid hc
  have hr := rt_lt s
  have HR := Lib.hid (fun W => right_any s W)
  have HB := Lib.hid (fun l => addsN_lt l (rt s) hr)
  generalize rt s = n at *
  clear hm hl hc
  go_enter Tryd.func11, Tryd.ntmps11
  go_wp2_with fail
  refine (HR.out _).mono ?_
  rintro e w1 ⟨rfl, rfl⟩
  go_wp2_with fail
  go_loopw [0, 11] (fun v i wr => ∃ k : Nat, k ≤ m ∧ i = .int .i64 k ∧ v = .int .i64 (addsN n (zs.take k)) ∧ wr = w) (fun _ i _ => m - (intOf i).toNat)
  case atStart => exact ⟨0, Nat.zero_le _, rfl, rfl, rfl⟩
  case round =>
    obtain ⟨k, hk, rfl, rfl, rfl⟩ := hrel
    by_cases hlt : k < m
    · obtain ⟨b, off, hA, hbs, hcell⟩ := HC.out k (by rw [← HM.out]; exact hlt)
      subst hA
      have HT := Lib.hid (take_succ zs k (by rw [← HM.out]; exact hlt))
      generalize zs.getD k 0 = x at *
      have HS := Lib.hid (adds_snoc n (zs.take k) x)
      have hb := HB.out (zs.take k)
      generalize addsN n (zs.take k) = q at *
      by_cases hx : mayB x = true
      · have hx' : 0 ≤ x ∧ x < 7 := by simpa [mayB] using hx
        have hx0 := hx'.1
        have hx7 := hx'.2
        have hq : (q : Int) ≤ 127 := by omega
        clear hx'
        go_wp2_with fail
        refine (may_any _ _).mono ?_
        rintro e w1 ⟨rfl, rfl⟩
        go_wp2_with fail
        have HO := Lib.hid (or_add q x hb hx)
        go_roundw
        case rel => exact ⟨k + 1, by omega, by go_num, by rw [HO.out, HT.out, HS.out], trivial⟩
        case measure => simp [intOf]; omega
      · have hx' : mayB x = false := by simpa using hx
        have HO := Lib.hid (not_add q x hx')
        clear hx
        go_wp2_with fail
        refine (may_any _ _).mono ?_
        rintro e w1 ⟨rfl, rfl⟩
        go_wp2_with fail
        go_roundw
        case rel => exact ⟨k + 1, by omega, by go_num, by rw [HT.out, HS.out, HO.out], trivial⟩
        case measure => simp [intOf]; omega
    · have e : zs.take k = zs := List.take_of_length_le (by rw [← HM.out]; omega)
      rw [e]
      go_wp2_with fail
      go_ret
      exact ⟨rfl, rfl⟩

def mostB (n : Int) : Bool := decide (1 ≤ n ∧ n ≤ 7)
def mostI (n : Int) : Int := if 1 ≤ n ∧ n ≤ 7 then n / 2 + 1 else wrap64 (wrap64 (n.tdiv 2) + 1)
theorem most_any (n : Int) (w : World) : Calls Tryd.prog 25 #[.int .i64 n] w fun e w' => e = .returned (.tuple #[.int .i64 (mostI n), .bool (mostB n)]) ∧ w = w' := by
  by_cases h : 1 ≤ n
  · by_cases h7 : n ≤ 7
    · have e1 : mostI n = n / 2 + 1 := if_pos ⟨h, h7⟩
      have e2 : mostB n = true := by simp [mostB, h, h7]
      rw [e1, e2]
      clear e1 e2
      go_enter Tryd.func25, Tryd.ntmps25
      go_wp2_with fail
      go_ret2
      exact ⟨rfl, rfl⟩
    · have e1 : mostI n = wrap64 (wrap64 (n.tdiv 2) + 1) := if_neg (by omega)
      have e2 : mostB n = false := by simp [mostB]; omega
      rw [e1, e2]
      clear e1 e2
      go_enter Tryd.func25, Tryd.ntmps25
      go_wp2_with fail
      go_ret2
      exact ⟨rfl, rfl⟩
  · have e1 : mostI n = wrap64 (wrap64 (n.tdiv 2) + 1) := if_neg (by omega)
    have e2 : mostB n = false := by simp [mostB]; omega
    rw [e1, e2]
    clear e1 e2
    go_enter Tryd.func25, Tryd.ntmps25
    go_wp2_with fail
    go_ret2
    exact ⟨rfl, rfl⟩
theorem most_val (n : Int) (h : mostB n = true) : mostI n = n / 2 + 1 ∧ 1 ≤ n ∧ n ≤ 7 := by
  have hx' : 1 ≤ n ∧ n ≤ 7 := by simpa [mostB] using h
  exact ⟨if_pos hx', hx'⟩

theorem leader_any (v n : Int) (w : World) : Calls Tryd.prog 9 #[.int .i64 v, .int .i64 n] w fun e w' => e = .returned (.tuple #[.int .i64 (leadN v n), .bool (leadB v n)]) ∧ w = w' := by
  by_cases h : mostB n = true
  · have hn := (most_val n h).2
    by_cases hv : 0 ≤ v
    · have e1 : leadN v n = v % n := by unfold leadN; rw [if_pos ⟨hn.1, hn.2, hv⟩]
      have e2 : leadB v n = true := by simp [leadB, hn, hv]
      have hn1 := hn.1
      have hn7 := hn.2
      rw [e1, e2]
      clear e1 e2 hn
      go_enter Tryd.func9, Tryd.ntmps9
      go_wp2_with fail
      refine (most_any _ _).mono ?_
      rintro e w1 ⟨rfl, rfl⟩
      go_wp2_with fail
      go_ret2
      exact ⟨rfl, rfl⟩
    · have e1 : leadN v n = 0 := by unfold leadN; rw [if_neg (by omega)]
      have e2 : leadB v n = false := by simp [leadB]; omega
      rw [e1, e2]
      clear e1 e2 hn
      go_enter Tryd.func9, Tryd.ntmps9
      go_wp2_with fail
      refine (most_any _ _).mono ?_
      rintro e w1 ⟨rfl, rfl⟩
      go_wp2_with fail
      go_ret2
      exact ⟨rfl, rfl⟩
  · have h' : mostB n = false := by simpa using h
    have hn : ¬ (1 ≤ n ∧ n ≤ 7) := by simpa [mostB] using h'
    have e1 : leadN v n = 0 := by unfold leadN; rw [if_neg (by omega)]
    have e2 : leadB v n = false := by simp [leadB]; omega
    rw [e1, e2]
    clear e1 e2 hn h
    go_enter Tryd.func9, Tryd.ntmps9
    go_wp2_with fail
    refine (most_any _ _).mono ?_
    rintro e w1 ⟨rfl, rfl⟩
    go_wp2_with fail
    go_ret2
    exact ⟨rfl, rfl⟩

theorem and_eq : ∀ s ∈ List.range 128, ∀ n ∈ List.range 8, bits BinOp.and IntKind.i64 (s : Int) (wrap64 (wrap64 (2 ^ n) - 1)) = ((s % 2 ^ n : Nat) : Int) := by decide +kernel
set_option maxHeartbeats 1000000 in
theorem enough_any (s n : Int) (w : World) : Calls Tryd.prog 20 #[.int .i64 s, .int .i64 n] w fun e w' => e = .returned (.bool (enoughN (rt s) n)) ∧ ∃ k, w' = w.drewN k := by
  have hr := rt_lt s
  have HR := Lib.hid (fun W => right_any s W)
  generalize rt s = q at *
  by_cases h : mostB n = true
  · obtain ⟨hm, hn1, hn7⟩ := most_val n h
    have HN := Lib.hid hm
    have hand := and_eq q (List.mem_range.2 hr) n.toNat (List.mem_range.2 (by omega))
    have hlt : q % 2 ^ n.toNat < 128 := Nat.lt_of_le_of_lt (Nat.mod_le _ _) hr
    have HS := Lib.hid (fun W => size_any ((q % 2 ^ n.toNat : Nat) : Int) W)
    rw [rt_of _ hlt, ← hand] at HS
    have e1 : enoughN q n = decide (n / 2 + 1 ≤ ((sizeN (q % 2 ^ n.toNat) : Nat) : Int)) := by simp [enoughN, hn1, hn7]
    rw [e1]
    clear hm hand e1
    have hq : (q : Int) ≤ 127 := by omega
    go_enter Tryd.func20, Tryd.ntmps20
    go_wp2_with fail
    refine (most_any _ _).mono ?_
    rintro e w1 ⟨rfl, rfl⟩
    rw [HN.out]
    go_wp2_with fail
    go_quiet ((first | (go_at_call 26; exact qsame (HR.out _)) | (go_at_call 15; exact qsame (HS.out _))))
    go_wp2_with fail
    go_ret
    exact ⟨rfl, _, rfl⟩
  · have h' : mostB n = false := by simpa using h
    have hn : ¬ (1 ≤ n ∧ n ≤ 7) := by simpa [mostB] using h'
    have e1 : enoughN q n = false := by simp [enoughN, hn]
    rw [e1]
    clear e1 hn h
    go_enter Tryd.func20, Tryd.ntmps20
    go_wp2_with fail
    refine (most_any _ _).mono ?_
    rintro e w1 ⟨rfl, rfl⟩
    go_wp2_with fail
    go_quiet (fail)
    go_wp2_with fail
    go_ret
    exact ⟨rfl, _, rfl⟩
end Go.Proofs.YtiamkjokiapanaaDoor
