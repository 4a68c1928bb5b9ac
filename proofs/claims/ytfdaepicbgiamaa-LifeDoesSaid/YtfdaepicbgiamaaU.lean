/- Contracts of watchmanref05.Next, Run, Name, Reach, Way (of what is no phase), watchmanref01.Own and life.Reach of what is no phase. -/
import Derived.Test.YtfdaepicbgiamaaT
import Derived.Test.YtfdaepicbgiamaaK
namespace Go.Proofs.Ytfdaepicbgiamaa
open Go.RowKit Go.Proofs.YtfdaepicbgiamaaW.PrintWords

theorem ci_to_c {w : World} {A : Option Addr} {l : List Int} (h : CI w A l) (hl : l.length ≤ 100000) : (Kd.int .i64).C w A l.length l := by
  refine ⟨rfl, by omega, fun hp => ?_⟩
  obtain ⟨b, off, rfl, _, _⟩ := h 0 hp
  refine ⟨_, rfl, fun j p hj => ⟨[.int .i64 p], rfl, rfl, fun i u hu => ?_⟩⟩
  have hj' : j < l.length := (List.getElem?_eq_some_iff.1 hj).1
  obtain ⟨b', off', e, _, hc⟩ := h j hj'
  cases e
  have hi : i = 0 := by have := (List.getElem?_eq_some_iff.1 hu).1; simp at this; exact this
  subst hi
  have hu' : u = .int .i64 p := by simpa using hu.symm
  subst hu'
  rw [add_at]
  have e2 : j * Kd.sz (Kd.int .i64) + 0 = j := by show j * 1 + 0 = j; omega
  rw [e2, hc]
  simp [List.getD, hj]

theorem own_any (A : Option Addr) (c : Nat) (l : List Int) (w : World) (h : CI w A l) (hl : l.length ≤ 1000) (hc : l.length ≤ c) :
    Calls Try.prog 8 #[.slice A l.length c] w fun e w' => ∃ A' c', e = .returned (.slice A' l.length c') ∧ CI w' A' l ∧ l.length ≤ c' ∧ w.grownBy w' none := by
  refine (PLifeDoes.watchmanref01_Own.calls A c l l w (ci_to_c h (by omega)) hc (by unfold PLifeDoes.watchmanref01_Own.f; rw [if_pos (by simp; omega)]; simp)).mono ?_
  rintro e w' ⟨v, rfl, hR, hb⟩
  obtain ⟨A', c', rfl, hle, hC⟩ := Kd.R_reads hR
  exact ⟨A', c', rfl, ci_of_c hC, hle, grow_of_below hb⟩

theorem nextref_f (k : Nat) (p d : Int) : PLifeDoes.watchmanref05_Next.f (k + 1) p d = some (nxv p d, nxo p d) := by
  by_cases hp : 0 ≤ p ∧ p < 5
  · by_cases hd : 1 ≤ d ∧ d < 7
    · obtain rfl | rfl | rfl | rfl | rfl : p = 0 ∨ p = 1 ∨ p = 2 ∨ p = 3 ∨ p = 4 := by omega
      all_goals
        obtain rfl | rfl | rfl | rfl | rfl | rfl : d = 1 ∨ d = 2 ∨ d = 3 ∨ d = 4 ∨ d = 5 ∨ d = 6 := by omega
        all_goals kernel_rfl
    · have e1 := nxo_out p d hd
      have e2 : nxv p d = 0 := by simp [nxv, e1]
      have e3 : decide (p > 4) = false := by simp; omega
      rw [e1, e2]
      unfold PLifeDoes.watchmanref05_Next.f
      rw [if_neg (by omega), e3]
      simp only [PLifeDoes.watchmanref05_Next.j0]
      rw [if_neg (by simp), if_neg (by omega), if_neg (by omega), if_neg (by omega), if_neg (by omega), if_neg (by omega), if_neg (by omega)]
  · have e1 : nxo p d = false := by simp [nxo]; intros; omega
    have e2 : nxv p d = 0 := by simp [nxv, e1]
    rw [e1, e2]
    unfold PLifeDoes.watchmanref05_Next.f
    by_cases h0 : p < 0
    · rw [if_pos h0]
      simp only [PLifeDoes.watchmanref05_Next.j0]
      rw [if_pos trivial]
    · have e3 : decide (p > 4) = true := by simp; omega
      rw [if_neg h0, e3]
      simp only [PLifeDoes.watchmanref05_Next.j0]
      rw [if_pos trivial]
theorem nextref_f' (k : Nat) (hk : 1 ≤ k) (p d : Int) : PLifeDoes.watchmanref05_Next.f k p d = some (nxv p d, nxo p d) := by
  obtain ⟨k, rfl⟩ : ∃ m, k = m + 1 := ⟨k - 1, by omega⟩
  exact nextref_f k p d
theorem nextref_any (p d : Int) (w : World) :
    Calls Try.prog 10 #[.int .i64 p, .int .i64 d] w fun e w' => e = .returned (.tuple #[.int .i64 (nxv p d), .bool (nxo p d)]) ∧ w.grownBy w' none :=
  (PLifeDoes.watchmanref05_Next.calls 1 p d _ _ w (nextref_f 0 p d)).mono fun e w' h => ⟨h.1, by first | (obtain ⟨n, rfl⟩ := h.2.out; exact grow_drewN _ _) | exact grow_of_below h.2⟩

theorem runref_l (l : List Int) (hl : l.length ≤ 1000) (d : Nat) : ∀ (k : Nat) (p n : Int) (i : Nat), i + d = l.length → d + 1 < k → 0 ≤ n → n ≤ i →
    PLifeDoes.watchmanref05_Run.l0 k p l n i = some (runL p n (l.drop i)) := by
  induction d with
  | zero =>
    intro k p n i hi hk h0 h1
    obtain ⟨k, rfl⟩ : ∃ m, k = m + 1 := ⟨k - 1, by omega⟩
    simp only [PLifeDoes.watchmanref05_Run.l0]
    rw [if_neg (by omega), List.drop_of_length_le (by omega)]
    rfl
  | succ d ih =>
    intro k p n i hi hk h0 h1
    obtain ⟨k, rfl⟩ : ∃ m, k = m + 1 := ⟨k - 1, by omega⟩
    have hlt : i < l.length := by omega
    have e1 : wrap64 ((i : Int) + 1) = ((i + 1 : Nat) : Int) := by unfold wrap64; omega
    have e2 : wrap64 (n + 1) = n + 1 := by unfold wrap64; omega
    have e3 : rd l (i : Int) = l[i] := by simp [rd, List.getD, hlt]
    simp only [PLifeDoes.watchmanref05_Run.l0]
    rw [if_pos (by omega), if_pos (by omega), nextref_f' k (by omega), Option.bind_some, e1, e2, e3, List.drop_eq_getElem_cons hlt]
    simp only [runL]
    by_cases hx : nxo p l[i] = true
    · rw [if_pos hx, if_pos hx]
      exact ih k _ _ (i + 1) (by omega) (by omega) (by omega) (by omega)
    · rw [if_neg hx, if_neg hx]
      exact ih k _ _ (i + 1) (by omega) (by omega) (by omega) (by omega)
theorem runref_any (p : Int) (A : Option Addr) (c : Nat) (zs : List Int) (w : World) (hl : zs.length ≤ 1000) (hc : CI w A zs) (hcap : zs.length ≤ c) :
    Calls Try.prog 12 #[.int .i64 p, .slice A zs.length c] w fun e w' => e = .returned (.tuple #[.int .i64 (runL p 0 zs).1, .int .i64 (runL p 0 zs).2]) ∧ w.grownBy w' none := by
  have h := runref_l zs hl zs.length (zs.length + 2) p 0 0 (by omega) (by omega) (by omega) (by omega)
  exact (PLifeDoes.watchmanref05_Run.calls (zs.length + 2) p A c zs _ _ w (ci_to_c hc (by omega)) hcap h).mono fun e w' h => ⟨h.1, by obtain ⟨n, rfl⟩ := h.2.out; exact grow_drewN _ _⟩
set_option maxHeartbeats 1000000 in
theorem wayref_out (f t : Int) (w : World) (h : f < 0 ∨ 5 ≤ f ∨ t < 0 ∨ 5 ≤ t) :
    Calls Try.prog 14 #[.int .i64 f, .int .i64 t] w fun e w' => e = .returned (.tuple #[.slice none 0 0, .bool false]) ∧ w = w' := by
  have hcases : f < 0 ∨ (0 ≤ f ∧ 5 ≤ f) ∨ (0 ≤ f ∧ f ≤ 4 ∧ t < 0) ∨ (0 ≤ f ∧ f ≤ 4 ∧ 0 ≤ t ∧ 5 ≤ t) := by omega
  clear h
  rcases hcases with h0 | ⟨h0, h1⟩ | ⟨h0, h1, h2⟩ | ⟨h0, h1, h2, h3⟩
  all_goals
    go_enter Try.func14, Try.ntmps14
    go_wp2_with fail
    go_ret2
    exact ⟨rfl, rfl⟩

def strs5 : Array Value := #[.string ⟨#[113, 117, 105, 101, 116]⟩, .string ⟨#[114, 97, 105, 115, 101, 100]⟩, .string ⟨#[101, 115, 99, 97, 108, 97, 116, 101, 100]⟩, .string ⟨#[97, 99, 107, 101, 100]⟩, .string ⟨#[115, 105, 108, 101, 110, 99, 101, 100]⟩]
set_option maxHeartbeats 1000000 in
theorem nameref_any (n : Int) (w : World) :
    Calls Try.prog 16 #[.int .i64 n] w fun e w' => e = .returned (.tuple #[.string ⟨(nameOf n).toArray⟩, .bool (isB n)]) ∧ w.grownBy w' none := by
  have hcases : n < 0 ∨ (0 ≤ n ∧ 5 ≤ n) ∨ (n = 0 ∨ n = 1 ∨ n = 2 ∨ n = 3 ∨ n = 4) := by omega
  rcases hcases with h0 | ⟨h0, h1⟩ | rfl | rfl | rfl | rfl | rfl
  · have e1 : nameOf n = [] := by unfold nameOf; repeat rw [if_neg (by omega)]
    have e2 : isB n = false := by simp [isB]; omega
    rw [e1, e2]
    clear e1 e2
    go_enter Try.func16, Try.ntmps16
    go_wp2_with fail
    go_ret2
    exact ⟨rfl, World.grownBy_alloc _ _ _⟩
  · have e1 : nameOf n = [] := by unfold nameOf; repeat rw [if_neg (by omega)]
    have e2 : isB n = false := by simp [isB]; omega
    rw [e1, e2]
    clear e1 e2
    go_enter Try.func16, Try.ntmps16
    go_wp2_with fail
    go_ret2
    exact ⟨rfl, World.grownBy_alloc _ _ _⟩
  all_goals
    go_enter Try.func16, Try.ntmps16
    go_wp2_with fail
    go_ret2
    exact ⟨rfl, World.grownBy_alloc _ _ _⟩

theorem reach_out (f : Int) (w : World) (h : f < 0 ∨ 5 ≤ f) :
    Calls Try.prog 19 #[.int .i64 f] w fun e w' => e = .returned (.slice none 0 0) ∧ w = w' := by
  go_enter Try.func19, Try.ntmps19
  go_wp2_with (go_at_call 21; refine (is_no _ _ h).mono ?_; rintro e w' ⟨rfl, rfl⟩)
  go_ret
  exact ⟨rfl, rfl⟩

set_option maxHeartbeats 1000000 in
theorem reachref_out (f : Int) (w : World) (h : f < 0 ∨ 5 ≤ f) :
    Calls Try.prog 20 #[.int .i64 f] w fun e w' => e = .returned (.slice none 0 0) ∧ w = w' := by
  have HW := Lib.hid (fun t W => wayref_out f t W (by omega))
  clear h
  go_enter Try.func20, Try.ntmps20
  go_wp2_with fail
  go_loopw [3, 4] (fun v n wr => ∃ k : Nat, k ≤ 5 ∧ n = .int .i64 k ∧ v = .slice none 0 0 ∧ wr = w) (fun _ n _ => 5 - (intOf n).toNat)
  case atStart => exact ⟨0, by omega, rfl, rfl, rfl⟩
  case round =>
    obtain ⟨k, hk, rfl, rfl, rfl⟩ := hrel
    by_cases h4 : k ≤ 4
    · go_wp2_with fail
      refine (HW.out _ _).mono ?_
      rintro e w1 ⟨rfl, rfl⟩
      go_wp2_with fail
      go_roundw
      case rel => exact ⟨k + 1, by omega, by go_num, rfl, by trivial⟩
      case measure => simp [intOf]; omega
    · go_wp2_with fail
      go_ret
      exact ⟨rfl, rfl⟩

def seqL (k : Nat) : List Int := (List.range k).map (fun n : Nat => (n : Int))
theorem seq_len (k : Nat) : (seqL k).length = k := by simp [seqL]
theorem seq_succ (k : Nat) : seqL (k + 1) = seqL k ++ [(k : Int)] := by simp [seqL, List.range_succ]
set_option maxHeartbeats 1000000 in
theorem reachref_in (f : Int) (w : World) (h0 : 0 ≤ f) (h1 : f ≤ 4) :
    Calls Try.prog 20 #[.int .i64 f] w fun e w' => ∃ v, e = .returned v ∧ w'.ownsRow w.heap.size 3 1 v 5 (ints [0, 1, 2, 3, 4]) ∧ w.grownBy w' none := by
  have HW := Lib.hid (fun t W => wayref_in f t W h0 h1)
  go_enter Try.func20, Try.ntmps20
  go_wp2_with fail
  go_loopw [3, 4] (fun v n wr => ∃ k : Nat, k ≤ 5 ∧ n = .int .i64 k ∧ wr.ownsRow w.heap.size 3 1 v (seqL k).length (ints (seqL k)) ∧ w.grownBy wr none) (fun _ n _ => 5 - (intOf n).toNat)
  case atStart => exact ⟨0, by omega, rfl, World.ownsRow_nil _ _ _ _, .refl _ _⟩
  case round =>
    obtain ⟨k, hk, rfl, ho, hg⟩ := hrel
    by_cases h4 : k ≤ 4
    · have HO := Lib.hid ho
      clear ho
      go_wp2_with fail
      refine (HW.out _ _ (by omega) (by omega)).mono ?_
      rintro e w1 ⟨A, c, rfl, hc, hg1⟩
      have hA := World.grownBy_alloc w1 (.cells #[.int .i64 (k : Int)] 3) none
      have ho1 := own_none (own_none HO.out hg1) hA
      have hg2 := grow_trans hg (grow_trans hg1 hA)
      obtain ⟨v', w2, hr, ho2, hg3⟩ := append_ci (w1.alloc (.cells #[.int .i64 (k : Int)] 3)) w.heap.size u3 (seqL k) ho1 (some ⟨w1.heap.size, 0, none⟩) 1 [(k : Int)] (ci_new _ _ _ rfl) (by rw [seq_len]; simp; omega) hg2.size
      have hg4 := grow_then hg2 hg3 (fun j hj => own_base ho1 j hj)
      rw [← seq_succ] at ho2
      have hr' : (Builtin.append_ #[22, 22] 22 #[u3, .slice (some ⟨w1.heap.size, 0, none⟩) 1 1]).run Try.prog (w1.alloc (.cells #[.int .i64 (k : Int)] 3)) = .ok v' w2 := hr
      have HF := Lib.hid (And.intro ho2 hg4)
      clear hr ho2 hg4 hg3 hg2 ho1 hA hg1 hc hg
      go_wp2_with (refine wpList_append_run (d := some 21) u3 (.slice (some ⟨w1.heap.size, 0, none⟩) 1 1) (by rfl) (by rfl) hr' ?_)
      go_roundw
      case rel => exact ⟨k + 1, by omega, by go_num, HF.out.1, HF.out.2⟩
      case measure => simp [intOf]; omega
    · have hk5 : k = 5 := by omega
      subst hk5
      have HO := Lib.hid ho
      clear ho
      go_wp2_with fail
      go_ret
      exact ⟨_, rfl, HO.out, hg⟩
end Go.Proofs.Ytfdaepicbgiamaa
