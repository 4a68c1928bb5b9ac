/- The document's Members, Size, most, Enough, Reached: walks. -/
import Derived.Test.YtiamkjokiapanaaDoorP
import Derived.Test.YtiamkjokiapanaaDoorR
namespace Go.Proofs.YtiamkjokiapanaaDoor
open Go.RowKit Go.Proofs.YtiamkjokiapanaaDoorW.PrintWords

theorem rmost_any (n : Int) (w : World) (h1 : 1 ≤ n) (h7 : n ≤ 7) : Calls Tryd.prog 31 #[.int .i64 n] w fun e w' => e = .returned (.int .i64 (n / 2 + 1)) ∧ w = w' := by
  go_enter Tryd.func31, Tryd.ntmps31
  go_wp2_with fail
  go_ret
  exact ⟨rfl, rfl⟩

/-- The members below k. -/
def preN (s : Nat) : Nat → List Int
  | 0 => []
  | k + 1 => if hasN s (k : Int) then preN s k ++ [(k : Int)] else preN s k
theorem pre_len (s : Nat) : ∀ k, (preN s k).length ≤ k
  | 0 => Nat.le_refl _
  | k + 1 => by have := pre_len s k; rw [preN]; split <;> simp <;> omega
theorem pre_memb (s : Nat) (hs : s < 128) : preN s 7 = membN s := by
  have := all128 (fun s => preN s 7 == membN s) (by decide +kernel) s hs
  simpa using this

set_option maxHeartbeats 2000000 in
theorem rmembers_any (s : Int) (w : World) :
    Calls Tryd.prog 19 #[.int .i64 s] w fun e w' => ∃ v, e = .returned v ∧ w'.ownsRow w.heap.size 3 1 v (membN (rt s)).length (ints (membN (rt s))) ∧ w.grownBy w' none := by
  have hs := rt_lt s
  have HP := Lib.hid (pre_memb (rt s) hs)
  have HH := Lib.hid (fun x W => rhas_any s x W)
  generalize rt s = S at *
  clear hs
  go_enter Tryd.func19, Tryd.ntmps19
  go_wp2_with fail
  go_loopw [3, 4] (fun v i wr => ∃ k : Nat, k ≤ 7 ∧ i = .int .i64 k ∧ wr.ownsRow w.heap.size 3 1 v (preN S k).length (ints (preN S k)) ∧ w.grownBy wr none) (fun _ i _ => 7 - (intOf i).toNat)
  case atStart => exact ⟨0, by omega, rfl, World.ownsRow_nil _ _ _ _, .refl _ _⟩
  case round =>
    obtain ⟨k, hk, rfl, ho, hg⟩ := hrel
    have hpl := pre_len S k
    by_cases h7 : k < 7
    · have h7' : (k : Int) ≤ 6 := by omega
      have HO := Lib.hid ho
      have HG := Lib.hid hg
      have HK := Lib.hid (show preN S (k + 1) = if hasN S (k : Int) then preN S k ++ [(k : Int)] else preN S k from rfl)
      have HHk := Lib.hid (HH.out k)
      generalize hasN S (k : Int) = p at *
      generalize preN S k = L at *
      clear ho hg HH HP
      cases p
      · go_wp2_with fail
        refine (HHk.out _).mono ?_
        rintro e w1 ⟨rfl, j, rfl⟩
        have ho1 := own_none HO.out (grow_drewN wr j)
        have hg1 := grow_trans HG.out (grow_drewN wr j)
        have HF := Lib.hid (And.intro ho1 hg1)
        clear ho1 hg1
        go_wp2_with fail
        go_roundw
        case rel => exact ⟨k + 1, by omega, by go_num, by rw [HK.out]; exact HF.out.1, HF.out.2⟩
        case measure => simp [intOf]; omega
      · go_wp2_with fail
        refine (HHk.out _).mono ?_
        rintro e w1 ⟨rfl, j, rfl⟩
        have hA := grow_alloc (wr.drewN j) (.cells #[.int .i64 (k : Int)] 3)
        have ho1 := own_none (own_none HO.out (grow_drewN wr j)) hA
        have hg1 := grow_trans HG.out (grow_trans (grow_drewN wr j) hA)
        obtain ⟨v', w2, hr, ho2, hg3⟩ := append_ci ((wr.drewN j).alloc (.cells #[.int .i64 (k : Int)] 3)) w.heap.size u3 L ho1 (some ⟨wr.heap.size, 0, none⟩) 1 [(k : Int)] (ci_new _ _ _ rfl) (by simp; omega) hg1.size
        have hg4 := grow_then hg1 hg3 (fun q hq => own_base ho1 q hq)
        have hr' : (Builtin.append_ #[22, 22] 22 #[u3, .slice (some ⟨wr.heap.size, 0, none⟩) 1 1]).run Tryd.prog ((wr.drewN j).alloc (.cells #[.int .i64 (k : Int)] 3)) = .ok v' w2 := hr
        have HF := Lib.hid (And.intro ho2 hg4)
        clear hr ho2 hg4 hg3 ho1 hA hg1
        go_wp2_with (refine wpList_append_run (d := some 15) u3 (.slice (some ⟨wr.heap.size, 0, none⟩) 1 1) (by rfl) (by rfl) hr' ?_)
        go_roundw
        case rel => exact ⟨k + 1, by omega, by go_num, by rw [HK.out]; exact HF.out.1, HF.out.2⟩
        case measure => simp [intOf]; omega
    · obtain rfl : k = 7 := by omega
      rw [HP.out] at ho
      have HO := Lib.hid ho
      have HG := Lib.hid hg
      clear ho hg
      go_wp2_with fail
      go_ret
      exact ⟨_, rfl, HO.out, HG.out⟩
theorem rsize_any (s : Int) (w : World) :
    Calls Tryd.prog 16 #[.int .i64 s] w fun e w' => e = .returned (.int .i64 (sizeN (rt s))) ∧ w.grownBy w' none := by
  have HM := Lib.hid (rmembers_any s w)
  have hl := memb_size (rt s) (rt_lt s)
  have hl7 : (membN (rt s)).length ≤ 7 := by unfold membN; exact Nat.le_trans (List.length_filter_le _ _) (by decide)
  go_enter Tryd.func16, Tryd.ntmps16
  go_wp2_with fail
  refine HM.out.mono ?_
  rintro e w1 ⟨v, rfl, ho, hg⟩
  obtain ⟨A, c, rfl, -⟩ := ci_of_own ho rfl
  rw [hl]
  clear ho
  go_wp2_with fail
  go_ret
  exact ⟨rfl, hg⟩

/-- How many are in below k. -/
def cntN (s : Nat) : Nat → Nat
  | 0 => 0
  | k + 1 => cntN s k + (if hasN s (k : Int) then 1 else 0)
theorem cnt_k (s : Nat) : ∀ k, cntN s k ≤ k
  | 0 => Nat.le_refl _
  | k + 1 => by have := cnt_k s k; rw [cntN]; split <;> omega
theorem cnt_size : ∀ s ∈ List.range 128, ∀ n ∈ List.range 8, cntN s n = sizeN (s % 2 ^ n) := by decide +kernel

set_option maxHeartbeats 2000000 in
theorem renough_any (s n : Int) (w : World) :
    Calls Tryd.prog 21 #[.int .i64 s, .int .i64 n] w fun e w' => e = .returned (.bool (enoughN (rt s) n)) ∧ ∃ k, w' = w.drewN k := by
  have hs := rt_lt s
  have HH := Lib.hid (fun x W => rhas_any s x W)
  generalize rt s = S at *
  by_cases h1 : n < 1
  · have e : enoughN S n = false := by simp [enoughN]; omega
    rw [e]
    clear e HH
    go_enter Tryd.func21, Tryd.ntmps21
    go_wp2_with fail
    go_ret
    exact ⟨rfl, 0, rfl⟩
  by_cases h7 : 7 < n
  · have e : enoughN S n = false := by simp [enoughN]; omega
    rw [e]
    clear e HH
    go_enter Tryd.func21, Tryd.ntmps21
    go_wp2_with fail
    go_ret
    exact ⟨rfl, 0, rfl⟩
  have hn1 : 1 ≤ n := by omega
  have hn7 : n ≤ 7 := by omega
  clear h1 h7
  have HE := Lib.hid (show enoughN S n = decide (n / 2 + 1 ≤ ((cntN S n.toNat : Nat) : Int)) by
    rw [cnt_size S (List.mem_range.2 hs) n.toNat (List.mem_range.2 (by omega))]
    simp [enoughN, hn1, hn7])
  clear hs
  go_enter Tryd.func21, Tryd.ntmps21
  go_wp2_with fail
  go_loopw [5, 6] (fun v i wr => ∃ k : Nat, (k : Int) ≤ n ∧ i = .int .i64 k ∧ v = .int .i64 (cntN S k) ∧ ∃ j, wr = w.drewN j) (fun _ i _ => (n - intOf i).toNat)
  case atStart => exact ⟨0, by omega, rfl, rfl, 0, rfl⟩
  case round =>
    obtain ⟨k, hk, rfl, rfl, j, rfl⟩ := hrel
    have hck := cnt_k S k
    by_cases hlt : (k : Int) < n
    · have HK := Lib.hid (show cntN S (k + 1) = cntN S k + (if hasN S (k : Int) then 1 else 0) from rfl)
      have HHk := Lib.hid (HH.out k)
      generalize hasN S (k : Int) = p at *
      generalize cntN S k = u at *
      clear HH HE
      cases p
      · go_wp2_with fail
        refine (HHk.out _).mono ?_
        rintro e w1 ⟨rfl, q, rfl⟩
        go_wp2_with fail
        go_roundw
        case rel => exact ⟨k + 1, by omega, by go_num, by rw [HK.out]; rfl, _, rfl⟩
        case measure => simp [intOf]; omega
      · go_wp2_with fail
        refine (HHk.out _).mono ?_
        rintro e w1 ⟨rfl, q, rfl⟩
        go_wp2_with fail
        go_roundw
        case rel => exact ⟨k + 1, by omega, by go_num, by rw [HK.out]; rfl, _, rfl⟩
        case measure => simp [intOf]; omega
    · have e : n = (k : Int) := by omega
      have e2 : n.toNat = k := by omega
      have HU := Lib.hid (show decide (n / 2 + 1 ≤ ((cntN S k : Nat) : Int)) = enoughN S n by rw [HE.out, e2])
      generalize cntN S k = u at *
      clear HE HH e2
      subst e
      go_wp2_with fail
      refine (rmost_any _ _ hn1 hn7).mono ?_
      rintro e w1 ⟨rfl, rfl⟩
      go_wp2_with fail
      go_ret
      exact ⟨ret_bool HU.out, _, rfl⟩

/-- The greatest so far that so many have come to. -/
def bestN (n : Int) (far : List Int) : Nat → Int
  | 0 => 0
  | k + 1 => if mostN n ≤ cntGe far (far.getD k 0) then max (bestN n far k) (far.getD k 0) else bestN n far k
theorem best_nn (n : Int) (far : List Int) : ∀ k, 0 ≤ bestN n far k
  | 0 => Int.le_refl _
  | k + 1 => by have := best_nn n far k; rw [bestN]; split <;> omega
theorem best_le (n : Int) (far : List Int) (hn : 1 ≤ n ∧ n ≤ 7) : ∀ k, bestN n far k ≤ reachN n far
  | 0 => (reach_spec n far hn).1
  | k + 1 => by
    have := best_le n far hn k
    rw [bestN]
    split
    · have h := reach_spec n far hn
      by_cases h0 : 0 < far.getD k 0
      · have := (h.2 _ h0).2 (by assumption)
        omega
      · omega
    · exact this
theorem best_ge (n : Int) (far : List Int) : ∀ (k i : Nat), i < k → mostN n ≤ cntGe far (far.getD i 0) → far.getD i 0 ≤ bestN n far k
  | 0, _, h, _ => by omega
  | k + 1, i, h, hm => by
    rw [bestN]
    by_cases e : i = k
    · subst e; rw [if_pos hm]; omega
    · have := best_ge n far k i (by omega) hm
      split <;> omega
theorem best_all (n : Int) (far : List Int) (hn : 1 ≤ n ∧ n ≤ 7) : bestN n far far.length = reachN n far := by
  have h1 := best_le n far hn far.length
  have h2 := best_nn n far far.length
  by_cases h0 : 0 < reachN n far
  · have hmem : reachN n far ∈ far := by
      have h0' := h0
      unfold reachN at h0' ⊢
      by_cases hl : 1 ≤ n ∧ n ≤ 7 ∧ n / 2 + 1 ≤ (far.length : Int)
      · rw [if_pos hl] at h0' ⊢
        have hs : far.length - (n / 2 + 1).toNat < (srt far).length := by rw [srt_len]; omega
        have e : max ((srt far).getD (far.length - (n / 2 + 1).toNat) 0) 0 = (srt far)[far.length - (n / 2 + 1).toNat] := by
          have : (srt far).getD (far.length - (n / 2 + 1).toNat) 0 = (srt far)[far.length - (n / 2 + 1).toNat] := by rw [List.getD_eq_getElem?_getD, List.getElem?_eq_getElem hs]; rfl
          have h3 : 0 < max ((srt far).getD (far.length - (n / 2 + 1).toNat) 0) 0 := h0'
          omega
        have hm : (srt far)[far.length - (n / 2 + 1).toNat] ∈ srt far := List.getElem_mem hs
        show max ((srt far).getD (far.length - (n / 2 + 1).toNat) 0) 0 ∈ far
        rw [e]
        exact (srt_perm far).mem_iff.1 hm
      · rw [if_neg hl] at h0'; omega
    obtain ⟨i, hi, e⟩ := List.getElem_of_mem hmem
    have e' : far.getD i 0 = reachN n far := by rw [List.getD_eq_getElem?_getD, List.getElem?_eq_getElem hi]; exact e
    have := best_ge n far far.length i hi (by rw [e']; exact reach_most n far hn h0)
    rw [e'] at this
    omega
  · have := (reach_spec n far hn).1
    omega

theorem rreached_out (n : Int) (A : Option Addr) (c : Nat) (zs : List Int) (w : World) (hn : ¬ (1 ≤ n ∧ n ≤ 7)) (hl : zs.length ≤ 1000) :
    Calls Tryd.prog 23 #[.int .i64 n, .slice A zs.length c] w fun e w' => e = .returned (.int .i64 (reachN n zs)) ∧ ∃ k, w' = w.drewN k := by
  have HR := Lib.hid (show (0 : Int) = reachN n zs by unfold reachN; rw [if_neg (by omega)])
  obtain ⟨m, hm⟩ : ∃ m, m = zs.length := ⟨_, rfl⟩
  rw [← hm] at hl ⊢
  by_cases h0 : m = 0
  · clear hm
    subst h0
    clear hn
    go_enter Tryd.func23, Tryd.ntmps23
    go_wp2_with fail
    go_loopw [5, 6] (fun v i wr => v = .int .i64 0 ∧ i = .int .i64 0 ∧ wr = w) (fun _ _ _ => 0)
    case atStart => exact ⟨rfl, rfl, rfl⟩
    case round =>
      obtain ⟨rfl, rfl, rfl⟩ := hrel
      go_wp2_with fail
      go_ret
      exact ⟨ret_int HR.out, 0, rfl⟩
  · have hp : 0 < (m : Int) := by omega
    by_cases h1 : n < 1
    · clear hn hm
      go_enter Tryd.func23, Tryd.ntmps23
      go_wp2_with fail
      go_loopw [5, 6] (fun v i wr => v = .int .i64 0 ∧ i = .int .i64 0 ∧ wr = w) (fun _ _ _ => 0)
      case atStart => exact ⟨rfl, rfl, rfl⟩
      case round =>
        obtain ⟨rfl, rfl, rfl⟩ := hrel
        go_wp2_with fail
        go_ret
        exact ⟨ret_int HR.out, 0, rfl⟩
    · have h7 : 7 < n := by omega
      clear hn hm
      go_enter Tryd.func23, Tryd.ntmps23
      go_wp2_with fail
      go_loopw [5, 6] (fun v i wr => v = .int .i64 0 ∧ i = .int .i64 0 ∧ wr = w) (fun _ _ _ => 0)
      case atStart => exact ⟨rfl, rfl, rfl⟩
      case round =>
        obtain ⟨rfl, rfl, rfl⟩ := hrel
        go_wp2_with fail
        go_ret
        exact ⟨ret_int HR.out, 0, rfl⟩

theorem cnt_takeS (l : List Int) (v : Int) (k : Nat) (h : k < l.length) : cntGe (l.take (k + 1)) v = cntGe (l.take k) v + (if v ≤ l.getD k 0 then 1 else 0) := by
  unfold cntGe
  rw [take_succ l k h, List.countP_append, List.countP_singleton]
  simp only [decide_eq_true_eq]
theorem cnt_leS (l : List Int) (v : Int) (k : Nat) : cntGe (l.take k) v ≤ k := by
  unfold cntGe
  exact Nat.le_trans List.countP_le_length (by simp; omega)
set_option maxHeartbeats 4000000 in
theorem rreached_in (n : Int) (A : Option Addr) (c : Nat) (zs : List Int) (w : World) (hn : 1 ≤ n ∧ n ≤ 7) (hl : zs.length ≤ 1000) (hc : CI w A zs) :
    Calls Tryd.prog 23 #[.int .i64 n, .slice A zs.length c] w fun e w' => e = .returned (.int .i64 (reachN n zs)) ∧ ∃ k, w' = w.drewN k := by
  have HB := Lib.hid (best_all n zs hn)
  have hmN : (mostN n : Int) = n / 2 + 1 := by unfold mostN; omega
  obtain ⟨m, hm⟩ : ∃ m, m = zs.length := ⟨_, rfl⟩
  have HC := Lib.hid (fun d k (h : k < m) => (hc.grow (grow_drewN w d)) k (by rw [← hm]; exact h))
  have HT := Lib.hid (fun v k (h : k < m) => cnt_takeS zs v k (by rw [← hm]; exact h))
  have HTE := Lib.hid (fun k (h : m ≤ k) => (List.take_of_length_le (by rw [← hm]; exact h) : zs.take k = zs))
  have HK := Lib.hid (fun k => (show bestN n zs (k + 1) = if mostN n ≤ cntGe zs (zs.getD k 0) then max (bestN n zs k) (zs.getD k 0) else bestN n zs k from rfl))
  have HL := Lib.hid (fun k v => cnt_leS zs v k)
  rw [← hm] at hl HB ⊢
  obtain ⟨hn1, hn7⟩ := hn
  clear hc hm
  go_enter Tryd.func23, Tryd.ntmps23
  go_wp2_with fail
  go_loopw [5, 6] (fun v i wr => ∃ k : Nat, k ≤ m ∧ i = .int .i64 k ∧ v = .int .i64 (bestN n zs k) ∧ ∃ d, wr = w.drewN d) (fun _ i _ => m - (intOf i).toNat)
  case atStart => exact ⟨0, by omega, rfl, rfl, 0, rfl⟩
  case round =>
    obtain ⟨k, hk, rfl, rfl, d, rfl⟩ := hrel
    by_cases hlt : k < m
    · have HKk := Lib.hid (HK.out k)
      generalize bestN n zs k = u at *
      obtain ⟨x, hx⟩ : ∃ x, x = zs.getD k 0 := ⟨_, rfl⟩
      rw [← hx] at HKk
      have HX := Lib.hid hx
      clear hx HB HK
      go_wp2_with fail
      go_loopw [7, 8] (fun v i wr => ∃ q : Nat, q ≤ m ∧ i = .int .i64 q ∧ v = .int .i64 (cntGe (zs.take q) x) ∧ ∃ d, wr = w.drewN d) (fun _ i _ => m - (intOf i).toNat)
      case atStart => exact ⟨0, by omega, rfl, rfl, d, rfl⟩
      case round =>
        obtain ⟨q, hq, rfl, rfl, d2, rfl⟩ := hrel
        have hcl := HL.out q x
        by_cases hql : q < m
        · obtain ⟨b, off, hA, hbs, hcell⟩ := HC.out d2 k hlt
          subst hA
          obtain ⟨b', off', hA', hbs', hcell'⟩ := HC.out d2 q hql
          cases hA'
          rw [← HX.out] at hcell
          have HTq := Lib.hid (HT.out x q hql)
          generalize zs.getD q 0 = y at *
          generalize cntGe (zs.take q) x = v at *
          clear HC HT HTE HL HKk HX
          obtain ⟨wr, hwr⟩ : ∃ wr, wr = w.drewN d2 := ⟨_, rfl⟩
          rw [← hwr] at hcell hcell' hbs hbs' ⊢
          have HD := Lib.hid hwr
          clear hwr
          have hk0 : (0 : Int) ≤ (k : Int) := by omega
          have hkm : (k : Int) < (m : Int) := by omega
          have hq0 : (0 : Int) ≤ (q : Int) := by omega
          have hqm : (q : Int) < (m : Int) := by omega
          by_cases hxy : x ≤ y
          · have hb : decide (x ≤ y) = true := by simp [hxy]
            go_wp2_with fail
            go_quiet (fail)
            go_wp2_with fail
            go_roundw
            case rel => exact ⟨q + 1, by omega, by go_num, by rw [HTq.out, if_pos hxy]; go_num, _, by rw [HD.out, World.drewN_drewN]⟩
            case measure => simp [intOf]; omega
          · have hb : decide (x ≤ y) = false := by simp; omega
            have hyx : y < x := by omega
            go_wp2_with fail
            go_quiet (fail)
            go_wp2_with fail
            go_roundw
            case rel => exact ⟨q + 1, by omega, by go_num, by rw [HTq.out, if_neg (by omega)]; rfl, _, by rw [HD.out, World.drewN_drewN]⟩
            case measure => simp [intOf]; omega
        · have hqm : q = m := by omega
          have e1 := HTE.out q (by omega)
          rw [e1] at hcl ⊢
          obtain ⟨b, off, hA, hbs, hcell⟩ := HC.out d2 k hlt
          subst hA
          rw [← HX.out] at hcell
          generalize cntGe zs x = v at *
          clear HC HT HTE HL HX e1
          by_cases hmv : n / 2 + 1 ≤ (v : Int)
          · go_wp2_with fail
            refine (rmost_any n _ hn1 hn7).mono ?_
            rintro e w1 ⟨rfl, rfl⟩
            go_wp2_with fail
            go_roundw
            case rel => exact ⟨k + 1, by omega, by go_num, by rw [HKk.out, if_pos (by omega)], _, rfl⟩
            case measure => simp [intOf]; omega
          · go_wp2_with fail
            refine (rmost_any n _ hn1 hn7).mono ?_
            rintro e w1 ⟨rfl, rfl⟩
            go_wp2_with fail
            go_roundw
            case rel => exact ⟨k + 1, by omega, by go_num, by rw [HKk.out, if_neg (by omega)], _, rfl⟩
            case measure => simp [intOf]; omega
    · have e : k = m := by omega
      subst e
      have hb := HB.out
      generalize bestN n zs k = u at *
      clear HB HC HT HTE HK HL
      go_wp2_with fail
      go_ret
      exact ⟨ret_int hb, _, rfl⟩
end Go.Proofs.YtiamkjokiapanaaDoor
