/- The document's own functions of tally (ref01.Own, ref22): the print's contracts (PTallyDoesx1), told in plain values. -/
import Derived.Test.YtiamkjokiapanaaDoorE
import Derived.Test.YtiamkjokiapanaaDoorPTallyDoesx1
namespace Go.Proofs.YtiamkjokiapanaaDoor
open Go.RowKit Go.Proofs.YtiamkjokiapanaaDoorW.PrintWords

theorem own_any (A : Option Addr) (c : Nat) (l : List Int) (w : World) (h : CI w A l) (hl : l.length ≤ 1000) (hc : l.length ≤ c) :
    Calls Tryd.prog 8 #[.slice A l.length c] w fun e w' => ∃ A' c', e = .returned (.slice A' l.length c') ∧ CI w' A' l ∧ l.length ≤ c' ∧ w.grownBy w' none := by
  refine (PTallyDoes.watchmanref01_Own.calls A c l l w (ci_to_c h (by omega)) hc (by unfold PTallyDoes.watchmanref01_Own.f; rw [if_pos (by simp; omega)]; simp)).mono ?_
  rintro e w' ⟨v, rfl, hR, hb⟩
  obtain ⟨A', c', rfl, hle, hC⟩ := Kd.R_reads hR
  exact ⟨A', c', rfl, ci_of_c hC, hle, grow_of_below hb⟩

theorem rleader_any (v n : Int) (w : World) : Calls Tryd.prog 10 #[.int .i64 v, .int .i64 n] w fun e w' => e = .returned (.tuple #[.int .i64 (leadN v n), .bool (leadB v n)]) ∧ ∃ k, w' = w.drewN k := by
  refine (PTallyDoes.watchmanref22_Leader.calls v n (leadN v n) (leadB v n) w ?_).mono fun e w' ⟨he, hd⟩ => ⟨he, hd.out⟩
  unfold PTallyDoes.watchmanref22_Leader.f leadN leadB
  by_cases h0 : v < 0
  · rw [if_pos h0, if_neg (by omega)]
    simp; omega
  · by_cases h1 : n < 1
    · rw [if_neg h0, if_pos h1, if_neg (by omega)]
      simp; omega
    · by_cases h7 : n > 7
      · rw [if_neg h0, if_neg h1, if_pos h7, if_neg (by omega)]
        simp; omega
      · rw [if_neg h0, if_neg h1, if_neg h7, if_neg (by omega), if_pos (by omega), Int.tmod_eq_emod_of_nonneg (by omega)]
        simp; omega

theorem pow_f : ∀ i ∈ List.range 7, PTallyDoes.watchmanref22_power.f 10 (i : Int) = some ((2 ^ i : Nat) : Int) := by decide +kernel
theorem has_f0 : ∀ s ∈ List.range 128, ∀ i ∈ List.range 7, PTallyDoes.watchmanref22_Has.f 10 (s : Int) (i : Int) = some (hasN s (i : Int)) := by decide +kernel
theorem lift_f {α : Type} (f : Nat → Option α) (hm : ∀ k, LeO (f k) (f (k + 1))) (r : α) (k0 : Nat) (h : f k0 = some r) : ∀ j, f (k0 + j) = some r
  | 0 => h
  | j + 1 => hm _ _ (lift_f f hm r k0 h j)
theorem has_f (k : Nat) (s x : Int) : PTallyDoes.watchmanref22_Has.f (10 + k) s x = some (hasN (rt s) x) := by
  apply lift_f (fun k => PTallyDoes.watchmanref22_Has.f k s x) (fun k => PTallyDoes.watchmanref22_Has.mono s x k)
  by_cases hs : 0 ≤ s ∧ s ≤ 127
  · by_cases hx : 0 ≤ x ∧ x < 7
    · have := has_f0 s.toNat (List.mem_range.2 (by omega)) x.toNat (List.mem_range.2 (by omega))
      rw [Int.toNat_of_nonneg hs.1, Int.toNat_of_nonneg hx.1] at this
      rw [this]
      unfold rt
      rw [if_pos hs]
    · have e : hasN (rt s) x = false := by simp [hasN, hx]
      rw [e]
      unfold PTallyDoes.watchmanref22_Has.f
      rw [if_neg (by omega), if_neg (by omega)]
      by_cases h0 : x < 0
      · rw [if_pos h0]
      · rw [if_neg h0, if_pos (by omega)]
  · have e : hasN (rt s) x = false := by unfold rt; rw [if_neg hs]; simp [hasN]
    rw [e]
    unfold PTallyDoes.watchmanref22_Has.f
    by_cases h0 : s < 0
    · rw [if_pos h0]
    · rw [if_neg h0, if_pos (by omega)]
theorem rhas_any (s x : Int) (w : World) : Calls Tryd.prog 14 #[.int .i64 s, .int .i64 x] w fun e w' => e = .returned (.bool (hasN (rt s) x)) ∧ ∃ k, w' = w.drewN k :=
  (PTallyDoes.watchmanref22_Has.calls _ s x (hasN (rt s) x) w (has_f 0 s x)).mono fun _ _ ⟨he, hd⟩ => ⟨he, hd.out⟩

theorem pow_any_f (k : Nat) (x : Int) (h0 : 0 ≤ x) (h7 : x < 7) : PTallyDoes.watchmanref22_power.f (10 + k) x = some ((2 ^ x.toNat : Nat) : Int) := by
  apply lift_f (fun k => PTallyDoes.watchmanref22_power.f k x) (fun k => PTallyDoes.watchmanref22_power.mono x k)
  have := pow_f x.toNat (List.mem_range.2 (by omega))
  rwa [Int.toNat_of_nonneg h0] at this
theorem plus_f : ∀ s ∈ List.range 128, ∀ i ∈ List.range 7, hasN s (i : Int) = false → wrap64 ((s : Int) + ((2 ^ i : Nat) : Int)) = ((addN s (i : Int) : Nat) : Int) := by decide +kernel
theorem same_f : ∀ s ∈ List.range 128, ∀ i ∈ List.range 7, hasN s (i : Int) = true → addN s (i : Int) = s := by decide +kernel

theorem addl_f (l : List Int) (hl : l.length ≤ 1000) : ∀ (j s i : Nat), s < 128 → i ≤ l.length → l.length - i ≤ j → PTallyDoes.watchmanref22_Add.l0 (11 + j) (s : Int) l (i : Int) = some ((addsN s (l.drop i) : Nat) : Int)
  | j, s, i, hs, hi, hj => by
    by_cases hlt : i < l.length
    · cases j with
      | zero => omega
      | succ j =>
        rw [show 11 + (j + 1) = (11 + j) + 1 from rfl]
        rw [PTallyDoes.watchmanref22_Add.l0]
        rw [if_pos (by omega), if_pos (by omega)]
        have e1 : rd l (i : Int) = l.getD i 0 := by simp [rd]
        have e2 : wrap64 ((i : Int) + 1) = ((i + 1 : Nat) : Int) := by unfold wrap64; omega
        rw [e1, e2]
        have e3 : l.drop i = l.getD i 0 :: l.drop (i + 1) := by
          rw [List.drop_eq_getElem_cons hlt, List.getD_eq_getElem?_getD, List.getElem?_eq_getElem hlt]; rfl
        rw [e3]
        generalize l.getD i 0 = x
        rw [addsN]
        by_cases h0 : 0 ≤ x
        · by_cases h6 : x ≤ 6
          · rw [if_pos h0, if_pos h6, show 11 + j = 10 + (j + 1) by omega, has_f, rt_of s hs, Option.bind_some]
            have hx : ((x.toNat : Nat) : Int) = x := Int.toNat_of_nonneg h0
            cases hh : hasN s x
            · rw [if_neg (by simp), pow_any_f _ x h0 (by omega), Option.bind_some]
              have := plus_f s (List.mem_range.2 hs) x.toNat (List.mem_range.2 (by omega)) (by rw [hx]; exact hh)
              rw [hx] at this
              rw [this, show 10 + (j + 1) = 11 + j by omega]
              exact addl_f l hl j _ _ (addN_lt s x hs) hlt (by omega)
            · have := same_f s (List.mem_range.2 hs) x.toNat (List.mem_range.2 (by omega)) (by rw [hx]; exact hh)
              rw [hx] at this
              rw [if_pos rfl, this, show 10 + (j + 1) = 11 + j by omega]
              exact addl_f l hl j _ _ hs hlt (by omega)
          · rw [if_pos h0, if_neg h6]
            have : addN s x = s := by unfold addN; rw [if_neg (by omega)]
            rw [this]
            exact addl_f l hl j _ _ hs hlt (by omega)
        · rw [if_neg h0]
          have : addN s x = s := by unfold addN; rw [if_neg (by omega)]
          rw [this]
          exact addl_f l hl j _ _ hs hlt (by omega)
    · rw [show 11 + j = (10 + j) + 1 by omega, PTallyDoes.watchmanref22_Add.l0]
      rw [if_neg (by omega), List.drop_of_length_le (by omega)]
      rfl
theorem add_f (s : Int) (l : List Int) (hl : l.length ≤ 1000) : PTallyDoes.watchmanref22_Add.f (13 + l.length) s l = some ((addsN (rt s) l : Nat) : Int) := by
  have h := addl_f l hl l.length
  unfold PTallyDoes.watchmanref22_Add.f
  rw [show 13 + l.length = (11 + l.length) + 1 + 1 by omega]
  by_cases h0 : s < 0
  · rw [if_pos h0, PTallyDoes.watchmanref22_Add.j0, if_pos rfl, PTallyDoes.watchmanref22_Add.j1]
    have := h 0 0 (by omega) (by omega) (by omega)
    rw [show rt s = 0 by unfold rt; rw [if_neg (by omega)]]
    exact this
  · rw [if_neg h0, PTallyDoes.watchmanref22_Add.j0]
    by_cases h1 : s > 127
    · rw [if_pos (by simpa using h1), PTallyDoes.watchmanref22_Add.j1]
      have := h 0 0 (by omega) (by omega) (by omega)
      rw [show rt s = 0 by unfold rt; rw [if_neg (by omega)]]
      exact this
    · rw [if_neg (by simpa using h1), PTallyDoes.watchmanref22_Add.j1]
      have := h (rt s) 0 (rt_lt s) (by omega) (by omega)
      rw [show ((rt s : Nat) : Int) = s by unfold rt; rw [if_pos (by omega)]; omega] at this
      exact this
theorem radd_any (s : Int) (A : Option Addr) (c : Nat) (l : List Int) (w : World) (h : CI w A l) (hl : l.length ≤ 1000) (hc : l.length ≤ c) :
    Calls Tryd.prog 12 #[.int .i64 s, .slice A l.length c] w fun e w' => e = .returned (.int .i64 (addsN (rt s) l)) ∧ ∃ k, w' = w.drewN k :=
  (PTallyDoes.watchmanref22_Add.calls _ s A c l _ w (ci_to_c h (by omega)) hc (add_f s l hl)).mono fun _ _ ⟨he, hd⟩ => ⟨he, hd.out⟩
end Go.Proofs.YtiamkjokiapanaaDoor
