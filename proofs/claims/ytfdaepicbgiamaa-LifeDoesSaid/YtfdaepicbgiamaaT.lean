/- Contracts of watchmanref05.Way, Name and Reach. -/
import Derived.Test.YtfdaepicbgiamaaPLifeDoesx1
import Derived.Test.YtfdaepicbgiamaaQ
namespace Go.Proofs.Ytfdaepicbgiamaa
open Go.RowKit Go.Proofs.YtfdaepicbgiamaaW.PrintWords

def rowsF (f n : Int) : List (List Int) × List Int := (PLifeDoes.watchmanref05_ways.f 1500 f n).getD ([], [])
def n0 (f t : Int) : Nat := ((List.range 4).find? (fun n : Nat => (rowsF f n).2.any (· == t))).getD 0
def firstB (ends : List Int) (rows : List (List Int)) (t : Int) (l : List Int) : Bool :=
  (List.range ends.length).all fun i => !(ends.getD i 0 == t) || (List.range i).any (fun j => ends.getD j 0 == t) || (rows.getD i [] == l)
def tabB (f t : Int) : Bool :=
  (List.range (n0 f t + 1)).all (fun n : Nat => (PLifeDoes.watchmanref05_ways.f 1500 f n).isSome && decide ((rowsF f n).1.length ≤ 1000) && ((rowsF f n).1.length == (rowsF f n).2.length)) &&
  (List.range (n0 f t)).all (fun n : Nat => (rowsF f n).2.all (· != t)) && decide (n0 f t ≤ 3) && (rowsF f (n0 f t)).2.any (· == t) &&
  firstB (rowsF f (n0 f t)).2 (rowsF f (n0 f t)).1 t (getL (waysL f) t)
set_option maxRecDepth 100000 in
theorem tab_all : ∀ f ∈ [0, 1, 2, 3, 4], ∀ t ∈ [0, 1, 2, 3, 4], tabB f t = true := by decide +kernel

theorem ci_of_c {w : World} {A : Option Addr} {l : List Int} (h : (Kd.int .i64).C w A l.length l) : CI w A l := by
  intro j hj
  obtain ⟨ad, e, hc⟩ := Kd.at_int h (j : Int) (by omega) (by omega)
  obtain ⟨ad0, e0, hc0⟩ := Kd.at_int h 0 (by omega) (by omega)
  rw [e] at e0
  injection e0 with e0
  subst e0
  obtain ⟨b, off, spot⟩ := ad
  cases spot with
  | some s => simp [World.cell?, Addr.add] at hc0; split at hc0 <;> simp at hc0
  | none =>
    rw [add_at] at hc
    exact ⟨b, off, e, block_lt_of_cell hc, by simpa [rd] using hc⟩

structure WayT (f t : Int) : Prop where
  n3 : n0 f t ≤ 3
  some : ∀ n : Nat, n ≤ n0 f t → PLifeDoes.watchmanref05_ways.f 1500 f n = .some (rowsF f n) ∧ (rowsF f n).1.length ≤ 1000 ∧ (rowsF f n).1.length = (rowsF f n).2.length
  less : ∀ n : Nat, n < n0 f t → ∀ i, i < (rowsF f n).2.length → ((rowsF f n).2.getD i 0 == t) = false
  here : ¬ ∀ i, i < (rowsF f (n0 f t)).2.length → ((rowsF f (n0 f t)).2.getD i 0 == t) = false
  first : ∀ i, i < (rowsF f (n0 f t)).2.length → ((rowsF f (n0 f t)).2.getD i 0 == t) = true → (∀ j, j < i → ((rowsF f (n0 f t)).2.getD j 0 == t) = false) → (rowsF f (n0 f t)).1.getD i [] = getL (waysL f) t
theorem wayT (f t : Int) (h0 : 0 ≤ f) (h1 : f < 5) (h2 : 0 ≤ t) (h3 : t < 5) : WayT f t := by
  have h := tab_all f (in5 f h0 h1) t (in5 t h2 h3)
  unfold tabB at h
  simp only [Bool.and_eq_true, decide_eq_true_eq] at h
  obtain ⟨⟨⟨⟨a1, a2⟩, a3⟩, a4⟩, a5⟩ := h
  rw [List.all_eq_true] at a1 a2
  refine ⟨a3, fun n hn => ?_, fun n hn i hi => ?_, fun hall => ?_, fun i hi he hj => ?_⟩
  · have := a1 n (List.mem_range.2 (by omega))
    simp only [Bool.and_eq_true, decide_eq_true_eq, beq_iff_eq] at this
    obtain ⟨⟨b1, b2⟩, b3⟩ := this
    refine ⟨?_, b2, b3⟩
    unfold rowsF
    cases e : PLifeDoes.watchmanref05_ways.f 1500 f n with
    | none => rw [e] at b1; cases b1
    | some r => rfl
  · have := a2 n (List.mem_range.2 hn)
    rw [List.all_eq_true] at this
    have h' := this _ (List.getElem_mem hi)
    simp only [List.getD, List.getElem?_eq_getElem hi, Option.getD_some]
    simpa using h'
  · rw [List.any_eq_true] at a4
    obtain ⟨x, hx, hxt⟩ := a4
    obtain ⟨i, hi, rfl⟩ := List.mem_iff_getElem.1 hx
    have := hall i hi
    simp only [List.getD, List.getElem?_eq_getElem hi, Option.getD_some] at this
    rw [hxt] at this
    cases this
  · unfold firstB at a5
    rw [List.all_eq_true] at a5
    have := a5 i (List.mem_range.2 hi)
    simp only [he, Bool.not_true, Bool.false_or, Bool.or_eq_true, List.any_eq_true, beq_iff_eq] at this
    rcases this with ⟨j, hjm, hje⟩ | h
    · have := hj j (List.mem_range.1 hjm)
      rw [hje] at this
      simp at this
    · exact h
theorem grow_of_below {w w' : World} (h : Below w.heap.size w w') : w.grownBy w' none := ⟨h.os, h.tape, h.output, h.size, fun k hk _ => h.block k hk⟩

set_option maxHeartbeats 1000000 in
set_option maxRecDepth 100000 in
theorem wayref_in (f t : Int) (w : World) (h0 : 0 ≤ f) (h1 : f ≤ 4) (h2 : 0 ≤ t) (h3 : t ≤ 4) :
    Calls Try.prog 14 #[.int .i64 f, .int .i64 t] w fun e w' => ∃ A c, e = .returned (.tuple #[.slice A (getL (waysL f) t).length c, .bool true]) ∧ CI w' A (getL (waysL f) t) ∧ w.grownBy w' none := by
  have hT := wayT f t h0 (by omega) h2 (by omega)
  obtain ⟨N, hN⟩ : ∃ N, N = n0 f t := ⟨_, rfl⟩
  obtain ⟨t1, t2, t3, t4, t5⟩ := hT
  rw [← hN] at t1 t2 t3 t4 t5
  generalize getL (waysL f) t = l at *
  have T2 := Lib.hid t2
  have T3 := Lib.hid t3
  have T4 := Lib.hid t4
  have T5 := Lib.hid t5
  clear t2 t3 t4 t5 hN
  go_enter Try.func14, Try.ntmps14
  go_wp2_with fail
  go_loopw [6] (fun n wr => ∃ k : Nat, k ≤ N ∧ n = .int .i64 k ∧ w.grownBy wr none) (fun n _ => 5 - (intOf n).toNat)
  case atStart => exact ⟨0, Nat.zero_le _, rfl, .refl _ _⟩
  case round =>
    obtain ⟨k, hk, rfl, hg⟩ := hrel
    have hk3 : k ≤ 3 := by omega
    obtain ⟨e1, e2, e3⟩ := T2.out k hk
    have HC := Lib.hid (fun W => PLifeDoes.watchmanref05_ways.calls 1500 f k (rowsF f k).1 (rowsF f k).2 W e1)
    obtain ⟨rs, hrs⟩ : ∃ rs, rs = (rowsF f k).1 := ⟨_, rfl⟩
    obtain ⟨es, hes⟩ : ∃ es, es = (rowsF f k).2 := ⟨_, rfl⟩
    have T3' := Lib.hid (fun h => T3.out k h)
    have T4' := Lib.hid (fun h : k = N => by have := T4.out; rw [← h] at this; exact this)
    have T5' := Lib.hid (fun h : k = N => by have := T5.out; rw [← h] at this; exact this)
    rw [← hrs, ← hes] at HC T5'
    rw [← hes] at T3' T4'
    rw [← hrs] at e2
    rw [← hrs, ← hes] at e3
    clear hrs hes e1
    obtain ⟨m, hm⟩ : ∃ m, m = rs.length := ⟨_, rfl⟩
    go_wp2_with fail
    refine (HC.out _).mono ?_
    rintro e w1 ⟨v0, v1, rfl, hN, hR, hb⟩
    obtain ⟨A0, c0, rfl⟩ := Kd.N_slice hN
    obtain ⟨_, hc0, hC0⟩ := Kd.N_reads' hN
    obtain ⟨A1, c1, rfl, hc1, hC1⟩ := Kd.R_reads hR
    have hg1 := grow_trans hg (grow_of_below hb)
    have H0 := Lib.hid hC0
    have H1 := Lib.hid (ci_of_c hC1)
    have hm1 : m ≤ 1000 := by omega
    have HM := Lib.hid hm
    have HE := Lib.hid e3
    rw [← e3, ← hm]
    clear hN hR hC0 hC1 hb hg hc0 hc1 hm e3
    go_wp2_with fail
    go_loopw [9] (fun i wr2 => ∃ j : Nat, j ≤ m ∧ i = .int .i64 j ∧ Hid (∀ x, x < j → (es.getD x 0 == t) = false) ∧ wr2 = w1) (fun i _ => m - (intOf i).toNat)
    case atStart => exact ⟨0, Nat.zero_le _, rfl, fun x hx => absurd hx (by omega), rfl⟩
    case round =>
      obtain ⟨j, hj, rfl, HJ, rfl⟩ := hrel
      by_cases hlt : j < m
      · obtain ⟨b, off, hA, hbs, hcell⟩ := H1.out j (by rw [← HE.out, ← HM.out]; exact hlt)
        subst hA
        obtain ⟨x, hx⟩ : ∃ x, x = es.getD j 0 := ⟨_, rfl⟩
        rw [← hx] at hcell
        have HX := Lib.hid hx
        clear hx
        by_cases he : (x == t) = true
        · have hkN : k = N := by
            apply Classical.byContradiction
            intro hne
            have := T3'.out (by omega) j (by rw [← HE.out, ← HM.out]; exact hlt)
            rw [← HX.out, he] at this
            cases this
          have hfin := T5'.out hkN j (by rw [← HE.out, ← HM.out]; exact hlt) (by rw [← HX.out]; exact he) HJ
          obtain ⟨ad, Ax, cx, hAd, hcell2, hlx, hCx⟩ := PLifeDoes.at_L1 H0.out (j : Int) (by omega) (by have := HM.out; omega)
          have hrd : PLifeDoes.rd_L1 rs (j : Int) = l := by unfold PLifeDoes.rd_L1; rw [Int.toNat_natCast]; exact hfin
          rw [hrd] at hcell2 hCx
          rw [Int.toNat_natCast] at hcell2
          subst hAd
          obtain ⟨b0, off0, sp⟩ := ad
          have hsp : sp = none := by
            cases sp with
            | none => rfl
            | some s =>
              obtain ⟨ad', Ax', cx', hAd', hcell2', _⟩ := PLifeDoes.at_L1 H0.out 0 (by omega) (by have := HM.out; omega)
              injection hAd' with hAd'
              subst hAd'
              simp [World.cell?, Addr.add] at hcell2'
              split at hcell2' <;> simp at hcell2'
          subst hsp
          rw [add_at] at hcell2
          have HF := Lib.hid (And.intro hCx hg1)
          clear hfin hrd hCx hlx hkN hg1 hbs
          go_wp2_with fail
          go_ret2
          exact ⟨Ax, cx, rfl, ci_of_c HF.out.1, HF.out.2⟩
        · have he' : (x == t) = false := by simpa using he
          have HJ' : Hid (∀ x, x < j + 1 → (es.getD x 0 == t) = false) := by
            intro y hx
            by_cases hxj : y = j
            · subst hxj; rw [← HX.out]; exact he'
            · exact HJ.out y (by omega)
          clear HJ he hbs hg1
          go_wp2_with fail
          go_roundw
          case rel => exact ⟨j + 1, by omega, by go_num, HJ', trivial⟩
          case measure => simp [intOf]; omega
      · have hne : k < N := by
          apply Classical.byContradiction
          intro hne
          have hkN : k = N := by omega
          exact T4'.out hkN (fun i hi => HJ.out i (by rw [← HE.out, ← HM.out] at hi; omega))
        go_wp2_with fail
        go_roundw
        case rel => exact ⟨k + 1, by omega, by go_num, hg1⟩
        case measure => simp [intOf]; omega
end Go.Proofs.Ytfdaepicbgiamaa
