/- The law LifeDoes, as a contract. -/
import Derived.Test.YtfdaepicbgiamaaU
namespace Go.Proofs.Ytfdaepicbgiamaa
open Go.RowKit Go.Proofs.YtfdaepicbgiamaaW.PrintWords

/-- What Way and its reference make of two numbers: one row, one answer. -/
def wayV (f t : Int) : List Int := if 0 ≤ f ∧ f < 5 ∧ 0 ≤ t ∧ t < 5 then getL (waysL f) t else []
def wayO (f t : Int) : Bool := decide (0 ≤ f ∧ f < 5 ∧ 0 ≤ t ∧ t < 5)
theorem way_len (f t : Int) : (wayV f t).length ≤ 3 := by
  unfold wayV
  split
  · rename_i h
    have := way_all f (in5 f h.1 h.2.1) t (in5 t h.2.2.1 h.2.2.2)
    simp only [wayB, Bool.and_eq_true, decide_eq_true_eq] at this
    exact this.1.2
  · simp
theorem way_any (f t : Int) (w : World) :
    Calls Try.prog 13 #[.int .i64 f, .int .i64 t] w fun e w' => ∃ A c, e = .returned (.tuple #[.slice A (wayV f t).length c, .bool (wayO f t)]) ∧ CI w' A (wayV f t) ∧ w.grownBy w' none := by
  by_cases h : 0 ≤ f ∧ f < 5 ∧ 0 ≤ t ∧ t < 5
  · have e1 : wayV f t = getL (waysL f) t := if_pos h
    have e2 : wayO f t = true := by simp [wayO, h]
    rw [e1, e2]
    exact way_in f t w h.1 h.2.1 h.2.2.1 h.2.2.2
  · have e1 : wayV f t = [] := if_neg h
    have e2 : wayO f t = false := by simpa [wayO] using h
    rw [e1, e2]
    exact (way_out f t w (by omega)).mono fun e w' ⟨he, hw⟩ => ⟨none, 0, he, fun j hj => by simp at hj, by subst hw; exact .refl _ _⟩
theorem wayref_any (f t : Int) (w : World) :
    Calls Try.prog 14 #[.int .i64 f, .int .i64 t] w fun e w' => ∃ A c, e = .returned (.tuple #[.slice A (wayV f t).length c, .bool (wayO f t)]) ∧ CI w' A (wayV f t) ∧ w.grownBy w' none := by
  by_cases h : 0 ≤ f ∧ f < 5 ∧ 0 ≤ t ∧ t < 5
  · have e1 : wayV f t = getL (waysL f) t := if_pos h
    have e2 : wayO f t = true := by simp [wayO, h]
    rw [e1, e2]
    exact wayref_in f t w h.1 (by omega) h.2.2.1 (by omega)
  · have e1 : wayV f t = [] := if_neg h
    have e2 : wayO f t = false := by simpa [wayO] using h
    rw [e1, e2]
    exact (wayref_out f t w (by omega)).mono fun e w' ⟨he, hw⟩ => ⟨none, 0, he, fun j hj => by simp at hj, by subst hw; exact .refl _ _⟩
def reachL (f : Int) : List Int := if 0 ≤ f ∧ f < 5 then [0, 1, 2, 3, 4] else []
theorem reach_len (f : Int) : (reachL f).length ≤ 5 := by unfold reachL; split <;> simp
theorem ci_of_own {w : World} {B n : Nat} {v : Value} {l : List Int} (h : w.ownsRow B 3 1 v n (ints l)) (hn : n = l.length) : ∃ A c, v = .slice A l.length c ∧ CI w A l := by
  subst hn
  obtain ⟨A, c, rfl, _⟩ := q_slice (q_of_own h)
  exact ⟨A, c, rfl, ci_of_q (q_of_own h)⟩
theorem reach_any (f : Int) (w : World) :
    Calls Try.prog 19 #[.int .i64 f] w fun e w' => ∃ A c, e = .returned (.slice A (reachL f).length c) ∧ CI w' A (reachL f) ∧ w.grownBy w' none := by
  by_cases h : 0 ≤ f ∧ f < 5
  · have e1 : reachL f = [0, 1, 2, 3, 4] := if_pos h
    rw [e1]
    refine (reach_in f w h.1 h.2).mono ?_
    rintro e w' ⟨v, rfl, ho, hg⟩
    obtain ⟨A, c, rfl, hc⟩ := ci_of_own ho rfl
    exact ⟨A, c, rfl, hc, hg⟩
  · have e1 : reachL f = [] := if_neg h
    rw [e1]
    exact (reach_out f w (by omega)).mono fun e w' ⟨he, hw⟩ => ⟨none, 0, he, fun j hj => by simp at hj, by subst hw; exact .refl _ _⟩
theorem reachref_any (f : Int) (w : World) :
    Calls Try.prog 20 #[.int .i64 f] w fun e w' => ∃ A c, e = .returned (.slice A (reachL f).length c) ∧ CI w' A (reachL f) ∧ w.grownBy w' none := by
  by_cases h : 0 ≤ f ∧ f < 5
  · have e1 : reachL f = [0, 1, 2, 3, 4] := if_pos h
    rw [e1]
    refine (reachref_in f w h.1 (by omega)).mono ?_
    rintro e w' ⟨v, rfl, ho, hg⟩
    obtain ⟨A, c, rfl, hc⟩ := ci_of_own ho rfl
    exact ⟨A, c, rfl, hc, hg⟩
  · have e1 : reachL f = [] := if_neg h
    rw [e1]
    exact (reachref_out f w (by omega)).mono fun e w' ⟨he, hw⟩ => ⟨none, 0, he, fun j hj => by simp at hj, by subst hw; exact .refl _ _⟩

set_option maxHeartbeats 2000000 in
set_option maxRecDepth 100000 in
theorem does_any (p d t : Int) (A : Option Addr) (c : Nat) (zs : List Int) (w : World) (hl : zs.length ≤ 200) (hcap : zs.length ≤ c) (hc : CI w A zs) :
    Calls Try.prog 3 #[.int .i64 p, .int .i64 d, .int .i64 t, .slice A zs.length c] w fun e w' => e = .returned (.bool true) ∧ w.grownBy w' none := by
  obtain ⟨m, hm⟩ : ∃ m, m = zs.length := ⟨_, rfl⟩
  have H8 := Lib.hid (fun W (h : CI W A zs) => own_any A c zs W h (by omega) hcap)
  have H11 := Lib.hid (fun W (h : CI W A zs) => run_any p A c zs W (by omega) h)
  have H12 := Lib.hid (fun A' c' W (h : CI W A' zs) (hc : zs.length ≤ c') => runref_any p A' c' zs W (by omega) h hc)
  have HS := Lib.hid (fun A' c' W (h : CI W A zs) (h' : CI W A' zs) => same_any A A' c c' zs zs W (by omega) (by omega) h h')
  rw [← hm] at H8 H11 H12 HS
  have hl' : m ≤ 200 := by omega
  rw [← hm]
  have HC := Lib.hid hc
  clear hc hm hl hcap
  generalize runL p 0 zs = q at *
  obtain ⟨q1, q2⟩ := q
  have HW := Lib.hid (fun W => way_any p t W)
  have HWr := Lib.hid (fun W => wayref_any p t W)
  have hwl := way_len p t
  generalize wayV p t = wl at *
  generalize wayO p t = wo at *
  obtain ⟨n, hn⟩ : ∃ n, n = wl.length := ⟨_, rfl⟩
  have HSw := Lib.hid (fun A1 c1 A2 c2 W (h : CI W A1 wl) (h' : CI W A2 wl) => same_any A1 A2 c1 c2 wl wl W (by omega) (by omega) h h')
  rw [← hn] at HW HWr HSw
  have hn3 : n ≤ 3 := by omega
  clear hn hwl
  have HR := Lib.hid (fun W => reach_any p W)
  have HRr := Lib.hid (fun W => reachref_any p W)
  have hrl := reach_len p
  generalize reachL p = rl at *
  obtain ⟨r, hr⟩ : ∃ r, r = rl.length := ⟨_, rfl⟩
  have HSr := Lib.hid (fun A1 c1 A2 c2 W (h : CI W A1 rl) (h' : CI W A2 rl) => same_any A1 A2 c1 c2 rl rl W (by omega) (by omega) h h')
  rw [← hr] at HR HRr HSr
  have hr5 : r ≤ 5 := by omega
  clear hr hrl
  go_enter Try.func3, Try.ntmps3
  go_wp2_with fail
  refine (H8.out _ HC.out).mono ?_
  rintro e w1 ⟨Ao, co, rfl, hco, hlo, g1⟩
  have HO := Lib.hid (And.intro hco hlo)
  clear hco hlo
  go_wp2_with fail
  refine (next_any _ _ _).mono ?_
  rintro e w2 ⟨rfl, g2⟩
  have g := grow_trans g1 g2
  have gO := g2
  clear g1 g2
  go_wp2_with fail
  refine (nextref_any _ _ _).mono ?_
  rintro e w3 ⟨rfl, g3⟩
  replace g := grow_trans g g3
  replace gO := grow_trans gO g3
  clear g3
  go_wp2_with fail
  refine (H11.out _ (HC.out.grow g)).mono ?_
  rintro e w4 ⟨rfl, g3⟩
  replace g := grow_trans g g3
  replace gO := grow_trans gO g3
  clear g3
  go_wp2_with fail
  refine (H12.out _ _ _ (HO.out.1.grow gO) (by have := HO.out.2; omega)).mono ?_
  rintro e w5 ⟨rfl, g3⟩
  replace g := grow_trans g g3
  replace gO := grow_trans gO g3
  clear g3
  go_wp2_with fail
  refine (HW.out _).mono ?_
  rintro e w6 ⟨Ax, cx, rfl, hx, g3⟩
  replace g := grow_trans g g3
  replace gO := grow_trans gO g3
  clear g3
  go_wp2_with fail
  refine (HWr.out _).mono ?_
  rintro e w7 ⟨Ay, cy, rfl, hy, g3⟩
  replace g := grow_trans g g3
  replace gO := grow_trans gO g3
  replace hx := hx.grow g3
  clear g3
  go_wp2_with fail
  refine (name_is _ _).mono ?_
  rintro e w8 ⟨rfl, rfl⟩
  go_wp2_with fail
  refine (nameref_any _ _).mono ?_
  rintro e w9 ⟨rfl, g3⟩
  replace g := grow_trans g g3
  replace gO := grow_trans gO g3
  replace hx := hx.grow g3
  replace hy := hy.grow g3
  have HXY := Lib.hid (And.intro hx hy)
  have G := Lib.hid (And.intro g gO)
  clear g3 hx hy g gO
  go_wp2_with fail
  refine (HSw.out _ _ _ _ _ HXY.out.1 HXY.out.2).mono ?_
  rintro e wA ⟨rfl, g3⟩
  go_wp2_with fail
  refine (lived_any _).mono ?_
  rintro e wB ⟨rfl, g4⟩
  replace g3 := grow_trans g3 g4
  clear g4
  go_wp2_with fail
  refine (HR.out _).mono ?_
  rintro e wC ⟨Ar, cr, rfl, hr1, g4⟩
  replace g3 := grow_trans g3 g4
  clear g4
  go_wp2_with fail
  refine (HRr.out _).mono ?_
  rintro e wD ⟨As, cs, rfl, hr2, g4⟩
  replace g3 := grow_trans g3 g4
  replace hr1 := hr1.grow g4
  have HRR := Lib.hid (And.intro hr1 hr2)
  clear g4 hr1 hr2
  go_wp2_with fail
  refine (HSr.out _ _ _ _ _ HRR.out.1 HRR.out.2).mono ?_
  rintro e wE ⟨rfl, g4⟩
  replace g3 := grow_trans g3 g4
  clear g4
  go_wp2_with fail
  refine (HS.out _ _ _ (HC.out.grow (grow_trans G.out.1 g3)) (HO.out.1.grow (grow_trans G.out.2 g3))).mono ?_
  rintro e wF ⟨rfl, g4⟩
  replace g3 := grow_trans g3 g4
  clear g4
  go_wp2_with fail
  go_ret
  exact ⟨rfl, grow_trans G.out.1 g3⟩

theorem does_big (p d t : Int) (A : Option Addr) (m c : Nat) (w : World) (hl : 200 < m) (hm : m ≤ 9223372036854775807) :
    Calls Try.prog 3 #[.int .i64 p, .int .i64 d, .int .i64 t, .slice A m c] w fun e w' => e = .returned (.bool true) ∧ w = w' := by
  go_enter Try.func3, Try.ntmps3
  go_wp2_with fail
  go_ret
  exact ⟨rfl, rfl⟩
end Go.Proofs.Ytfdaepicbgiamaa
