/- The law LifeWays, as a contract. -/
import Derived.Test.YtfdaepicbgiamaaP
namespace Go.Proofs.Ytfdaepicbgiamaa
open Go.RowKit

def wayB (f t : Int) : Bool := let l := getL (waysL f) t; (runL f 0 l == (t, (l.length : Int))) && decide (l.length ≤ 3) && ((l.length == 0) == (f == t))
def finB (f t d m : Int) : Bool := let l := getL (waysL f) t; (!nxo f d || (nxv f d != t) || decide (l.length ≤ 1)) && (!nxo f d || !nxo (nxv f d) m || (nxv (nxv f d) m != t) || decide (l.length ≤ 2))
theorem way_all : ∀ f ∈ [0, 1, 2, 3, 4], ∀ t ∈ [0, 1, 2, 3, 4], wayB f t = true := by decide +kernel
theorem fin_all : ∀ f ∈ [0, 1, 2, 3, 4], ∀ t ∈ [0, 1, 2, 3, 4], ∀ d ∈ [1, 2, 3, 4, 5, 6], ∀ m ∈ [0, 1, 2, 3, 4, 5, 6], finB f t d m = true := by decide +kernel
theorem in5 (f : Int) (h0 : 0 ≤ f) (h1 : f < 5) : f ∈ [0, 1, 2, 3, 4] := by
  obtain rfl | rfl | rfl | rfl | rfl : f = 0 ∨ f = 1 ∨ f = 2 ∨ f = 3 ∨ f = 4 := by omega
  all_goals simp
theorem in6 (d : Int) (h0 : 1 ≤ d) (h1 : d < 7) : d ∈ [1, 2, 3, 4, 5, 6] := by
  obtain rfl | rfl | rfl | rfl | rfl | rfl : d = 1 ∨ d = 2 ∨ d = 3 ∨ d = 4 ∨ d = 5 ∨ d = 6 := by omega
  all_goals simp
theorem nxo_out (p d : Int) (h : ¬ (1 ≤ d ∧ d < 7)) : nxo p d = false := by simp [nxo]; intros; omega
theorem fin_any (f t d m : Int) (h0 : 0 ≤ f) (h1 : f < 5) (h2 : 0 ≤ t) (h3 : t < 5) : finB f t d m = true := by
  by_cases hd : 1 ≤ d ∧ d < 7
  · by_cases hm : 1 ≤ m ∧ m < 7
    · exact fin_all f (in5 f h0 h1) t (in5 t h2 h3) d (in6 d hd.1 hd.2) m (List.mem_cons_of_mem _ (in6 m hm.1 hm.2))
    · have e : finB f t d m = finB f t d 0 := by simp [finB, nxo_out _ m hm, nxo_out _ 0 (by omega)]
      rw [e]
      exact fin_all f (in5 f h0 h1) t (in5 t h2 h3) d (in6 d hd.1 hd.2) 0 (by simp)
  · simp [finB, nxo_out _ d hd]
theorem fin_cases (f t d m : Int) (h0 : 0 ≤ f) (h1 : f < 5) (h2 : 0 ≤ t) (h3 : t < 5) : nxo f d = false ∨
    (nxo f d = true ∧ ((nxv f d != t) = true ∨ ((nxv f d != t) = false ∧ (getL (waysL f) t).length ≤ 1)) ∧
      (nxo (nxv f d) m = false ∨ (nxo (nxv f d) m = true ∧ ((nxv (nxv f d) m != t) = true ∨ ((nxv (nxv f d) m != t) = false ∧ (getL (waysL f) t).length ≤ 2))))) := by
  have h := fin_any f t d m h0 h1 h2 h3
  simp only [finB] at h
  generalize nxo f d = b1 at *
  generalize nxo (nxv f d) m = b2 at *
  generalize (nxv f d != t) = c1 at *
  generalize (nxv (nxv f d) m != t) = c2 at *
  cases b1 <;> cases b2 <;> cases c1 <;> cases c2 <;> simp at h ⊢ <;> first | omega | exact h

theorem ret_bool {a b : Bool} (h : a = b) : Ending.returned (.bool a) = .returned (.bool b) := by rw [h]
set_option maxHeartbeats 1000000 in
theorem ways_law_in (f t d m : Int) (w : World) (h0 : 0 ≤ f) (h1 : f < 5) (h2 : 0 ≤ t) (h3 : t < 5) :
    Calls Try.prog 5 #[.int .i64 f, .int .i64 t, .int .i64 d, .int .i64 m] w fun e w' => e = .returned (.bool true) ∧ w.grownBy w' none := by
  have hw := way_all f (in5 f h0 h1) t (in5 t h2 h3)
  simp only [wayB, Bool.and_eq_true, beq_iff_eq, decide_eq_true_eq] at hw
  obtain ⟨⟨hr, hl⟩, he⟩ := hw
  have HW := Lib.hid (fun W => way_in f t W h0 h1 h2 h3)
  have hf := fin_cases f t d m h0 h1 h2 h3
  generalize getL (waysL f) t = l at *
  obtain ⟨n, hn⟩ : ∃ n, n = l.length := ⟨_, rfl⟩
  have HR := Lib.hid (fun A c W (h : CI W A l) => run_any f A c l W (by omega) h)
  rw [← hn] at hl he hf
  have hr' : runL f 0 l = (t, (n : Int)) := by rw [hr, hn]
  rw [hr'] at HR
  simp only at HR
  rw [← hn] at HW HR
  have hle4 : f ≤ 4 := by omega
  have hle5 : t ≤ 4 := by omega
  have e1 : (t != t) = false := by simp
  have e2 : ((n : Int) != (n : Int)) = false := by simp
  have e4 : ((n : Int) == 0) = (n == 0) := by rw [Bool.eq_iff_iff]; simp
  have hb : ∃ b : Bool, (n == 0) = b ∧ (f == t) = b := ⟨_, rfl, he.symm⟩
  obtain ⟨b, hb1, hb2⟩ := hb
  rw [hb1] at e4
  clear hr hr' he hn
  have HF : ∃ b1 : Bool, nxo f d = b1 := ⟨_, rfl⟩
  rcases hf with b1 | ⟨b1, c1 | ⟨c1, d1⟩, b2 | ⟨b2, c2 | ⟨c2, d2⟩⟩⟩
  all_goals
    clear HF
    cases b
    all_goals
      go_enter Try.func5, Try.ntmps5
      go_wp2_with fail
      refine (HW.out _).mono ?_
      rintro e w1 ⟨A, c, rfl, hc, g1⟩
      go_wp2_with fail
      refine (HR.out _ _ _ hc).mono ?_
      rintro e w2 ⟨rfl, g2⟩
      clear hc
      go_wp2_with fail
      refine (next_any _ _ _).mono ?_
      rintro e w3 ⟨rfl, g3⟩
      go_wp2_with fail
      refine (next_any _ _ _).mono ?_
      rintro e w4 ⟨rfl, g4⟩
      go_wp2_with fail
      refine (lived_any _).mono ?_
      rintro e w5 ⟨rfl, g5⟩
      have g := grow_trans (grow_trans g1 g2) (grow_trans g3 (grow_trans g4 g5))
      clear g1 g2 g3 g4 g5
      go_wp2_with fail
      go_ret
      exact ⟨ret_bool (by first | rfl | (simp; omega)), g⟩
theorem ways_law_out (f t d m : Int) (w : World) (h : f < 0 ∨ 5 ≤ f ∨ t < 0 ∨ 5 ≤ t) :
    Calls Try.prog 5 #[.int .i64 f, .int .i64 t, .int .i64 d, .int .i64 m] w fun e w' => e = .returned (.bool true) ∧ w.grownBy w' none := by
  have hcases : f < 0 ∨ (0 ≤ f ∧ 5 ≤ f) ∨ (0 ≤ f ∧ f ≤ 4 ∧ t < 0) ∨ (0 ≤ f ∧ f ≤ 4 ∧ 0 ≤ t ∧ 5 ≤ t) := by omega
  have HW := Lib.hid (fun W => way_out f t W h)
  have HR := Lib.hid (fun W => run_any f none 0 [] W (by decide) (fun j hj => by simp at hj))
  have HL := Lib.hid lived_any
  clear h
  rcases hcases with h0 | ⟨h0, h1⟩ | ⟨h0, h1, h2⟩ | ⟨h0, h1, h2, h3⟩
  all_goals
    go_enter Try.func5, Try.ntmps5
    go_wp2_with fail
    refine (HW.out _).mono ?_
    rintro e w1 ⟨rfl, rfl⟩
    go_wp2_with fail
    refine (HR.out _).mono ?_
    rintro e w2 ⟨rfl, g2⟩
    go_wp2_with fail
    refine (HL.out _).mono ?_
    rintro e w5 ⟨rfl, g5⟩
    have g := grow_trans g2 g5
    clear g2 g5
    go_wp2_with fail
    go_ret
    exact ⟨ret_bool (by first | rfl | (simp; omega)), g⟩
theorem ways_law_any (f t d m : Int) (w : World) :
    Calls Try.prog 5 #[.int .i64 f, .int .i64 t, .int .i64 d, .int .i64 m] w fun e w' => e = .returned (.bool true) ∧ w.grownBy w' none := by
  by_cases h : 0 ≤ f ∧ f < 5 ∧ 0 ≤ t ∧ t < 5
  · exact ways_law_in f t d m w h.1 h.2.1 h.2.2.1 h.2.2.2
  · exact ways_law_out f t d m w (by omega)
end Go.Proofs.Ytfdaepicbgiamaa
