/- The law LifeCalm, as a contract. -/
import Derived.Test.YtfdaepicbgiamaaP
import Derived.ProofKit
namespace Go.Proofs.Ytfdaepicbgiamaa
open Go.RowKit

/-- A slice of integers that came in, as the frames tell it, reads as its first numbers. -/
theorem row_ci {w : World} {a : Option Addr} {len cap : Nat} {zs : List Int}
    (h : (a = none ∧ len = 0 ∧ cap = 0 ∧ zs = []) ∨ ∃ x, a = some x ∧ len ≤ cap ∧ cap ≤ maxLen ∧ zs.length = cap ∧ (∀ i, i < zs.length → w.cell? (x.add i) = some (.int .i64 (zs.getD i 0))) ∧ ∀ n ∈ zs, (Lit.int .i64 n).wf = true) :
    len = (zs.take len).length ∧ CI w a (zs.take len) := by
  rcases h with ⟨rfl, rfl, rfl, rfl⟩ | ⟨x, rfl, hl, _, hz, hc, _⟩
  · exact ⟨rfl, fun j hj => by simp at hj⟩
  · have hlen : len = (zs.take len).length := by rw [List.length_take]; omega
    refine ⟨hlen, fun j hj => ?_⟩
    have hjz : j < zs.length := by omega
    have hjl : j < len := by omega
    obtain ⟨b, off, spot⟩ := x
    cases spot with
    | some s =>
      have h00 := hc 0 (by omega)
      simp [World.cell?, Addr.add] at h00; split at h00 <;> simp at h00
    | none =>
      have h0 := hc j hjz
      rw [Go.Proofs.YtfdaepicbgiamaaW.PrintWords.add_at] at h0
      refine ⟨b, off, rfl, block_lt_of_cell h0, ?_⟩
      rw [h0]
      simp [List.getD, hjl]

def calm0 (p : Int) : Bool := p == 0 || (p == 3 || p == 4)
def calmL (p : Int) (zs : List Int) : Bool := calm0 p && zs.all (fun d => d != 1 && d != 6)
def loudL (p : Int) (zs : List Int) : Bool := (p != 4) && zs.all (fun d => d != 4)
theorem calm_snoc (p : Int) (zs : List Int) (d : Int) : calmL p (zs ++ [d]) = (calmL p zs && (d != 1 && d != 6)) := by simp [calmL, Bool.and_assoc]
theorem loud_snoc (p : Int) (zs : List Int) (d : Int) : loudL p (zs ++ [d]) = (loudL p zs && (d != 4)) := by simp [loudL, Bool.and_assoc]

theorem nxo_cases (p d : Int) (h : nxo p d = true) : (p = 0 ∨ p = 1 ∨ p = 2 ∨ p = 3 ∨ p = 4) ∧ (d = 1 ∨ d = 2 ∨ d = 3 ∨ d = 4 ∨ d = 5 ∨ d = 6) := by
  simp [nxo] at h; omega
theorem calm_step (p d : Int) (hp : calm0 p = true) (hd : (d != 1 && d != 6) = true) (h : nxo p d = true) : calm0 (nxv p d) = true := by
  obtain ⟨hp', hd'⟩ := nxo_cases p d h
  rcases hp' with rfl | rfl | rfl | rfl | rfl <;> rcases hd' with rfl | rfl | rfl | rfl | rfl | rfl <;> revert hp hd h <;> decide
theorem loud_step (p d : Int) (hp : (p != 4) = true) (hd : (d != 4) = true) (h : nxo p d = true) : (nxv p d != 4) = true := by
  obtain ⟨hp', hd'⟩ := nxo_cases p d h
  rcases hp' with rfl | rfl | rfl | rfl | rfl <;> rcases hd' with rfl | rfl | rfl | rfl | rfl | rfl <;> revert hp hd h <;> decide
theorem calm_run : ∀ (zs : List Int) (p n : Int), calm0 p = true → zs.all (fun d => d != 1 && d != 6) = true → calm0 (runL p n zs).1 = true
  | [], _, _, hp, _ => hp
  | d :: zs, p, n, hp, h => by
    simp only [List.all_cons, Bool.and_eq_true] at h
    simp only [runL]
    split
    · exact calm_run zs _ _ (calm_step p d hp (by simpa using h.1) (by assumption)) (by simpa using h.2)
    · exact calm_run zs _ _ hp (by simpa using h.2)
theorem loud_run : ∀ (zs : List Int) (p n : Int), (p != 4) = true → zs.all (fun d => d != 4) = true → ((runL p n zs).1 != 4) = true
  | [], _, _, hp, _ => hp
  | d :: zs, p, n, hp, h => by
    simp only [List.all_cons, Bool.and_eq_true] at h
    simp only [runL]
    split
    · exact loud_run zs _ _ (loud_step p d hp h.1 (by assumption)) h.2
    · exact loud_run zs _ _ hp h.2
theorem calm_fin (p : Int) (zs : List Int) (h : calmL p zs = true) : ((runL p 0 zs).1 != 1) = true ∧ ((runL p 0 zs).1 != 2) = true := by
  simp only [calmL, Bool.and_eq_true] at h
  have := calm_run zs p 0 h.1 h.2
  generalize (runL p 0 zs).1 = q at *
  simp [calm0] at this
  simp
  omega
theorem loud_fin (p : Int) (zs : List Int) (h : loudL p zs = true) : ((runL p 0 zs).1 != 4) = true := by
  simp only [loudL, Bool.and_eq_true] at h
  exact loud_run zs p 0 h.1 h.2

set_option maxHeartbeats 1000000 in
theorem calm_any (p : Int) (A : Option Addr) (c : Nat) (zs : List Int) (w : World) (hl : zs.length ≤ 200) (hc : CI w A zs) :
    Calls Try.prog 7 #[.int .i64 p, .slice A zs.length c] w fun e w' => e = .returned (.bool true) ∧ w.grownBy w' none := by
  obtain ⟨m, hm⟩ : ∃ m, m = zs.length := ⟨_, rfl⟩
  have hl' : m ≤ 200 := by omega
  have hg : ¬ 200 < m := by omega
  rw [← hm]
  have HM := Lib.hid hm
  have HC := Lib.hid hc
  clear hm hl hc
  have hinit : ∃ b1 b2 b3 b4 b5 : Bool, ((p == 0) = b1 ∧ (p == 3) = b2 ∧ (p == 4) = b3 ∧ (p != 4) = b4 ∧ calm0 p = b5) ∧
      ((b1, b2, b3, b4, b5) = (true, false, false, true, true) ∨ (b1, b2, b3, b4, b5) = (false, true, false, true, true) ∨ (b1, b2, b3, b4, b5) = (false, false, true, false, true) ∨ (b1, b2, b3, b4, b5) = (false, false, false, true, false)) := by
    refine ⟨_, _, _, _, _, ⟨rfl, rfl, rfl, rfl, rfl⟩, ?_⟩
    by_cases h0 : p = 0
    · subst h0; decide
    · by_cases h3 : p = 3
      · subst h3; decide
      · by_cases h4 : p = 4
        · subst h4; decide
        · have h1 : (p == 0) = false := by simpa using h0
          have h2 : (p == 3) = false := by simpa using h3
          have h3' : (p == 4) = false := by simpa using h4
          have h4' : (p != 4) = true := by simpa using h4
          simp [calm0, h1, h2, h3', h4']
  obtain ⟨b1, b2, b3, b4, b5, ⟨i1, i2, i3, i4, i5⟩, hh⟩ := hinit
  have I4 := Lib.hid i4
  have I5 := Lib.hid i5
  clear i5
  rcases hh with hh | hh | hh | hh
  all_goals
    simp only [Prod.mk.injEq] at hh
    obtain ⟨rfl, rfl, rfl, rfl, rfl⟩ := hh
    go_enter Try.func7, Try.ntmps7
    go_wp2_with fail
    go_loopw [5, 6, 7] (fun cv lv i wr => ∃ k : Nat, k ≤ m ∧ i = .int .i64 k ∧ cv = .bool (calmL p (zs.take k)) ∧ lv = .bool (loudL p (zs.take k)) ∧ wr = w) (fun _ _ i _ => m - (intOf i).toNat)
    case atStart => exact ⟨0, Nat.zero_le _, rfl, by simp [calmL, I5.out], by simp [loudL, I4.out], rfl⟩
    case round =>
      clear i1 i2 i3 i4
      obtain ⟨k, hk, rfl, rfl, rfl, rfl⟩ := hrel
      by_cases hlt : k < m
      · obtain ⟨b, off, hA, hbs, hcell⟩ := HC.out k (by rw [← HM.out]; exact hlt)
        subst hA
        have HT := Lib.hid (take_succ zs k (by rw [← HM.out]; exact hlt))
        generalize zs.getD k 0 = x at *
        have HS1 := Lib.hid (calm_snoc p (zs.take k) x)
        have HS2 := Lib.hid (loud_snoc p (zs.take k) x)
        generalize calmL p (zs.take k) = cb at *
        generalize loudL p (zs.take k) = lb at *
        have hx : ∃ b, (x != 1) = b := ⟨_, rfl⟩
        obtain ⟨b, hb⟩ := hx
        have HB := Lib.hid hb
        cases cb <;> cases lb <;> cases b
        all_goals
          go_wp2_with fail
          go_roundw
          case rel => exact ⟨k + 1, by omega, by go_num, by rw [HT.out, HS1.out]; simp [HB.out], by rw [HT.out, HS2.out]; simp, trivial⟩
          case measure => simp [intOf]; omega
      · have e1 : zs.take k = zs := List.take_of_length_le (by rw [← HM.out]; omega)
        rw [e1]
        have hrun := fun W => run_any p A c zs W
        rw [← HM.out] at hrun
        have hn : (runL p 0 zs).2 ≤ (m : Int) := by have := (runL_le zs p 0).2; rw [← HM.out] at this; omega
        have hcf := calm_fin p zs
        have hlf := loud_fin p zs
        have HR := Lib.hid hrun
        generalize runL p 0 zs = q at *
        obtain ⟨q, n⟩ := q
        simp only at hn hcf hlf
        generalize calmL p zs = cb at *
        generalize loudL p zs = lb at *
        clear e1 hrun
        cases cb <;> cases lb
        all_goals
          simp only [true_imp_iff, Bool.false_eq_true, false_imp_iff] at hcf hlf
          go_wp2_with fail
          refine (HR.out _ (by omega) HC.out).mono ?_
          rintro e w1 ⟨rfl, g1⟩
          go_wp2_with fail
          refine (lived_any _).mono ?_
          rintro e w2 ⟨rfl, g2⟩
          go_wp2_with fail
          go_ret
          exact ⟨rfl, grow_trans g1 g2⟩
theorem calm_big (p : Int) (A : Option Addr) (m c : Nat) (w : World) (hl : 200 < m) (hm : m ≤ 9223372036854775807) :
    Calls Try.prog 7 #[.int .i64 p, .slice A m c] w fun e w' => e = .returned (.bool true) ∧ w = w' := by
  go_enter Try.func7, Try.ntmps7
  go_wp2_with fail
  go_ret
  exact ⟨rfl, rfl⟩
end Go.Proofs.Ytfdaepicbgiamaa
