/- Contract of the law TallyMeets. -/
import Derived.Test.YtiamkjokiapanaaDoorF
namespace Go.Proofs.YtiamkjokiapanaaDoor
open Go.RowKit Go.Proofs.YtiamkjokiapanaaDoorW.PrintWords

def metB (a b : Nat) : Nat → Bool
  | 0 => false
  | k + 1 => metB a b k || (hasN a (k : Int) && hasN b (k : Int))
theorem metB_true (a b : Nat) : ∀ (k i : Nat), i < k → hasN a (i : Int) = true → hasN b (i : Int) = true → metB a b k = true
  | 0, _, h, _, _ => by omega
  | k + 1, i, h, ha, hb => by
    rw [metB]
    by_cases e : i = k
    · subst e; simp [ha, hb]
    · simp [metB_true a b k i (by omega) ha hb]
theorem enough_n (a : Nat) (n : Int) (h : enoughN a n = true) : 1 ≤ n ∧ n ≤ 7 := by
  simp only [enoughN, Bool.and_eq_true, decide_eq_true_eq] at h; exact h.1

set_option maxHeartbeats 1000000 in
theorem meets_any (a b n : Int) (w : World) (hn : (Lit.int .i64 n).wf = true) (hT : TabAt 1 Lib.deBruijn64tab w) (hg : 1 < w.heap.size) :
    Calls Tryd.prog 5 #[.int .i64 a, .int .i64 b, .int .i64 n] w fun e w' => e = .returned (.bool true) ∧ w.grownBy w' none := by
  have HT := Lib.hid (fun W (g : w.grownBy W none) => counted_any W (tab_grow hT g hg) (Nat.lt_of_lt_of_le hg g.size))
  have HE := Lib.hid (fun k (h1 : n ≤ ((k : Nat) : Int) ∨ 7 ≤ k) (ha : enoughN (rt a) n = true) (hb : enoughN (rt b) n = true) => by
    obtain ⟨i, i1, i2, i3, i4⟩ := meets _ _ _ ha hb
    exact metB_true (rt a) (rt b) k i (by omega) (by simp [hasN, i3]; omega) (by simp [hasN, i4]; omega))
  have HEA := Lib.hid (fun W => enough_any a n W)
  have HEB := Lib.hid (fun W => enough_any b n W)
  have HN := Lib.hid (enough_n (rt a) n)
  have HA := Lib.hid (fun x W => has_any a x W)
  have HB := Lib.hid (fun x W => has_any b x W)
  clear hT hg
  generalize rt a = qa at *
  generalize rt b = qb at *
  have g0 := World.grownBy.refl w none
  go_enter Tryd.func5, Tryd.ntmps5
  go_wp2_with fail
  go_loopw [7, 8] (fun v i wr => ∃ k : Nat, k ≤ 7 ∧ i = .int .i64 k ∧ v = .bool (metB qa qb k) ∧ wr = w) (fun _ i _ => 7 - (intOf i).toNat)
  case atStart => exact ⟨0, by omega, rfl, rfl, rfl⟩
  case round =>
    obtain ⟨k, hk, rfl, rfl, rfl⟩ := hrel
    by_cases h1 : (k : Int) < n
    · by_cases h2 : k < 7
      · have h2' : (k : Int) < 7 := by omega
        have HM := Lib.hid (show metB qa qb (k + 1) = (metB qa qb k || (hasN qa (k : Int) && hasN qb (k : Int))) from rfl)
        generalize metB qa qb k = v at *
        have HAk := Lib.hid (HA.out k)
        have HBk := Lib.hid (HB.out k)
        generalize hasN qa (k : Int) = p at *
        generalize hasN qb (k : Int) = q at *
        cases v
        · cases p
          · go_wp2_with fail
            refine (HAk.out _).mono ?_
            rintro e w1 ⟨rfl, rfl⟩
            go_wp2_with fail
            go_roundw
            case rel => exact ⟨k + 1, by omega, by go_num, by rw [HM.out]; rfl, trivial⟩
            case measure => simp [intOf]; omega
          · go_wp2_with fail
            refine (HAk.out _).mono ?_
            rintro e w1 ⟨rfl, rfl⟩
            go_wp2_with fail
            refine (HBk.out _).mono ?_
            rintro e w1 ⟨rfl, rfl⟩
            go_wp2_with fail
            go_roundw
            case rel => exact ⟨k + 1, by omega, by go_num, by rw [HM.out]; rfl, trivial⟩
            case measure => simp [intOf]; omega
        · go_wp2_with fail
          go_roundw
          case rel => exact ⟨k + 1, by omega, by go_num, by rw [HM.out]; rfl, trivial⟩
          case measure => simp [intOf]; omega
      · have h2' : ¬ (k : Int) < 7 := by omega
        have HE := Lib.hid (HE.out k (.inr (by omega)))
        generalize metB qa qb k = v at *
        clear h2
        go_wp2_with fail
        refine (HT.out _ g0).mono ?_
        rintro e w1 ⟨rfl, g1⟩
        generalize enoughN qa n = ea at *
        generalize enoughN qb n = eb at *
        cases ea
        · go_wp2_with fail
          refine (HEA.out _).mono ?_
          rintro e w2 ⟨rfl, k1, rfl⟩
          go_wp2_with fail
          refine (HEA.out _).mono ?_
          rintro e w2 ⟨rfl, k2, rfl⟩
          go_wp2_with fail
          go_ret
          exact ⟨rfl, grow_trans g1 (grow_drewN _ _)⟩
        · obtain ⟨hn1, hn7⟩ := HN.out rfl
          cases eb
          · go_wp2_with fail
            refine (HEA.out _).mono ?_
            rintro e w2 ⟨rfl, k1, rfl⟩
            go_wp2_with fail
            refine (HEB.out _).mono ?_
            rintro e w2 ⟨rfl, k2, rfl⟩
            go_wp2_with fail
            refine (HEA.out _).mono ?_
            rintro e w2 ⟨rfl, k3, rfl⟩
            go_wp2_with fail
            go_ret
            exact ⟨rfl, grow_trans g1 (grow_drewN _ _)⟩
          · obtain rfl := HE.out rfl rfl
            go_wp2_with fail
            refine (HEA.out _).mono ?_
            rintro e w2 ⟨rfl, k1, rfl⟩
            go_wp2_with fail
            refine (HEB.out _).mono ?_
            rintro e w2 ⟨rfl, k2, rfl⟩
            go_wp2_with fail
            refine (HEA.out _).mono ?_
            rintro e w2 ⟨rfl, k3, rfl⟩
            go_wp2_with fail
            go_ret
            exact ⟨rfl, grow_trans g1 (grow_drewN _ _)⟩
    · have HE := Lib.hid (HE.out k (.inl (by omega)))
      generalize metB qa qb k = v at *
      go_wp2_with fail
      refine (HT.out _ g0).mono ?_
      rintro e w1 ⟨rfl, g1⟩
      generalize enoughN qa n = ea at *
      generalize enoughN qb n = eb at *
      cases ea
      · go_wp2_with fail
        refine (HEA.out _).mono ?_
        rintro e w2 ⟨rfl, k1, rfl⟩
        go_wp2_with fail
        refine (HEA.out _).mono ?_
        rintro e w2 ⟨rfl, k2, rfl⟩
        go_wp2_with fail
        go_ret
        exact ⟨rfl, grow_trans g1 (grow_drewN _ _)⟩
      · obtain ⟨hn1, hn7⟩ := HN.out rfl
        cases eb
        · go_wp2_with fail
          refine (HEA.out _).mono ?_
          rintro e w2 ⟨rfl, k1, rfl⟩
          go_wp2_with fail
          refine (HEB.out _).mono ?_
          rintro e w2 ⟨rfl, k2, rfl⟩
          go_wp2_with fail
          refine (HEA.out _).mono ?_
          rintro e w2 ⟨rfl, k3, rfl⟩
          go_wp2_with fail
          go_ret
          exact ⟨rfl, grow_trans g1 (grow_drewN _ _)⟩
        · obtain rfl := HE.out rfl rfl
          go_wp2_with fail
          refine (HEA.out _).mono ?_
          rintro e w2 ⟨rfl, k1, rfl⟩
          go_wp2_with fail
          refine (HEB.out _).mono ?_
          rintro e w2 ⟨rfl, k2, rfl⟩
          go_wp2_with fail
          refine (HEA.out _).mono ?_
          rintro e w2 ⟨rfl, k3, rfl⟩
          go_wp2_with fail
          go_ret
          exact ⟨rfl, grow_trans g1 (grow_drewN _ _)⟩
end Go.Proofs.YtiamkjokiapanaaDoor
