/- Contract of the law TallyShare. -/
import Derived.Test.YtiamkjokiapanaaDoorF
namespace Go.Proofs.YtiamkjokiapanaaDoor
open Go.RowKit Go.Proofs.YtiamkjokiapanaaDoorW.PrintWords

theorem adds_memb (a b : Nat) (hb : b < 128) : addsN a (membN b) = a ||| b := by
  apply Nat.eq_of_testBit_eq
  intro i
  rw [bit_adds, Nat.testBit_or, memb_has]
  by_cases h : i < 7
  · have h7 : (i : Int) < 7 := by omega
    simp [hasN, h, h7]
  · have : b.testBit i = false := Nat.testBit_lt_two_pow (Nat.lt_of_lt_of_le (show b < 2 ^ 7 from hb) (Nat.pow_le_pow_right (by omega) (by omega)))
    simp [h, this]
def shN (a b : Nat) : Nat → Nat
  | 0 => 0
  | k + 1 => shN a b k + (if hasN a (k : Int) && hasN b (k : Int) then 1 else 0)
theorem sh_le (a b : Nat) : ∀ k, shN a b k ≤ k
  | 0 => Nat.le_refl _
  | k + 1 => by have := sh_le a b k; rw [shN]; split <;> omega
theorem sh_size (a b : Nat) : shN a b 7 = sizeN (a &&& b) := by
  have e : ∀ i : Nat, i < 7 → (if hasN a (i : Int) && hasN b (i : Int) then 1 else 0) = bitN (a &&& b) i := fun i h => by
    have h7 : (i : Int) < 7 := by omega
    simp [hasN, bitN, h7, Nat.testBit_and]
  unfold sizeN
  rw [shN, shN, shN, shN, shN, shN, shN, shN, e 0 (by decide), e 1 (by decide), e 2 (by decide), e 3 (by decide), e 4 (by decide), e 5 (by decide), e 6 (by decide)]
  omega
theorem size7 (s : Nat) : sizeN s ≤ 7 := by
  unfold sizeN
  have := bit_le s 0; have := bit_le s 1; have := bit_le s 2; have := bit_le s 3; have := bit_le s 4; have := bit_le s 5; have := bit_le s 6
  omega
theorem has_both (a b : Nat) (x : Int) : hasN (addsN a (membN b)) x = (hasN a x || hasN b x) := by
  rw [has_adds, memb_has]
  congr 1
  unfold hasN
  cases decide (0 ≤ x ∧ x < 7) <;> simp
theorem memb_len (s : Nat) : (membN s).length ≤ 7 := by unfold membN; exact Nat.le_trans (List.length_filter_le _ _) (by decide)

set_option maxHeartbeats 1000000 in
theorem share_any (a b : Int) (w : World) (hT : TabAt 1 Lib.deBruijn64tab w) (hg : 1 < w.heap.size) :
    Calls Tryd.prog 7 #[.int .i64 a, .int .i64 b] w fun e w' => e = .returned (.bool true) ∧ w.grownBy w' none := by
  have HT := Lib.hid (fun W (g : w.grownBy W none) => counted_any W (tab_grow hT g hg) (Nat.lt_of_lt_of_le hg g.size))
  have HMB := Lib.hid (members_any b w hT hg)
  have HMA := Lib.hid (fun W (g : w.grownBy W none) => members_any a W (tab_grow hT g hg) (Nat.lt_of_lt_of_le hg g.size))
  have ha := rt_lt a
  have hb := rt_lt b
  have hlb := memb_len (rt b)
  have hla := memb_len (rt a)
  have hX : addsN (rt a) (membN (rt b)) < 128 := addsN_lt _ _ ha
  have hE : addsN (rt b) (membN (rt a)) = addsN (rt a) (membN (rt b)) := by rw [adds_memb _ _ hb, adds_memb _ _ ha, Nat.or_comm]
  have hS := size_or (rt a) (rt b)
  rw [← sh_size, ← adds_memb _ _ hb] at hS
  have HX := Lib.hid (fun x W => has_any ((addsN (rt a) (membN (rt b)) : Nat) : Int) x W)
  have HSX := Lib.hid (fun W => size_any ((addsN (rt a) (membN (rt b)) : Nat) : Int) W)
  simp only [rt_of _ hX] at HX HSX
  have HB2 := Lib.hid (has_both (rt a) (rt b))
  have HA := Lib.hid (fun x W => has_any a x W)
  have HB := Lib.hid (fun x W => has_any b x W)
  have HSA := Lib.hid (fun W => size_any a W)
  have HSB := Lib.hid (fun W => size_any b W)
  have HAA := Lib.hid (fun A c W h => add_any a A c (membN (rt b)) W (by omega) h)
  have HAB := Lib.hid (fun A c W h => add_any b A c (membN (rt a)) W (by omega) h)
  rw [hE] at HAB
  have s1 := size7 (rt a)
  have s2 := size7 (rt b)
  have s3 := size7 (addsN (rt a) (membN (rt b)))
  clear hE hX hlb hla ha hb hT hg
  generalize rt a = qa at *
  generalize rt b = qb at *
  generalize addsN qa (membN qb) = X at *
  go_enter Tryd.func7, Tryd.ntmps7
  go_wp2_with fail
  refine HMB.out.mono ?_
  rintro e w1 ⟨v, rfl, ho, hb1⟩
  have g1 := grow_of_below hb1
  obtain ⟨A, c, rfl, hci⟩ := ci_of_own ho rfl
  have HCI := Lib.hid hci
  clear ho hb1 hci
  go_wp2_with fail
  refine (HAA.out _ _ _ HCI.out).mono ?_
  rintro e w2 ⟨rfl, rfl⟩
  go_wp2_with fail
  go_loopw [6, 7] (fun v i wr => ∃ k : Nat, k ≤ 7 ∧ i = .int .i64 k ∧ v = .int .i64 (shN qa qb k) ∧ wr = w1) (fun _ i _ => 7 - (intOf i).toNat)
  case atStart => exact ⟨0, by omega, rfl, rfl, rfl⟩
  case round =>
    obtain ⟨k, hk, rfl, rfl, rfl⟩ := hrel
    have hsh := sh_le qa qb k
    by_cases h2 : k < 7
    · have h2' : (k : Int) < 7 := by omega
      have HM := Lib.hid (show shN qa qb (k + 1) = shN qa qb k + (if hasN qa (k : Int) && hasN qb (k : Int) then 1 else 0) from rfl)
      have HAk := Lib.hid (HA.out k)
      have HBk := Lib.hid (HB.out k)
      have HXk := Lib.hid (HX.out k)
      rw [HB2.out] at HXk
      generalize hasN qa (k : Int) = p at *
      generalize hasN qb (k : Int) = q at *
      generalize shN qa qb k = v at *
      clear HB2 HT HMA HX HA HB HSA HSB HSX HAA HAB
      cases p <;> cases q
      · go_wp2_with fail
        refine (HAk.out _).mono ?_
        rintro e w1 ⟨rfl, rfl⟩
        go_wp2_with fail
        refine (HXk.out _).mono ?_
        rintro e w1 ⟨rfl, rfl⟩
        go_wp2_with fail
        refine (HAk.out _).mono ?_
        rintro e w1 ⟨rfl, rfl⟩
        go_wp2_with fail
        refine (HBk.out _).mono ?_
        rintro e w1 ⟨rfl, rfl⟩
        go_wp2_with fail
        go_roundw
        case rel => exact ⟨k + 1, by omega, by go_num, by rw [HM.out]; rfl, trivial⟩
        case measure => simp [intOf]; omega
      · go_wp2_with fail
        refine (HAk.out _).mono ?_
        rintro e w1 ⟨rfl, rfl⟩
        go_wp2_with fail
        refine (HXk.out _).mono ?_
        rintro e w1 ⟨rfl, rfl⟩
        go_wp2_with fail
        refine (HAk.out _).mono ?_
        rintro e w1 ⟨rfl, rfl⟩
        go_wp2_with fail
        refine (HBk.out _).mono ?_
        rintro e w1 ⟨rfl, rfl⟩
        go_wp2_with fail
        go_roundw
        case rel => exact ⟨k + 1, by omega, by go_num, by rw [HM.out]; rfl, trivial⟩
        case measure => simp [intOf]; omega
      · go_wp2_with fail
        refine (HAk.out _).mono ?_
        rintro e w1 ⟨rfl, rfl⟩
        go_wp2_with fail
        refine (HBk.out _).mono ?_
        rintro e w1 ⟨rfl, rfl⟩
        go_wp2_with fail
        refine (HXk.out _).mono ?_
        rintro e w1 ⟨rfl, rfl⟩
        go_wp2_with fail
        refine (HAk.out _).mono ?_
        rintro e w1 ⟨rfl, rfl⟩
        go_wp2_with fail
        go_roundw
        case rel => exact ⟨k + 1, by omega, by go_num, by rw [HM.out]; rfl, trivial⟩
        case measure => simp [intOf]; omega
      · go_wp2_with fail
        refine (HAk.out _).mono ?_
        rintro e w1 ⟨rfl, rfl⟩
        go_wp2_with fail
        refine (HBk.out _).mono ?_
        rintro e w1 ⟨rfl, rfl⟩
        go_wp2_with fail
        refine (HXk.out _).mono ?_
        rintro e w1 ⟨rfl, rfl⟩
        go_wp2_with fail
        refine (HAk.out _).mono ?_
        rintro e w1 ⟨rfl, rfl⟩
        go_wp2_with fail
        go_roundw
        case rel => exact ⟨k + 1, by omega, by go_num, by rw [HM.out]; go_num, trivial⟩
        case measure => simp [intOf]; omega
    · obtain rfl : k = 7 := by omega
      clear h2
      generalize shN qa qb 7 = v at *
      generalize sizeN X = nX at *
      generalize sizeN qa = na at *
      generalize sizeN qb = nb at *
      go_wp2_with fail
      refine (HT.out _ g1).mono ?_
      rintro e w2 ⟨rfl, g2⟩
      have g3 := grow_trans g1 g2
      go_wp2_with fail
      refine (HSX.out _).mono ?_
      rintro e w3 ⟨rfl, rfl⟩
      go_wp2_with fail
      refine (HSA.out _).mono ?_
      rintro e w3 ⟨rfl, rfl⟩
      go_wp2_with fail
      refine (HSB.out _).mono ?_
      rintro e w3 ⟨rfl, rfl⟩
      have hS' : (nX : Int) + (v : Int) = (na : Int) + (nb : Int) := by omega
      go_wp2_with fail
      refine (HMA.out _ g3).mono ?_
      rintro e w4 ⟨v4, rfl, ho4, hb4⟩
      have g4 := grow_trans g3 (grow_of_below hb4)
      obtain ⟨A4, c4, rfl, hci4⟩ := ci_of_own ho4 rfl
      have HCI4 := Lib.hid hci4
      clear ho4 hb4 hci4
      go_wp2_with fail
      refine (HAB.out _ _ _ HCI4.out).mono ?_
      rintro e w5 ⟨rfl, rfl⟩
      go_wp2_with fail
      go_ret
      exact ⟨rfl, g4⟩
end Go.Proofs.YtiamkjokiapanaaDoor
