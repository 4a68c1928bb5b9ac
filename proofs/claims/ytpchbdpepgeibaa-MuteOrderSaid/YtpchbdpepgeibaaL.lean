/- Contracts of mute.Is, Total, told. -/
import Derived.Test.YtpchbdpepgeibaaJ
import Derived.Deep.DeepCutAuto
namespace Go.Proofs.Ytpchbdpepgeibaa
open Go.RowKit Go.Proofs.YtpchbdpepgeibaaW.PrintWords Pturn

theorem isB_split (l : List S32) (h : ∀ j, 0 < j → j < l.length → ltB (l.getD (j - 1) z32) (l.getD j z32) = true) : isB l = (decide (l.length ≤ 100) && l.all mayB) := by
  unfold isB
  rw [Bool.and_comm]
  congr 1
  rw [Bool.eq_iff_iff, List.all_eq_true, List.all_eq_true]
  constructor
  · intro h1 w hw
    obtain ⟨j, hj, rfl⟩ := List.getElem_of_mem hw
    have := h1 j (List.mem_range.2 hj)
    unfold okAt at this
    rw [Bool.and_eq_true, getD_eq l z32 j hj] at this
    exact this.1
  · intro h1 j hj
    have hj := List.mem_range.1 hj
    unfold okAt
    rw [Bool.and_eq_true]
    refine ⟨h1 _ (by rw [getD_eq l z32 j hj]; exact List.getElem_mem hj), ?_⟩
    by_cases h0 : j = 0
    · simp [h0]
    · rw [h j (by omega) hj]; simp
theorem isB_nb (l : List S32) (k : Nat) (h0 : 0 < k) (hk : k < l.length) (h : ltB (l.getD (k - 1) z32) (l.getD k z32) = false) : isB l = false := by
  apply isB_bad l k hk
  unfold okAt
  rw [h]
  simp
  omega
theorem ltB_false (a b : S32) (h : ¬ (a.f0 > b.f0 ∨ (a.f0 = b.f0 ∧ a.f2 ≥ b.f1))) : ltB a b = true := by unfold ltB; simp; omega
theorem ltB_true (a b : S32) (h : a.f0 > b.f0 ∨ (a.f0 = b.f0 ∧ a.f2 ≥ b.f1)) : ltB a b = false := by unfold ltB; simp; omega

set_option maxHeartbeats 4000000 in
theorem is_any (A : Option Addr) (c : Nat) (l : List S32) (w : World) (h : CW w A l) (hl : l.length ≤ 100000) :
    Calls Try.prog 14 #[.slice A l.length c] w fun e w' => e = .returned (.bool (isB l)) ∧ Below w.heap.size w w' := by
  have HA := Lib.hid (fun W (g : w.grownBy W none) => all_any A c l W (h.grow g) hl)
  have HC := Lib.hid (fun W (g : w.grownBy W none) k hk => (h.grow g) k hk)
  have HS := Lib.hid (isB_split l)
  have HN := Lib.hid (isB_nb l)
  obtain ⟨m, hm⟩ : ∃ m, m = l.length := ⟨_, rfl⟩
  obtain ⟨R, hR⟩ : ∃ R, R = isB l := ⟨_, rfl⟩
  rw [← hR] at HS HN ⊢
  rw [← hm] at HA HC HS HN hl ⊢
  have HN : Hid (∀ k, 0 < k → k < m → ltB (l.getD (k - 1) z32) (l.getD k z32) = false → R = false) := HN
  clear h hm hR
  go_enter Try.func14, Try.ntmps14
  go_wp2_with fail
  go_loopw [3] (fun i wr => ∃ k : Nat, 1 ≤ k ∧ k ≤ m + 1 ∧ i = .int .i64 k ∧ Hid (∀ j, 0 < j → j < k → j < m → ltB (l.getD (j - 1) z32) (l.getD j z32) = true) ∧ Below w.heap.size w wr) (fun i _ => m + 1 - (intOf i).toNat)
  case atStart => exact ⟨1, by omega, by omega, rfl, fun j h0 h1 => absurd h1 (by omega), Below.refl _ _⟩
  case round =>
    obtain ⟨k, hk1, hk2, rfl, hj, hb⟩ := hrel
    have g : w.grownBy wr none := ⟨hb.os, hb.tape, hb.output, hb.size, fun i hi _ => hb.block i hi⟩
    by_cases hlt : k < m
    · obtain ⟨q, hq⟩ : ∃ q, q = k - 1 := ⟨k - 1, rfl⟩
      obtain ⟨b, off, hA, hbs, a0, a1, a2⟩ := HC.out wr g q (by omega)
      obtain ⟨b', off', hA', hbs', b0, b1, b2⟩ := HC.out wr g k hlt
      rw [hA] at hA'
      cases hA'
      subst hA
      have HL1 := Lib.hid (ltB_false (l.getD q z32) (l.getD k z32))
      have HL2 := Lib.hid (ltB_true (l.getD q z32) (l.getD k z32))
      have HN2 := Lib.hid (HN.out k (by omega) hlt)
      rw [← hq] at HN2
      have HJ' : ltB (l.getD q z32) (l.getD k z32) = true → (∀ j, 0 < j → j < k + 1 → j < m → ltB (l.getD (j - 1) z32) (l.getD j z32) = true) := by
        intro hlt' j h0 h1 h2
        by_cases e : j = k
        · subst e; rw [← hq]; exact hlt'
        · exact hj.out j h0 (by omega) h2
      have e1 : IntKind.i64.wrap ((k : Int) - 1) = (q : Int) := by rw [IntKind.wrap_i64]; omega
      have HQ := Lib.hid hq
      clear hq
      clear hj
      generalize l.getD q z32 = z at *
      generalize l.getD k z32 = y at *
      obtain ⟨z0, z1, z2⟩ := z
      obtain ⟨y0, y1, y2⟩ := y
      dsimp only at a0 a1 a2 b0 b1 b2
      have hB := Lib.hid hb
      have hG := Lib.hid g
      have hq0 : (0 : Int) ≤ (q : Int) := by omega
      have hqm : (q : Int) < (m : Int) := by have := HQ.out; omega
      have hq0' : (0 : Int) ≤ (k : Int) := by omega
      have hqm' : (k : Int) < (m : Int) := by omega
      clear hb g HA HC HS HN
      have hcase : (y0 < z0) ∨ ((z0 == y0) = true ∧ decide (y1 ≤ z2) = true) ∨ ((z0 == y0) = true ∧ decide (y1 ≤ z2) = false ∧ z2 < y1) ∨ (z0 < y0) := by
        by_cases c1 : y0 < z0
        · exact .inl c1
        · by_cases c2 : z0 = y0
          · by_cases c3 : y1 ≤ z2
            · exact .inr (.inl ⟨by simp [c2], by simp [c3]⟩)
            · exact .inr (.inr (.inl ⟨by simp [c2], by simp; omega, by omega⟩))
          · exact .inr (.inr (.inr (by omega)))
      rcases hcase with c1 | ⟨c1, c2⟩ | ⟨c1, c2, c3⟩ | c1
      · have hf := HN2.out (HL2.out (.inl c1))
        have hd : decide (y0 < z0) = true := by simp [c1]
        have HF := Lib.hid hf
        clear hf HL1 HL2 HN2 HQ HJ'
        go_wp2_with fail
        go_region_held3 (fun w' => w'.cell? ⟨b, off + q * 3, none⟩ = some (.int .i64 z0) ∧ w'.cell? ⟨b, off + q * 3 + 1, none⟩ = some (.int .i64 z1) ∧ w'.cell? ⟨b, off + q * 3 + 2, none⟩ = some (.int .i64 z2) ∧ w'.cell? ⟨b, off + k * 3, none⟩ = some (.int .i64 y0) ∧ w'.cell? ⟨b, off + k * 3 + 1, none⟩ = some (.int .i64 y1) ∧ w'.cell? ⟨b, off + k * 3 + 2, none⟩ = some (.int .i64 y2)) (go_keep) (fail)
        all_goals
          go_wp2_with fail
          go_ret
          exact ⟨ret_bool HF.out.symm, below_drew1 (below_alloc (below_alloc hB.out _) _)⟩
      · have hz : z0 = y0 := by simpa using c1
        have hf := HN2.out (HL2.out (.inr ⟨hz, by simpa using c2⟩))
        have hd : decide (y0 < z0) = false := by simp; omega
        have HF := Lib.hid hf
        clear hf HL1 HL2 HN2 HQ HJ' hz
        go_wp2_with fail
        go_region_held3 (fun w' => w'.cell? ⟨b, off + q * 3, none⟩ = some (.int .i64 z0) ∧ w'.cell? ⟨b, off + q * 3 + 1, none⟩ = some (.int .i64 z1) ∧ w'.cell? ⟨b, off + q * 3 + 2, none⟩ = some (.int .i64 z2) ∧ w'.cell? ⟨b, off + k * 3, none⟩ = some (.int .i64 y0) ∧ w'.cell? ⟨b, off + k * 3 + 1, none⟩ = some (.int .i64 y1) ∧ w'.cell? ⟨b, off + k * 3 + 2, none⟩ = some (.int .i64 y2)) (go_keep) (fail)
        all_goals
          go_wp2_with fail
          go_ret
          exact ⟨ret_bool HF.out.symm, below_drew1 (below_alloc (below_alloc hB.out _) _)⟩
      · have hz : z0 = y0 := by simpa using c1
        have hf := HL1.out (by show ¬ (z0 > y0 ∨ (z0 = y0 ∧ z2 ≥ y1)); omega)
        have hd : decide (y0 < z0) = false := by simp; omega
        have HJ := Lib.hid (HJ' hf)
        clear hf HL1 HL2 HN2 HQ hz HJ'
        go_wp2_with fail
        go_region_held3 (fun w' => w'.cell? ⟨b, off + q * 3, none⟩ = some (.int .i64 z0) ∧ w'.cell? ⟨b, off + q * 3 + 1, none⟩ = some (.int .i64 z1) ∧ w'.cell? ⟨b, off + q * 3 + 2, none⟩ = some (.int .i64 z2) ∧ w'.cell? ⟨b, off + k * 3, none⟩ = some (.int .i64 y0) ∧ w'.cell? ⟨b, off + k * 3 + 1, none⟩ = some (.int .i64 y1) ∧ w'.cell? ⟨b, off + k * 3 + 2, none⟩ = some (.int .i64 y2)) (go_keep) (fail)
        all_goals
          go_wp2_with fail
          go_roundw
          case rel => exact ⟨k + 1, by omega, by omega, by go_num, HJ.out, below_drew1 (below_alloc (below_alloc hB.out _) _)⟩
          case measure => simp [intOf]; omega
      · have hf := HL1.out (by show ¬ (z0 > y0 ∨ (z0 = y0 ∧ z2 ≥ y1)); omega)
        have hd : decide (y0 < z0) = false := by simp; omega
        have hd2 : (z0 == y0) = false := by simp; omega
        have HJ := Lib.hid (HJ' hf)
        clear hf HL1 HL2 HN2 HQ HJ'
        go_wp2_with fail
        go_region_held3 (fun w' => w'.cell? ⟨b, off + q * 3, none⟩ = some (.int .i64 z0) ∧ w'.cell? ⟨b, off + q * 3 + 1, none⟩ = some (.int .i64 z1) ∧ w'.cell? ⟨b, off + q * 3 + 2, none⟩ = some (.int .i64 z2) ∧ w'.cell? ⟨b, off + k * 3, none⟩ = some (.int .i64 y0) ∧ w'.cell? ⟨b, off + k * 3 + 1, none⟩ = some (.int .i64 y1) ∧ w'.cell? ⟨b, off + k * 3 + 2, none⟩ = some (.int .i64 y2)) (go_keep) (fail)
        all_goals
          go_wp2_with fail
          go_roundw
          case rel => exact ⟨k + 1, by omega, by omega, by go_num, HJ.out, below_drew1 (below_alloc (below_alloc hB.out _) _)⟩
          case measure => simp [intOf]; omega
    · have HR := HS.out (fun j h0 h1 => hj.out j h0 (by omega) h1)
      have hh := HA.out wr g
      have HB := Lib.hid hb
      clear HS HN hj HA HC hb g
      cases ha : l.all mayB
      · rw [ha] at hh HR
        by_cases h1 : m ≤ 100
        · have hd : decide ((m : Int) ≤ 100) = true := by simp; omega
          go_wp2_with fail
          refine hh.mono ?_
          rintro e w1 ⟨rfl, hb1⟩
          go_wp2_with fail
          go_ret
          exact ⟨ret_bool (by rw [HR, Bool.and_false]), below_step HB.out hb1⟩
        · have hd : decide ((m : Int) ≤ 100) = false := by simp; omega
          go_wp2_with fail
          go_ret
          exact ⟨ret_bool (by rw [HR, Bool.and_false]), HB.out⟩
      · rw [ha, Bool.and_true] at HR
        rw [ha] at hh
        by_cases h1 : m ≤ 100
        · have hd : decide ((m : Int) ≤ 100) = true := by simp; omega
          have HR' := Lib.hid HR
          clear HR
          go_wp2_with fail
          refine hh.mono ?_
          rintro e w1 ⟨rfl, hb1⟩
          go_wp2_with fail
          go_ret
          exact ⟨ret_bool (by rw [HR'.out]; simp [h1]), below_step HB.out hb1⟩
        · have hd : decide ((m : Int) ≤ 100) = false := by simp; omega
          have HR' := Lib.hid HR
          clear HR hh
          go_wp2_with fail
          go_ret
          exact ⟨ret_bool (by rw [HR'.out]; simp [h1]), HB.out⟩
end Go.Proofs.Ytpchbdpepgeibaa
