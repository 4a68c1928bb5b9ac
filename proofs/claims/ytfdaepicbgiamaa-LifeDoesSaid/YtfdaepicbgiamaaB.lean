/- Contracts of life.Name, life.Run and watchmanref01.Same. -/
import Derived.Test.YtfdaepicbgiamaaA
import Derived.Maps.AppendAt
import Derived.Deep.LoopGhost
namespace Go.Proofs.Ytfdaepicbgiamaa
open Go.RowKit

theorem grow_drew (w : World) : w.grownBy w.drew none := ⟨rfl, rfl, rfl, Nat.le_refl _, fun _ _ _ => rfl⟩
theorem grow_drewN (w : World) (n : Nat) : w.grownBy (w.drewN n) none := ⟨rfl, rfl, rfl, Nat.le_refl _, fun _ _ _ => rfl⟩
theorem grow_trans {a b c : World} (h : a.grownBy b none) (k : b.grownBy c none) : a.grownBy c none :=
  ⟨k.os.trans h.os, k.tape.trans h.tape, k.output.trans h.output, Nat.le_trans h.size k.size, fun i hi _ => (k.block i (Nat.lt_of_lt_of_le hi h.size) (by simp)).trans (h.block i hi (by simp))⟩
theorem grow_cell {w w' : World} (h : w.grownBy w' none) {b o : Nat} (hb : b < w.heap.size) : w'.cell? ⟨b, o, none⟩ = w.cell? ⟨b, o, none⟩ := World.cell?_of_block (h.block b hb (by simp))

/-- The slice at A of zs.length elements reads as zs. -/
def CI (w : World) (A : Option Addr) (zs : List Int) : Prop := ∀ j, j < zs.length → ∃ b off, A = some ⟨b, off, none⟩ ∧ b < w.heap.size ∧ w.cell? ⟨b, off + j, none⟩ = some (.int .i64 (zs.getD j 0))
theorem CI.grow {w w' : World} {A : Option Addr} {zs : List Int} (h : CI w A zs) (g : w.grownBy w' none) : CI w' A zs := fun j hj => by
  obtain ⟨b, off, e, hb, hc⟩ := h j hj
  exact ⟨b, off, e, Nat.lt_of_lt_of_le hb g.size, by rw [grow_cell g hb]; exact hc⟩

def nameOf (n : Int) : List UInt8 := if n = 0 then [113, 117, 105, 101, 116] else if n = 1 then [114, 97, 105, 115, 101, 100] else if n = 2 then [101, 115, 99, 97, 108, 97, 116, 101, 100] else if n = 3 then [97, 99, 107, 101, 100] else if n = 4 then [115, 105, 108, 101, 110, 99, 101, 100] else []
theorem idxN (n : Int) (w : World) (h : 0 ≤ n ∧ n < 5) : (Instr.index 50 (.agg #[.string ⟨#[113, 117, 105, 101, 116]⟩, .string ⟨#[114, 97, 105, 115, 101, 100]⟩, .string ⟨#[101, 115, 99, 97, 108, 97, 116, 101, 100]⟩, .string ⟨#[97, 99, 107, 101, 100]⟩, .string ⟨#[115, 105, 108, 101, 110, 99, 101, 100]⟩]) (.int .i64 n)).run Try.prog w = .ok (.string ⟨(nameOf n).toArray⟩) w := by
  obtain rfl | rfl | rfl | rfl | rfl : n = 0 ∨ n = 1 ∨ n = 2 ∨ n = 3 ∨ n = 4 := by omega
  all_goals kernel_rfl
theorem name_any (n : Int) (w : World) :
    Calls Try.prog 15 #[.int .i64 n] w fun e w' => e = .returned (.tuple #[.string ⟨(nameOf n).toArray⟩, .bool (decide (0 ≤ n ∧ n < 5))]) ∧ w = w' := by
  by_cases h : 0 ≤ n ∧ n < 5
  · have i0 := fun w => idxN n w h
    have e1 : (decide (0 ≤ n ∧ n < 5)) = true := by simp [h]
    rw [e1]
    clear e1
    go_enter Try.func15, Try.ntmps15
    go_wp2_with (go_at_call 21; refine (is_yes _ _ h.1 h.2).mono ?_; rintro e w' ⟨rfl, rfl⟩)
    go_ret2
    exact ⟨rfl, rfl⟩
  · have h' : n < 0 ∨ 5 ≤ n := by omega
    have e1 : nameOf n = [] := by unfold nameOf; repeat rw [if_neg (by omega)]
    have e2 : (decide (0 ≤ n ∧ n < 5)) = false := by simpa using h
    rw [e1, e2]
    clear e1 e2 h
    go_enter Try.func15, Try.ntmps15
    go_wp2_with (go_at_call 21; refine (is_no _ _ h').mono ?_; rintro e w' ⟨rfl, rfl⟩)
    go_ret2
    exact ⟨rfl, rfl⟩

/-- Run: the phase and the count behind the deeds. -/
def runL : Int → Int → List Int → Int × Int
  | p, n, [] => (p, n)
  | p, n, d :: l => if nxo p d = true then runL (nxv p d) (n + 1) l else runL p n l
theorem runL_snoc (l : List Int) (d : Int) : ∀ p n, runL p n (l ++ [d]) = (if nxo (runL p n l).1 d = true then (nxv (runL p n l).1 d, (runL p n l).2 + 1) else runL p n l) := by
  induction l with
  | nil => intro p n; rfl
  | cons x l ih => intro p n; simp only [List.cons_append, runL]; split <;> exact ih _ _
theorem runL_le (l : List Int) : ∀ p n, n ≤ (runL p n l).2 ∧ (runL p n l).2 ≤ n + l.length := by
  induction l with
  | nil => intro p n; simp [runL]
  | cons x l ih =>
    intro p n
    simp only [runL, List.length_cons]
    split
    · have := ih (nxv p x) (n + 1); omega
    · have := ih p n; omega
theorem take_succ (zs : List Int) (k : Nat) (h : k < zs.length) : zs.take (k + 1) = zs.take k ++ [zs.getD k 0] := by
  rw [List.take_succ_eq_append_getElem h]; simp [List.getD, h]

set_option maxHeartbeats 400000 in
theorem run_any (p : Int) (A : Option Addr) (c : Nat) (zs : List Int) (w : World) (hl : zs.length * 8 ≤ 140737488355328) (hc : CI w A zs) :
    Calls Try.prog 11 #[.int .i64 p, .slice A zs.length c] w fun e w' => e = .returned (.tuple #[.int .i64 (runL p 0 zs).1, .int .i64 (runL p 0 zs).2]) ∧ w.grownBy w' none := by
  have HC := Lib.hid hc; clear hc
  obtain ⟨m, hm⟩ : ∃ m, m = zs.length := ⟨_, rfl⟩
  rw [← hm]
  have hl' : m ≤ 17592186044416 := by omega
  have HM := Lib.hid hm; clear hm
  go_enter Try.func11, Try.ntmps11
  go_wp2_with fail
  go_loopw [0, 6, 8, 9, 10, 13] (fun ph n _ _ _ i wr => ∃ k : Nat, k ≤ m ∧ i = .int .i64 k ∧ ph = .int .i64 (runL p 0 (zs.take k)).1 ∧ n = .int .i64 (runL p 0 (zs.take k)).2 ∧ w.grownBy wr none) (fun _ _ _ _ _ i _ => m - (intOf i).toNat)
  case atStart => exact ⟨0, Nat.zero_le _, rfl, rfl, rfl, .refl _ _⟩
  case round =>
    obtain ⟨k, hk, rfl, rfl, rfl, hg⟩ := hrel
    have hb := runL_le (zs.take k) p 0
    have hkl : (zs.take k).length ≤ k := List.length_take_le _ _
    by_cases hlt : k < m
    · obtain ⟨b, off, rfl, hbs, hcell⟩ := (HC.out.grow hg) k (by rw [← HM.out]; exact hlt)
      have hsn := runL_snoc (zs.take k) (zs.getD k 0) p 0
      rw [← take_succ zs k (by rw [← HM.out]; exact hlt)] at hsn
      have HS := Lib.hid hsn; clear hsn
      generalize runL p 0 (zs.take k) = q at *
      obtain ⟨ph, n⟩ := q
      simp only at hb
      go_wp2_with (go_at_call 9; refine (next_any _ _ _).mono ?_; rintro e w' ⟨rfl, hg1⟩)
      · have e1 : nxo ph (zs.getD k 0) = true := by assumption
        go_roundw
        case rel => exact ⟨k + 1, by omega, by go_num, by rw [HS.out, if_pos e1]; rfl, by rw [HS.out, if_pos e1], grow_trans hg hg1⟩
        case measure => simp [intOf]; omega
      · have e1 : ¬ nxo ph (zs.getD k 0) = true := by simp [*]
        go_roundw
        case rel => exact ⟨k + 1, by omega, by go_num, by rw [HS.out, if_neg e1], by rw [HS.out, if_neg e1], grow_trans hg hg1⟩
        case measure => simp [intOf]; omega
    · go_wp2_with fail
      go_ret2
      have e : zs.take k = zs := List.take_of_length_le (by rw [← HM.out]; omega)
      exact ⟨by rw [e]; rfl, hg⟩

set_option maxHeartbeats 400000 in
theorem same_any (A B : Option Addr) (c d : Nat) (xs ys : List Int) (w : World) (hl : xs.length * 8 ≤ 140737488355328) (hl2 : ys.length * 8 ≤ 140737488355328) (hx : CI w A xs) (hy : CI w B ys) :
    Calls Try.prog 17 #[.slice A xs.length c, .slice B ys.length d] w fun e w' => e = .returned (.bool (decide (xs = ys))) ∧ w.grownBy w' none := by
  by_cases hn : xs.length = ys.length
  · have HX := Lib.hid hx; clear hx
    have HY := Lib.hid hy; clear hy
    rw [← hn]
    obtain ⟨m, hm⟩ : ∃ m, m = xs.length := ⟨_, rfl⟩
    rw [← hm]
    have hl' : m ≤ 17592186044416 := by omega
    have HM := Lib.hid hm
    have HN := Lib.hid hn
    clear hm hn hl hl2
    go_enter Try.func17, Try.ntmps17
    go_wp2_with fail
    go_loopw [5] (fun i wr => ∃ k : Nat, k ≤ m ∧ i = .int .i64 k ∧ Hid (xs.take k = ys.take k) ∧ w.grownBy wr none) (fun i _ => m - (intOf i).toNat)
    case atStart => exact ⟨0, Nat.zero_le _, rfl, rfl, .refl _ _⟩
    case round =>
      obtain ⟨k, hk, rfl, HE, hg⟩ := hrel
      by_cases hlt : k < m
      · have hkx : k < xs.length := by rw [← HM.out]; exact hlt
        have hky : k < ys.length := by rw [← HN.out]; exact hkx
        obtain ⟨b, off, rfl, hbs, hcell⟩ := (HX.out.grow hg) k hkx
        obtain ⟨b2, off2, rfl, hbs2, hcell2⟩ := (HY.out.grow hg) k hky
        have tx := Lib.hid (take_succ xs k hkx)
        have ty := Lib.hid (take_succ ys k hky)
        generalize xs.getD k 0 = x at *
        generalize ys.getD k 0 = y at *
        clear hkx hky
        have hk0 : (0 : Int) ≤ (k : Int) := by omega
        have hkm : (k : Int) < (m : Int) := by omega
        by_cases he : x = y
        · have hb : (x == y) = true := by simp [he]
          have hb2 : (x != y) = false := by simp [he]
          have HE2 := Lib.hid he
          clear he
          go_wp2_with fail
          go_quiet (fail)
          go_wp2_with fail
          go_roundw
          case rel => exact ⟨k + 1, by omega, by go_num, by unfold Hid; rw [tx.out, ty.out, HE.out, HE2.out], grow_trans hg (grow_drewN _ _)⟩
          case measure => simp [intOf]; omega
        · have hb : (x == y) = false := by simp [he]
          have hb2 : (x != y) = true := by simp [he]
          have HE2 := Lib.hid he
          clear he
          go_wp2_with fail
          go_quiet (fail)
          go_wp2_with fail
          go_ret
          refine ⟨?_, grow_trans hg (grow_drewN _ _)⟩
          have : ¬ xs = ys := by
            intro e
            subst e
            have h1 := tx.out
            rw [ty.out] at h1
            exact HE2.out (by simpa using h1.symm)
          simp [this]
      · go_wp2_with fail
        go_ret
        have e1 : xs.take k = xs := List.take_of_length_le (by rw [← HM.out]; omega)
        have e2 : ys.take k = ys := List.take_of_length_le (by rw [← HN.out, ← HM.out]; omega)
        have : xs = ys := by rw [← e1, ← e2]; exact HE.out
        exact ⟨by simp [this], hg⟩
  · have hb : (xs.length == ys.length) = false := by simp [hn]
    have hb2 : (xs.length != ys.length) = true := by simp [hn]
    have HN := Lib.hid hn
    clear hn hl hl2 hx hy
    go_enter Try.func17, Try.ntmps17
    go_wp2_with fail
    go_ret
    have : ¬ xs = ys := fun e => HN.out (by rw [e])
    exact ⟨by simp [this], .refl _ _⟩
end Go.Proofs.Ytfdaepicbgiamaa
