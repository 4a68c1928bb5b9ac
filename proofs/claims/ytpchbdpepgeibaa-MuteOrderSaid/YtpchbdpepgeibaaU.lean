/- Contract of watchmanlaw10.muted: the document's rows. -/
import Derived.Test.YtpchbdpepgeibaaT
namespace Go.Proofs.Ytpchbdpepgeibaa
open Go.RowKit Go.Shelf Go.Proofs Go.Proofs.YtpchbdpepgeibaaW.PrintWords Pturn

def L0 : List S32 := [⟨1, 1, 5⟩, ⟨1, 7, 20⟩]
theorem v1 : turnV L0 [⟨1, 5, 9⟩] true = ([⟨1, 1, 20⟩], 0) := by kernel_rfl
theorem v2 : turnV L0 [⟨1, 5, 9⟩] false = ([⟨1, 1, 5⟩, ⟨1, 9, 20⟩], 0) := by kernel_rfl
theorem v3 : turnV L0 [⟨0, 0, 0⟩] true = ([], 1) := by kernel_rfl
theorem v4 : tillV L0 1 7 = (20, true) := by kernel_rfl
theorem v5 : isB L0 = true := by kernel_rfl
theorem v6 : hasB L0 1 4 = true := by kernel_rfl
theorem v7 : hasB L0 1 5 = false := by kernel_rfl
theorem v8 : totV L0 1 = 17 := by kernel_rfl
theorem m_add (A1 A2 : Option Addr) (c1 c2 : Nat) (w : World) (h1 : CW w A1 L0) (h2 : CW w A2 [⟨1, 5, 9⟩]) :
    Calls Try.prog 6 #[.slice A1 2 c1, .slice A2 1 c2] w fun e w' => ∃ A c, e = .returned (.tuple #[.slice A 1 c, .int .i64 0]) ∧ 1 ≤ c ∧ CW w' A [⟨1, 1, 20⟩] ∧ w.grownBy w' none := by
  have h := add_any A1 A2 c1 c2 L0 [⟨1, 5, 9⟩] w h1 h2 (by decide) (by decide)
  rw [v1] at h
  refine h.mono ?_
  rintro e w' ⟨v, rfl, hr, hb⟩
  obtain ⟨A, c, rfl, hc, hcw⟩ := hr.reads
  exact ⟨A, c, rfl, hc, hcw, grow_of_below hb⟩
theorem m_cut (A1 A2 : Option Addr) (c1 c2 : Nat) (w : World) (h1 : CW w A1 L0) (h2 : CW w A2 [⟨1, 5, 9⟩]) :
    Calls Try.prog 8 #[.slice A1 2 c1, .slice A2 1 c2] w fun e w' => ∃ A c, e = .returned (.tuple #[.slice A 2 c, .int .i64 0]) ∧ 2 ≤ c ∧ CW w' A [⟨1, 1, 5⟩, ⟨1, 9, 20⟩] ∧ w.grownBy w' none := by
  have h := cut_any A1 A2 c1 c2 L0 [⟨1, 5, 9⟩] w h1 h2 (by decide) (by decide)
  rw [v2] at h
  refine h.mono ?_
  rintro e w' ⟨v, rfl, hr, hb⟩
  obtain ⟨A, c, rfl, hc, hcw⟩ := hr.reads
  exact ⟨A, c, rfl, hc, hcw, grow_of_below hb⟩
theorem m_bad (A1 A2 : Option Addr) (c1 c2 : Nat) (w : World) (h1 : CW w A1 L0) (h2 : CW w A2 [⟨0, 0, 0⟩]) :
    Calls Try.prog 6 #[.slice A1 2 c1, .slice A2 1 c2] w fun e w' => ∃ A c, e = .returned (.tuple #[.slice A 0 c, .int .i64 1]) ∧ w.grownBy w' none := by
  have h := add_any A1 A2 c1 c2 L0 [⟨0, 0, 0⟩] w h1 h2 (by decide) (by decide)
  rw [v3] at h
  refine h.mono ?_
  rintro e w' ⟨v, rfl, hr, hb⟩
  obtain ⟨A, c, rfl, hc, hcw⟩ := hr.reads
  exact ⟨A, c, rfl, grow_of_below hb⟩
theorem m_till (A1 : Option Addr) (c1 : Nat) (w : World) (h1 : CW w A1 L0) :
    Calls Try.prog 10 #[.slice A1 2 c1, .int .i64 1, .int .i64 7] w fun e w' => e = .returned (.tuple #[.int .i64 20, .bool true]) ∧ w.grownBy w' none := by
  have h := till_any A1 c1 L0 1 7 w h1 (by decide)
  rw [v4] at h
  exact h.mono fun e w' ⟨he, hb⟩ => ⟨he, grow_of_below hb⟩
theorem m_is (A1 : Option Addr) (c1 : Nat) (w : World) (h1 : CW w A1 L0) :
    Calls Try.prog 14 #[.slice A1 2 c1] w fun e w' => e = .returned (.bool true) ∧ w.grownBy w' none := by
  have h := is_any A1 c1 L0 w h1 (by decide)
  rw [v5] at h
  exact h.mono fun e w' ⟨he, hb⟩ => ⟨he, grow_of_below hb⟩
theorem m_has4 (A1 : Option Addr) (c1 : Nat) (w : World) (h1 : CW w A1 L0) :
    Calls Try.prog 16 #[.slice A1 2 c1, .int .i64 1, .int .i64 4] w fun e w' => e = .returned (.bool true) ∧ w.grownBy w' none := by
  have h := hasm_any A1 c1 L0 1 4 w h1 (by decide)
  rw [v6] at h
  exact h.mono fun e w' ⟨he, hb⟩ => ⟨he, grow_of_below hb⟩
theorem m_has5 (A1 : Option Addr) (c1 : Nat) (w : World) (h1 : CW w A1 L0) :
    Calls Try.prog 16 #[.slice A1 2 c1, .int .i64 1, .int .i64 5] w fun e w' => e = .returned (.bool false) ∧ w.grownBy w' none := by
  have h := hasm_any A1 c1 L0 1 5 w h1 (by decide)
  rw [v7] at h
  exact h.mono fun e w' ⟨he, hb⟩ => ⟨he, grow_of_below hb⟩
theorem m_total (A1 : Option Addr) (c1 : Nat) (w : World) (h1 : CW w A1 L0) :
    Calls Try.prog 18 #[.slice A1 2 c1, .int .i64 1] w fun e w' => e = .returned (.int .i64 17) ∧ w.grownBy w' none := by
  have h := total_any A1 c1 L0 1 w h1 (by decide)
  rw [v8] at h
  exact h.mono fun e w' ⟨he, hb⟩ => ⟨he, grow_of_below hb⟩
theorem m_same1 (A B : Option Addr) (c d : Nat) (x : S32) (w : World) (h1 : CW w A [x]) (h2 : CW w B [x]) (hc : 1 ≤ c) (hd : 1 ≤ d) :
    Calls Try.prog 12 #[.slice A 1 c, .slice B 1 d] w fun e w' => e = .returned (.bool true) ∧ w.grownBy w' none :=
  (same_any A B c d [x] w h1 h2 (by simp) hc hd).mono fun e w' ⟨he, k, hk⟩ => ⟨he, by rw [hk]; exact grow_drewN _ _⟩
theorem m_same2 (A B : Option Addr) (c d : Nat) (x y : S32) (w : World) (h1 : CW w A [x, y]) (h2 : CW w B [x, y]) (hc : 2 ≤ c) (hd : 2 ≤ d) :
    Calls Try.prog 12 #[.slice A 2 c, .slice B 2 d] w fun e w' => e = .returned (.bool true) ∧ w.grownBy w' none :=
  (same_any A B c d [x, y] w h1 h2 (by simp) hc hd).mono fun e w' ⟨he, k, hk⟩ => ⟨he, by rw [hk]; exact grow_drewN _ _⟩
theorem cw_new2 (w : World) (x y : S32) : CW (w.alloc (.cells #[.int .i64 x.f0, .int .i64 x.f1, .int .i64 x.f2, .int .i64 y.f0, .int .i64 y.f1, .int .i64 y.f2] 32)) (some ⟨w.heap.size, 0, none⟩) [x, y] := by
  refine cw_of_cells (by simp) fun j u hu => ?_
  rw [cell_of_row _ _ _ _ _ _ (heap_alloc_new w _), ← Array.getElem?_toList, Nat.zero_add]
  exact hu

/-- What stands through the whole: the row, the window's box, what was there before. -/
structure MSt (w : World) (B : Nat) (W : World) : Prop where
  row : CW W (some ⟨B, 0, none⟩) L0
  c0 : W.cell? ⟨B + 1, 0, none⟩ = some (.int .i64 1)
  c1 : W.cell? ⟨B + 1, 1, none⟩ = some (.int .i64 5)
  c2 : W.cell? ⟨B + 1, 2, none⟩ = some (.int .i64 9)
  lt : B + 1 < W.heap.size
  gr : w.grownBy W none
theorem MSt.grow {w W W' : World} {B : Nat} (h : MSt w B W) (g : W.grownBy W' none) : MSt w B W' :=
  ⟨h.row.grow g, by rw [grow_cell g h.lt]; exact h.c0, by rw [grow_cell g h.lt]; exact h.c1, by rw [grow_cell g h.lt]; exact h.c2, Nat.lt_of_lt_of_le h.lt g.size, grow_trans h.gr g⟩

set_option maxHeartbeats 8000000 in
theorem muted_any (w : World) : Calls Try.prog 13 #[] w fun e w' => e = .returned (.bool true) ∧ w.grownBy w' none := by
  have S0 : MSt w w.heap.size ((w.alloc (.cells #[.int .i64 1, .int .i64 1, .int .i64 5, .int .i64 1, .int .i64 7, .int .i64 20] 32)).alloc (.cells #[.int .i64 1, .int .i64 5, .int .i64 9] 32)) :=
    ⟨(cw_new2 w ⟨1, 1, 5⟩ ⟨1, 7, 20⟩).grow (grow_alloc _ _), by simp, by simp, by simp, by simp, grow_trans (grow_alloc _ _) (grow_alloc _ _)⟩
  have e0 : ((w.alloc (.cells #[.int .i64 1, .int .i64 1, .int .i64 5, .int .i64 1, .int .i64 7, .int .i64 20] 32)).alloc (.cells #[.int .i64 1, .int .i64 5, .int .i64 9] 32)).heap.size = w.heap.size + 1 + 1 := by simp
  have S1 := S0.grow (grow_alloc _ (.cells #[.int .i64 1, .int .i64 5, .int .i64 9] 32))
  have n1 := cw_new ((w.alloc (.cells #[.int .i64 1, .int .i64 1, .int .i64 5, .int .i64 1, .int .i64 7, .int .i64 20] 32)).alloc (.cells #[.int .i64 1, .int .i64 5, .int .i64 9] 32)) ⟨1, 5, 9⟩
  rw [e0] at n1
  have H1 := Lib.hid (m_add _ _ 2 1 _ S1.row n1)
  have HS1 := Lib.hid S1
  clear S0 S1 n1 e0
  go_enter Try.func13, Try.ntmps13
  go_wp2_with fail
  refine H1.out.mono ?_
  rintro e w1 ⟨A1, c1, rfl, hc1, hA1, g1⟩
  have S2 := HS1.out.grow g1
  have HA1 := Lib.hid hA1
  obtain ⟨hrow, x0, x1, x2, xlt, hgr⟩ := S2
  have HS2 : Hid (MSt w w.heap.size w1) := ⟨hrow, x0, x1, x2, xlt, hgr⟩
  have n2 := cw_new w1 ⟨1, 5, 9⟩
  have H2 := Lib.hid (m_cut _ _ 2 1 _ (hrow.grow (grow_alloc _ (.cells #[.int .i64 1, .int .i64 5, .int .i64 9] 32))) n2)
  clear H1 HS1 hA1 g1 n2 hrow hgr
  generalize w.heap.size = B at *
  go_wp2_with fail
  refine H2.out.mono ?_
  rintro e w2 ⟨A2, c2, rfl, hc2, hA2, g2⟩
  have g2' := grow_trans (grow_alloc w1 (.cells #[.int .i64 1, .int .i64 5, .int .i64 9] 32)) g2
  have HA1 := Lib.hid (HA1.out.grow g2')
  have HA2 := Lib.hid hA2
  have HS3 := Lib.hid (HS2.out.grow g2')
  have n3 := cw_new w2 ⟨0, 0, 0⟩
  have H3 := Lib.hid (m_bad _ _ 2 1 _ (HS3.out.row.grow (grow_alloc _ (.cells #[.int .i64 0, .int .i64 0, .int .i64 0] 32))) n3)
  clear H2 HS2 hA2 g2 g2' n3 x0 x1 x2 xlt
  go_wp2_with fail
  refine H3.out.mono ?_
  rintro e w3 ⟨A3, c3, rfl, g3⟩
  have g3' := grow_trans (grow_alloc w2 (.cells #[.int .i64 0, .int .i64 0, .int .i64 0] 32)) g3
  have HA1 := Lib.hid (HA1.out.grow g3')
  have HA2 := Lib.hid (HA2.out.grow g3')
  have HS4 := Lib.hid (HS3.out.grow g3')
  have H4 := Lib.hid (m_till (some ⟨B, 0, none⟩) 2 w3 HS4.out.row)
  clear H3 HS3 g3 g3'
  go_wp2_with fail
  refine H4.out.mono ?_
  rintro e w4 ⟨rfl, g4⟩
  have HA1 := Lib.hid (HA1.out.grow g4)
  have HA2 := Lib.hid (HA2.out.grow g4)
  have HS5 := Lib.hid (HS4.out.grow g4)
  have ga := grow_alloc w4 (.cells #[.int .i64 1, .int .i64 1, .int .i64 20] 32)
  have H5 := Lib.hid (m_same1 A1 (some ⟨w4.heap.size, 0, none⟩) c1 1 ⟨1, 1, 20⟩ (w4.alloc (.cells #[.int .i64 1, .int .i64 1, .int .i64 20] 32)) (HA1.out.grow ga) (cw_new w4 ⟨1, 1, 20⟩) hc1 (Nat.le_refl _))
  clear H4 HS4 g4
  go_wp2_with fail
  refine H5.out.mono ?_
  rintro e w5 ⟨rfl, g5⟩
  have g5' := grow_trans ga g5
  have HA2 := Lib.hid (HA2.out.grow g5')
  have HS6 := Lib.hid (HS5.out.grow g5')
  have ga := grow_alloc w5 (.cells #[.int .i64 1, .int .i64 1, .int .i64 5, .int .i64 1, .int .i64 9, .int .i64 20] 32)
  have H6 := Lib.hid (m_same2 A2 (some ⟨w5.heap.size, 0, none⟩) c2 2 ⟨1, 1, 5⟩ ⟨1, 9, 20⟩ (w5.alloc (.cells #[.int .i64 1, .int .i64 1, .int .i64 5, .int .i64 1, .int .i64 9, .int .i64 20] 32)) (HA2.out.grow ga) (cw_new2 w5 ⟨1, 1, 5⟩ ⟨1, 9, 20⟩) hc2 (Nat.le_refl _))
  clear H5 HS5 g5 g5' HA1
  go_wp2_with fail
  refine H6.out.mono ?_
  rintro e w6 ⟨rfl, g6⟩
  have HS7 := Lib.hid (HS6.out.grow (grow_trans ga g6))
  have H7 := Lib.hid (m_is (some ⟨B, 0, none⟩) 2 w6 HS7.out.row)
  clear H6 HS6 g6 ga HA2
  go_wp2_with fail
  refine H7.out.mono ?_
  rintro e w7 ⟨rfl, g7⟩
  have HS8 := Lib.hid (HS7.out.grow g7)
  have H8 := Lib.hid (m_has4 (some ⟨B, 0, none⟩) 2 w7 HS8.out.row)
  clear H7 HS7 g7
  go_wp2_with fail
  refine H8.out.mono ?_
  rintro e w8 ⟨rfl, g8⟩
  have HS9 := Lib.hid (HS8.out.grow g8)
  have H9 := Lib.hid (m_has5 (some ⟨B, 0, none⟩) 2 w8 HS9.out.row)
  clear H8 HS8 g8
  go_wp2_with fail
  refine H9.out.mono ?_
  rintro e w9 ⟨rfl, g9⟩
  have HS10 := Lib.hid (HS9.out.grow g9)
  have H10 := Lib.hid (m_total (some ⟨B, 0, none⟩) 2 w9 HS10.out.row)
  clear H9 HS9 g9
  go_wp2_with fail
  refine H10.out.mono ?_
  rintro e w10 ⟨rfl, g10⟩
  have HS11 := Lib.hid (HS10.out.grow g10)
  clear H10 HS10 g10
  go_wp2_with fail
  go_ret
  exact ⟨rfl, HS11.out.gr⟩
end Go.Proofs.Ytpchbdpepgeibaa
