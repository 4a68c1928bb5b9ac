/- The document's rows: spots. -/
import Derived.Test.YtpchbdpepgeibaaDoorJ
namespace Go.Proofs.YtpchbdpepgeibaaDoor
open Go.RowKit Go.Proofs.YtpchbdpepgeibaaDoorW.PrintWords Go.Lib

theorem cw_news (w : World) (l : List S23) : CW (w.alloc (.cells (wcs l).toArray 23)) (some ⟨w.heap.size, 0, none⟩) l := by
  refine cw_of_cells (by simp) fun j u hu => ?_
  rw [cell_of_row _ _ _ _ _ _ (heap_alloc_new w _), Nat.zero_add]
  simpa using hu
theorem v_tx : tx 12 3 = ⟨#[49, 50, 47, 51]⟩ := by decide
theorem v_pv1 : pV ⟨#[49, 50, 47, 51]⟩ = (12, 3, 0) := by decide
theorem v_pv2 : pV ⟨#[48, 49, 50, 47, 51]⟩ = (0, 0, 20) := by decide
theorem v_beds : bedsV [⟨99, 7⟩, ⟨12, 3⟩, ⟨99, 7⟩] = [12, 99] := by decide +kernel

set_option maxRecDepth 100000 in
set_option maxHeartbeats 8000000 in
theorem spots_any (w : World) (h : GW w) :
    Calls Tryd.prog 17 #[] w fun e w' => e = .returned (.bool true) ∧ Below w.heap.size w w' := by
  have H9 := Lib.hid (fun W => num_any 12 3 W)
  have H11 := Lib.hid (fun W => at_any 791 W)
  have H13 := Lib.hid (fun W => print_any 12 3 W)
  have H15 := Lib.hid (fun W (g : GW W) => parse_any ⟨#[49, 50, 47, 51]⟩ (by decide) W g)
  have H15' := Lib.hid (fun W (g : GW W) => parse_any ⟨#[48, 49, 50, 47, 51]⟩ (by decide) W g)
  have H11' := Lib.hid (fun W => at_any 792 W)
  have H18 := Lib.hid (fun W => is_any 12 3 W)
  have H20 := Lib.hid (fun W => less_any 12 3 99 7 W)
  rw [v_pv1] at H15
  rw [v_pv2] at H15'
  rw [show numV 12 3 = (91, 0) by decide] at H9
  rw [show atV 791 = (99, 7, 0) by decide] at H11
  rw [show atV 792 = (0, 0, 1) by decide] at H11'
  rw [show prV 12 3 = (⟨#[49, 50, 47, 51]⟩, 0) by decide] at H13
  rw [show isS 12 3 = true by decide] at H18
  rw [show lessS 12 3 99 7 = true by decide] at H20
  dsimp only at H9 H11 H11' H13 H15 H15'
  have HG := Lib.hid h
  clear h
  have eqA := RSame.eqA23
  go_enter Tryd.func17, Tryd.ntmps17
  go_wp2_with fail
  refine (H9.out _).mono ?_
  rintro e w1 ⟨rfl, hb⟩
  have HX := Lib.hid ((Two.new w 12 3 23 _ rfl).below hb)
  have HB := Lib.hid (below_step ((Below.refl w.heap.size w).alloc (Nat.le_refl _) _) hb)
  clear hb H9
  go_wp2_with fail
  refine (H11.out _).mono ?_
  rintro e w2 ⟨rfl, hb⟩
  have HX2 := Lib.hid ((HX.out.below hb).alloc (.cells #[.int .i64 99, .int .i64 7] 23))
  have HY2 := Lib.hid (Two.new w2 99 7 23 _ rfl)
  have HB2 := Lib.hid ((below_step HB.out hb).alloc (below_step HB.out hb).size (.cells #[.int .i64 99, .int .i64 7] 23))
  clear hb HX HB H11
  obtain ⟨x0, x1⟩ := HX2.out.cells
  go_wp2_with fail
  refine (H13.out _).mono ?_
  rintro e w3 ⟨rfl, hb⟩
  have HX3 := Lib.hid (HX2.out.below hb)
  have HY3 := Lib.hid (HY2.out.below hb)
  have HB3 := Lib.hid (below_step HB2.out hb)
  clear hb HX2 HY2 HB2 x0 x1 H13
  go_wp2_with fail
  refine (H15.out _ (HG.out.below HB3.out)).mono ?_
  rintro e w4 ⟨rfl, hb⟩
  have HX4 := Lib.hid ((HX3.out.below hb).alloc (.cells #[.int .i64 12, .int .i64 3] 23))
  have HY4 := Lib.hid ((HY3.out.below hb).alloc (.cells #[.int .i64 12, .int .i64 3] 23))
  have HZ4 := Lib.hid (Two.new w4 12 3 23 _ rfl)
  have HB4 := Lib.hid ((below_step HB3.out hb).alloc (below_step HB3.out hb).size (.cells #[.int .i64 12, .int .i64 3] 23))
  clear hb HX3 HY3 HB3 H15
  go_wp2_with fail
  refine (H15'.out _ (HG.out.below HB4.out)).mono ?_
  rintro e w5 ⟨rfl, hb⟩
  have HX5 := Lib.hid ((HX4.out.below hb).alloc (.cells #[.int .i64 0, .int .i64 0] 23))
  have HY5 := Lib.hid ((HY4.out.below hb).alloc (.cells #[.int .i64 0, .int .i64 0] 23))
  have HZ5 := Lib.hid ((HZ4.out.below hb).alloc (.cells #[.int .i64 0, .int .i64 0] 23))
  have HB5 := Lib.hid ((below_step HB4.out hb).alloc (below_step HB4.out hb).size (.cells #[.int .i64 0, .int .i64 0] 23))
  clear hb HX4 HY4 HZ4 HB4 H15'
  go_wp2_with fail
  refine (H11'.out _).mono ?_
  rintro e w6 ⟨rfl, hb⟩
  have HX6 := Lib.hid ((HX5.out.below hb).alloc (.cells #[.int .i64 0, .int .i64 0] 23))
  have HY6 := Lib.hid ((HY5.out.below hb).alloc (.cells #[.int .i64 0, .int .i64 0] 23))
  have HZ6 := Lib.hid ((HZ5.out.below hb).alloc (.cells #[.int .i64 0, .int .i64 0] 23))
  have HB6 := Lib.hid ((below_step HB5.out hb).alloc (below_step HB5.out hb).size (.cells #[.int .i64 0, .int .i64 0] 23))
  clear hb HX5 HY5 HZ5 HB5 H11'
  obtain ⟨x0, x1⟩ := HX6.out.cells
  obtain ⟨y0, y1⟩ := HY6.out.cells
  obtain ⟨z0, z1⟩ := HZ6.out.cells
  go_wp2_with fail
  refine (H18.out _).mono ?_
  rintro e w7 ⟨rfl, hb⟩
  have HX7 := Lib.hid (HX6.out.below hb)
  have HY7 := Lib.hid (HY6.out.below hb)
  have HB7 := Lib.hid (below_step HB6.out hb)
  clear hb HX6 HY6 HZ6 HB6 H18 x0 x1 y0 y1 z0 z1
  obtain ⟨x0, x1⟩ := HX7.out.cells
  obtain ⟨y0, y1⟩ := HY7.out.cells
  go_wp2_with fail
  refine (H20.out _).mono ?_
  rintro e w8 ⟨rfl, hb⟩
  have HX8 := Lib.hid (HX7.out.below hb)
  have HY8 := Lib.hid (HY7.out.below hb)
  have HB8 := Lib.hid (below_step HB7.out hb)
  clear hb HX7 HY7 HB7 H20 x0 x1 y0 y1
  obtain ⟨x0, x1⟩ := HX8.out.cells
  obtain ⟨y0, y1⟩ := HY8.out.cells
  have HBe := Lib.hid (beds_any (some ⟨w8.heap.size, 0, none⟩) 3 [⟨99, 7⟩, ⟨12, 3⟩, ⟨99, 7⟩] _ (cw_news w8 [⟨99, 7⟩, ⟨12, 3⟩, ⟨99, 7⟩]) (by decide))
  rw [v_beds] at HBe
  go_wp2_with fail
  refine HBe.out.mono ?_
  rintro e w9 ⟨A', c', rfl, hci, hb⟩
  have HB9 := Lib.hid (below_step (HB8.out.alloc HB8.out.size _) hb)
  have HSa := Lib.hid (same_any A' (some ⟨w9.heap.size, 0, none⟩) c' 2 [12, 99] [12, 99] (w9.alloc (.cells #[.int .i64 12, .int .i64 99] 3)) (by decide) (by decide) (hci.grow (grow_alloc _ _)) (ci_new w9 [12, 99] _ rfl))
  rw [show decide (([12, 99] : List Int) = [12, 99]) = true by decide] at HSa
  clear hb hci HBe HX8 HY8 HB8 x0 x1 y0 y1
  go_wp2_with fail
  refine HSa.out.mono ?_
  rintro e w10 ⟨rfl, hg⟩
  have HB10 := Lib.hid (grow_below (HB9.out.alloc HB9.out.size _) hg (by have := HB9.out.size; simp; omega))
  clear hg HB9 HSa
  go_wp2_with fail
  go_ret
  exact ⟨rfl, HB10.out⟩
end Go.Proofs.YtpchbdpepgeibaaDoor
