/- SpotBack. -/
import Derived.Test.YtpchbdpepgeibaaDoorS
namespace Go.Proofs.YtpchbdpepgeibaaDoor
open Go.RowKit Go.Proofs.YtpchbdpepgeibaaDoorW.PrintWords Go.Lib
attribute [local go_sem high] RSame.eqA23

theorem back_big (b c n : Int) (t : ByteArray) (w : World) (ht : 200 < t.size) (hm : t.size ≤ maxLen) :
    Calls Tryd.prog 4 #[.agg #[.int .i64 b, .int .i64 c], .int .i64 n, .string t] w fun e w' => e = .returned (.bool true) ∧ Below w.heap.size w w' := by
  unfold maxLen at hm
  have hd : decide (200 < (t.size : Int)) = true := by simp; omega
  have hd2 : decide (200 < t.size) = true := by simp; omega
  go_enter Tryd.func4, Tryd.ntmps4
  go_wp2_with fail
  go_ret
  exact ⟨rfl, (Below.refl _ _).alloc (Nat.le_refl _) _⟩

theorem at_facts (n : Int) : (∃ p q, atV n = (p, q, 0) ∧ numV p q = (n, 0) ∧ isS p q = true) ∨ atV n = (0, 0, 1) := by
  unfold atV
  by_cases h : 0 ≤ n ∧ n ≤ 791
  · rw [if_pos h]
    have h2 : isS (n / 8 + 1) (n % 8) = true := (isS_iff _ _).2 (by omega)
    refine .inl ⟨_, _, rfl, ?_, h2⟩
    unfold numV
    rw [if_pos h2]
    congr 1
    omega
  · rw [if_neg h]; exact .inr rfl
theorem parse_facts (t : ByteArray) : (∃ p q, pV t = (p, q, 0) ∧ prV p q = (t, 0) ∧ isS p q = true) ∨ pV t = (0, 0, 20) := by
  rcases pV_cases t with ⟨b, c, h1, h2, h3⟩ | ⟨_, h⟩
  · refine .inl ⟨b, c, h3, ?_, h1⟩
    unfold prV
    rw [if_pos h1, h2]
  · exact .inr h
theorem spot_facts (b c : Int) : (isS b c = true ∧ ∃ m, numV b c = (m, 0) ∧ 0 ≤ m ∧ m ≤ 791 ∧ atV m = (b, c, 0) ∧ prV b c = (tx b c, 0) ∧ pV (tx b c) = (b, c, 0)) ∨ (isS b c = false ∧ numV b c = (0, 1) ∧ prV b c = (⟨#[]⟩, 1) ∧ atV 0 = (1, 0, 0) ∧ pV ⟨#[]⟩ = (0, 0, 20)) := by
  cases h : isS b c
  · refine .inr ⟨rfl, ?_, ?_, by decide, by decide⟩
    · unfold numV; rw [if_neg (by rw [h]; simp)]
    · unfold prV; rw [if_neg (by rw [h]; simp)]
  · have h2 := (isS_iff b c).1 h
    refine .inl ⟨rfl, 8 * (b - 1) + c, ?_, by omega, by omega, ?_, ?_, pV_tx b c h⟩
    · unfold numV; rw [if_pos h]
    · unfold atV
      rw [if_pos (by omega)]
      have e1 : (8 * (b - 1) + c) / 8 + 1 = b := by omega
      have e2 : (8 * (b - 1) + c) % 8 = c := by omega
      rw [e1, e2]
    · unfold prV; rw [if_pos h]
theorem tx_small (b c : Int) : (tx b c).size ≤ 1000 := by
  have h1 := ds_len b.toNat
  have h3 := ds_len c.toNat
  show (txL b c).toArray.size ≤ 1000
  simp [txL]
  omega

/-- The first half: what the spot's own number and text lead back to. -/
structure BI (w0 : World) (n : Nat) (b c : Int) (W : World) : Prop where
  s : Two W n b c 23
  bl : Below w0.heap.size w0 W
theorem BI.step {w0 W W' : World} {n : Nat} {b c : Int} (h : BI w0 n b c W) (g : Below W.heap.size W W') : BI w0 n b c W' := ⟨h.s.below g, below_step h.bl g⟩
theorem BI.alloc {w0 W : World} {n : Nat} {b c : Int} (h : BI w0 n b c W) (o : Obj) : BI w0 n b c (W.alloc o) := ⟨h.s.alloc o, h.bl.alloc h.bl.size o⟩

set_option maxRecDepth 100000 in
set_option maxHeartbeats 20000000 in
theorem back_111 (b c n : Int) (t : ByteArray) (w : World) (h : GW w) (ht : t.size ≤ 200)
    (s1 : isS b c = true) (m : Int) (s2 : numV b c = (m, 0)) (s3 : 0 ≤ m) (s4 : m ≤ 791) (s5 : atV m = (b, c, 0)) (s6 : prV b c = (tx b c, 0)) (s7 : pV (tx b c) = (b, c, 0))
    (p q : Int) (f1 : atV n = (p, q, 0)) (f2 : numV p q = (n, 0)) (f3 : isS p q = true)
    (u v : Int) (g1 : pV t = (u, v, 0)) (g2 : prV u v = (t, 0)) (g3 : isS u v = true) :
    Calls Tryd.prog 4 #[.agg #[.int .i64 b, .int .i64 c], .int .i64 n, .string t] w fun e w' => e = .returned (.bool true) ∧ Below w.heap.size w w' := by
  have I0 := Lib.hid (show BI w w.heap.size b c (w.alloc (.cells #[.int .i64 b, .int .i64 c] 23)) from ⟨Two.new w b c 23 _ rfl, (Below.refl _ _).alloc (Nat.le_refl _) _⟩)
  have HG := Lib.hid h
  have hd : decide (200 < (t.size : Int)) = false := by simp; omega
  have hd2 : decide (200 < t.size) = false := by simp; omega
  have HN := Lib.hid (fun W => num_any b c W)
  have HP := Lib.hid (fun W => print_any b c W)
  have HI := Lib.hid (fun W => is_any b c W)
  have HS := Lib.hid (fun W (i : BI w w.heap.size b c W) => spots_any W (h.below i.bl))
  have HAn := Lib.hid (fun W => at_any n W)
  have HQt := Lib.hid (fun W g => parse_any t (by omega) W g)
  rw [s1] at HI
  rw [s2] at HN
  rw [s6] at HP
  have HAm := Lib.hid (fun W => at_any m W)
  rw [s5] at HAm
  have HQx := Lib.hid (fun W g => parse_any (tx b c) (tx_small b c) W g)
  rw [s7] at HQx
  have m1 : decide (m < 0) = false := by simp; omega
  have m2 : decide (791 < m) = false := by simp; omega
  clear s1 s2 s3 s4 s5 s6 s7
  generalize tx b c = x at *
  have HNp := Lib.hid (fun W => num_any p q W)
  have HIp := Lib.hid (fun W => is_any p q W)
  rw [f2] at HNp
  rw [f3] at HIp
  rw [f1] at HAn
  clear f1 f2 f3
  have HPp := Lib.hid (fun W => print_any u v W)
  have HIu := Lib.hid (fun W => is_any u v W)
  rw [g2] at HPp
  rw [g3] at HIu
  rw [g1] at HQt
  clear g1 g2 g3
  dsimp only at HN HP HAm HQx HAn HNp HQt HPp
  clear h
  have ht1 : (t.toList == t.toList) = true := by simp
  have hnn : (n == n) = true := by simp
  have hq : (b == b && (c == c)) = true := by simp
  go_enter Tryd.func4, Tryd.ntmps4
  obtain ⟨c0, c1⟩ := I0.out.s.cells
  go_wp2_with fail
  refine (HN.out _).mono ?_
  rintro e w1 ⟨rfl, hb⟩
  have I1 := Lib.hid (I0.out.step hb)
  clear hb I0 c0 c1
  go_wp2_with fail
  refine (HAm.out _).mono ?_
  rintro e w2 ⟨rfl, hb⟩
  have I2 := Lib.hid ((I1.out.step hb).alloc (.cells #[.int .i64 b, .int .i64 c] 23))
  have J2 := Lib.hid (Two.new w2 b c 23 _ rfl)
  clear hb I1
  obtain ⟨c0, c1⟩ := I2.out.s.cells
  go_wp2_with fail
  refine (HP.out _).mono ?_
  rintro e w3 ⟨rfl, hb⟩
  have I3 := Lib.hid (I2.out.step hb)
  have J3 := Lib.hid (J2.out.below hb)
  clear hb I2 J2 c0 c1
  go_wp2_with fail
  refine (HQx.out _ (HG.out.below I3.out.bl)).mono ?_
  rintro e w4 ⟨rfl, hb⟩
  have I4 := Lib.hid ((I3.out.step hb).alloc (.cells #[.int .i64 b, .int .i64 c] 23))
  have J4 := Lib.hid ((J3.out.below hb).alloc (.cells #[.int .i64 b, .int .i64 c] 23))
  have K4 := Lib.hid (Two.new w4 b c 23 _ rfl)
  clear hb I3 J3
  obtain ⟨c0, c1⟩ := I4.out.s.cells
  go_wp2_with fail
  refine (HI.out _).mono ?_
  rintro e w5 ⟨rfl, hb⟩
  have I5 := Lib.hid (I4.out.step hb)
  have J5 := Lib.hid (J4.out.below hb)
  have K5 := Lib.hid (K4.out.below hb)
  clear hb I4 J4 K4 c0 c1
  obtain ⟨c0, c1⟩ := I5.out.s.cells
  obtain ⟨d0, d1⟩ := J5.out.cells
  obtain ⟨e0, e1⟩ := K5.out.cells
  go_wp2_with fail
  refine (HI.out _).mono ?_
  rintro e w6 ⟨rfl, hb⟩
  have I6 := Lib.hid (I5.out.step hb)
  clear hb I5 J5 K5 c0 c1 d0 d1 e0 e1
  go_wp2_with fail
  refine (HAn.out _).mono ?_
  rintro e w7 ⟨rfl, hb⟩
  have I7 := Lib.hid ((I6.out.step hb).alloc (.cells #[.int .i64 p, .int .i64 q] 23))
  have D7 := Lib.hid (Two.new w7 p q 23 _ rfl)
  clear hb I6
  obtain ⟨c0, c1⟩ := D7.out.cells
  go_wp2_with fail
  refine (HNp.out _).mono ?_
  rintro e w8 ⟨rfl, hb⟩
  have I8 := Lib.hid (I7.out.step hb)
  have D8 := Lib.hid (D7.out.below hb)
  clear hb I7 D7 c0 c1
  go_wp2_with fail
  refine (HQt.out _ (HG.out.below I8.out.bl)).mono ?_
  rintro e w9 ⟨rfl, hb⟩
  have I9 := Lib.hid ((I8.out.step hb).alloc (.cells #[.int .i64 u, .int .i64 v] 23))
  have D9 := Lib.hid ((D8.out.below hb).alloc (.cells #[.int .i64 u, .int .i64 v] 23))
  have X9 := Lib.hid (Two.new w9 u v 23 _ rfl)
  clear hb I8 D8
  obtain ⟨c0, c1⟩ := X9.out.cells
  go_wp2_with fail
  refine (HPp.out _).mono ?_
  rintro e w10 ⟨rfl, hb⟩
  have I10 := Lib.hid (I9.out.step hb)
  have D10 := Lib.hid (D9.out.below hb)
  have X10 := Lib.hid (X9.out.below hb)
  clear hb I9 D9 X9 c0 c1
  go_wp2_with fail
  refine (HS.out _ I10.out).mono ?_
  rintro e w11 ⟨rfl, hb⟩
  have I11 := Lib.hid (I10.out.step hb)
  have D11 := Lib.hid (D10.out.below hb)
  have X11 := Lib.hid (X10.out.below hb)
  clear hb I10 D10 X10
  obtain ⟨c0, c1⟩ := D11.out.cells
  go_wp2_with fail
  refine (HIp.out _).mono ?_
  rintro e w12 ⟨rfl, hb⟩
  have I12 := Lib.hid (I11.out.step hb)
  have X12 := Lib.hid (X11.out.below hb)
  clear hb I11 X11 c0 c1
  obtain ⟨c0, c1⟩ := X12.out.cells
  go_wp2_with fail
  refine (HIu.out _).mono ?_
  rintro e w13 ⟨rfl, hb⟩
  have I13 := Lib.hid (I12.out.step hb)
  clear hb I12 X12 c0 c1
  go_wp2_with fail
  go_ret
  exact ⟨rfl, I13.out.bl⟩
set_option maxRecDepth 100000 in
set_option maxHeartbeats 20000000 in
theorem back_110 (b c n : Int) (t : ByteArray) (w : World) (h : GW w) (ht : t.size ≤ 200)
    (s1 : isS b c = true) (m : Int) (s2 : numV b c = (m, 0)) (s3 : 0 ≤ m) (s4 : m ≤ 791) (s5 : atV m = (b, c, 0)) (s6 : prV b c = (tx b c, 0)) (s7 : pV (tx b c) = (b, c, 0))
    (p q : Int) (f1 : atV n = (p, q, 0)) (f2 : numV p q = (n, 0)) (f3 : isS p q = true)
    (g1 : pV t = (0, 0, 20)) :
    Calls Tryd.prog 4 #[.agg #[.int .i64 b, .int .i64 c], .int .i64 n, .string t] w fun e w' => e = .returned (.bool true) ∧ Below w.heap.size w w' := by
  have I0 := Lib.hid (show BI w w.heap.size b c (w.alloc (.cells #[.int .i64 b, .int .i64 c] 23)) from ⟨Two.new w b c 23 _ rfl, (Below.refl _ _).alloc (Nat.le_refl _) _⟩)
  have HG := Lib.hid h
  have hd : decide (200 < (t.size : Int)) = false := by simp; omega
  have hd2 : decide (200 < t.size) = false := by simp; omega
  have HN := Lib.hid (fun W => num_any b c W)
  have HP := Lib.hid (fun W => print_any b c W)
  have HI := Lib.hid (fun W => is_any b c W)
  have HS := Lib.hid (fun W (i : BI w w.heap.size b c W) => spots_any W (h.below i.bl))
  have HAn := Lib.hid (fun W => at_any n W)
  have HQt := Lib.hid (fun W g => parse_any t (by omega) W g)
  rw [s1] at HI
  rw [s2] at HN
  rw [s6] at HP
  have HAm := Lib.hid (fun W => at_any m W)
  rw [s5] at HAm
  have HQx := Lib.hid (fun W g => parse_any (tx b c) (tx_small b c) W g)
  rw [s7] at HQx
  have m1 : decide (m < 0) = false := by simp; omega
  have m2 : decide (791 < m) = false := by simp; omega
  clear s1 s2 s3 s4 s5 s6 s7
  generalize tx b c = x at *
  have HNp := Lib.hid (fun W => num_any p q W)
  have HIp := Lib.hid (fun W => is_any p q W)
  rw [f2] at HNp
  rw [f3] at HIp
  rw [f1] at HAn
  clear f1 f2 f3
  have HPp := Lib.hid (fun W => print_any 0 0 W)
  rw [show prV 0 0 = (⟨#[]⟩, 1) by decide] at HPp
  rw [g1] at HQt
  clear g1
  dsimp only at HN HP HAm HQx HAn HNp HQt HPp
  clear h
  have ht1 : (t.toList == t.toList) = true := by simp
  have hnn : (n == n) = true := by simp
  have hq : (b == b && (c == c)) = true := by simp
  go_enter Tryd.func4, Tryd.ntmps4
  obtain ⟨c0, c1⟩ := I0.out.s.cells
  go_wp2_with fail
  refine (HN.out _).mono ?_
  rintro e w1 ⟨rfl, hb⟩
  have I1 := Lib.hid (I0.out.step hb)
  clear hb I0 c0 c1
  go_wp2_with fail
  refine (HAm.out _).mono ?_
  rintro e w2 ⟨rfl, hb⟩
  have I2 := Lib.hid ((I1.out.step hb).alloc (.cells #[.int .i64 b, .int .i64 c] 23))
  have J2 := Lib.hid (Two.new w2 b c 23 _ rfl)
  clear hb I1
  obtain ⟨c0, c1⟩ := I2.out.s.cells
  go_wp2_with fail
  refine (HP.out _).mono ?_
  rintro e w3 ⟨rfl, hb⟩
  have I3 := Lib.hid (I2.out.step hb)
  have J3 := Lib.hid (J2.out.below hb)
  clear hb I2 J2 c0 c1
  go_wp2_with fail
  refine (HQx.out _ (HG.out.below I3.out.bl)).mono ?_
  rintro e w4 ⟨rfl, hb⟩
  have I4 := Lib.hid ((I3.out.step hb).alloc (.cells #[.int .i64 b, .int .i64 c] 23))
  have J4 := Lib.hid ((J3.out.below hb).alloc (.cells #[.int .i64 b, .int .i64 c] 23))
  have K4 := Lib.hid (Two.new w4 b c 23 _ rfl)
  clear hb I3 J3
  obtain ⟨c0, c1⟩ := I4.out.s.cells
  go_wp2_with fail
  refine (HI.out _).mono ?_
  rintro e w5 ⟨rfl, hb⟩
  have I5 := Lib.hid (I4.out.step hb)
  have J5 := Lib.hid (J4.out.below hb)
  have K5 := Lib.hid (K4.out.below hb)
  clear hb I4 J4 K4 c0 c1
  obtain ⟨c0, c1⟩ := I5.out.s.cells
  obtain ⟨d0, d1⟩ := J5.out.cells
  obtain ⟨e0, e1⟩ := K5.out.cells
  go_wp2_with fail
  refine (HI.out _).mono ?_
  rintro e w6 ⟨rfl, hb⟩
  have I6 := Lib.hid (I5.out.step hb)
  clear hb I5 J5 K5 c0 c1 d0 d1 e0 e1
  go_wp2_with fail
  refine (HAn.out _).mono ?_
  rintro e w7 ⟨rfl, hb⟩
  have I7 := Lib.hid ((I6.out.step hb).alloc (.cells #[.int .i64 p, .int .i64 q] 23))
  have D7 := Lib.hid (Two.new w7 p q 23 _ rfl)
  clear hb I6
  obtain ⟨c0, c1⟩ := D7.out.cells
  go_wp2_with fail
  refine (HNp.out _).mono ?_
  rintro e w8 ⟨rfl, hb⟩
  have I8 := Lib.hid (I7.out.step hb)
  have D8 := Lib.hid (D7.out.below hb)
  clear hb I7 D7 c0 c1
  go_wp2_with fail
  refine (HQt.out _ (HG.out.below I8.out.bl)).mono ?_
  rintro e w9 ⟨rfl, hb⟩
  have I9 := Lib.hid ((I8.out.step hb).alloc (.cells #[.int .i64 0, .int .i64 0] 23))
  have D9 := Lib.hid ((D8.out.below hb).alloc (.cells #[.int .i64 0, .int .i64 0] 23))
  have X9 := Lib.hid (Two.new w9 0 0 23 _ rfl)
  clear hb I8 D8
  obtain ⟨c0, c1⟩ := X9.out.cells
  go_wp2_with fail
  refine (HPp.out _).mono ?_
  rintro e w10 ⟨rfl, hb⟩
  have I10 := Lib.hid (I9.out.step hb)
  have D10 := Lib.hid (D9.out.below hb)
  have X10 := Lib.hid (X9.out.below hb)
  clear hb I9 D9 X9 c0 c1
  go_wp2_with fail
  refine (HS.out _ I10.out).mono ?_
  rintro e w11 ⟨rfl, hb⟩
  have I11 := Lib.hid (I10.out.step hb)
  have D11 := Lib.hid (D10.out.below hb)
  have X11 := Lib.hid (X10.out.below hb)
  clear hb I10 D10 X10
  obtain ⟨c0, c1⟩ := D11.out.cells
  go_wp2_with fail
  refine (HIp.out _).mono ?_
  rintro e w12 ⟨rfl, hb⟩
  have I12 := Lib.hid (I11.out.step hb)
  have X12 := Lib.hid (X11.out.below hb)
  clear hb I11 X11 c0 c1
  go_wp2_with fail
  go_ret
  exact ⟨rfl, I12.out.bl⟩
set_option maxRecDepth 100000 in
set_option maxHeartbeats 20000000 in
theorem back_101 (b c n : Int) (t : ByteArray) (w : World) (h : GW w) (ht : t.size ≤ 200)
    (s1 : isS b c = true) (m : Int) (s2 : numV b c = (m, 0)) (s3 : 0 ≤ m) (s4 : m ≤ 791) (s5 : atV m = (b, c, 0)) (s6 : prV b c = (tx b c, 0)) (s7 : pV (tx b c) = (b, c, 0))
    (f1 : atV n = (0, 0, 1))
    (u v : Int) (g1 : pV t = (u, v, 0)) (g2 : prV u v = (t, 0)) (g3 : isS u v = true) :
    Calls Tryd.prog 4 #[.agg #[.int .i64 b, .int .i64 c], .int .i64 n, .string t] w fun e w' => e = .returned (.bool true) ∧ Below w.heap.size w w' := by
  have I0 := Lib.hid (show BI w w.heap.size b c (w.alloc (.cells #[.int .i64 b, .int .i64 c] 23)) from ⟨Two.new w b c 23 _ rfl, (Below.refl _ _).alloc (Nat.le_refl _) _⟩)
  have HG := Lib.hid h
  have hd : decide (200 < (t.size : Int)) = false := by simp; omega
  have hd2 : decide (200 < t.size) = false := by simp; omega
  have HN := Lib.hid (fun W => num_any b c W)
  have HP := Lib.hid (fun W => print_any b c W)
  have HI := Lib.hid (fun W => is_any b c W)
  have HS := Lib.hid (fun W (i : BI w w.heap.size b c W) => spots_any W (h.below i.bl))
  have HAn := Lib.hid (fun W => at_any n W)
  have HQt := Lib.hid (fun W g => parse_any t (by omega) W g)
  rw [s1] at HI
  rw [s2] at HN
  rw [s6] at HP
  have HAm := Lib.hid (fun W => at_any m W)
  rw [s5] at HAm
  have HQx := Lib.hid (fun W g => parse_any (tx b c) (tx_small b c) W g)
  rw [s7] at HQx
  have m1 : decide (m < 0) = false := by simp; omega
  have m2 : decide (791 < m) = false := by simp; omega
  clear s1 s2 s3 s4 s5 s6 s7
  generalize tx b c = x at *
  have HNp := Lib.hid (fun W => num_any 0 0 W)
  rw [show numV 0 0 = (0, 1) by decide] at HNp
  rw [f1] at HAn
  clear f1
  have HPp := Lib.hid (fun W => print_any u v W)
  have HIu := Lib.hid (fun W => is_any u v W)
  rw [g2] at HPp
  rw [g3] at HIu
  rw [g1] at HQt
  clear g1 g2 g3
  dsimp only at HN HP HAm HQx HAn HNp HQt HPp
  clear h
  have ht1 : (t.toList == t.toList) = true := by simp
  have hnn : (n == n) = true := by simp
  have hq : (b == b && (c == c)) = true := by simp
  go_enter Tryd.func4, Tryd.ntmps4
  obtain ⟨c0, c1⟩ := I0.out.s.cells
  go_wp2_with fail
  refine (HN.out _).mono ?_
  rintro e w1 ⟨rfl, hb⟩
  have I1 := Lib.hid (I0.out.step hb)
  clear hb I0 c0 c1
  go_wp2_with fail
  refine (HAm.out _).mono ?_
  rintro e w2 ⟨rfl, hb⟩
  have I2 := Lib.hid ((I1.out.step hb).alloc (.cells #[.int .i64 b, .int .i64 c] 23))
  have J2 := Lib.hid (Two.new w2 b c 23 _ rfl)
  clear hb I1
  obtain ⟨c0, c1⟩ := I2.out.s.cells
  go_wp2_with fail
  refine (HP.out _).mono ?_
  rintro e w3 ⟨rfl, hb⟩
  have I3 := Lib.hid (I2.out.step hb)
  have J3 := Lib.hid (J2.out.below hb)
  clear hb I2 J2 c0 c1
  go_wp2_with fail
  refine (HQx.out _ (HG.out.below I3.out.bl)).mono ?_
  rintro e w4 ⟨rfl, hb⟩
  have I4 := Lib.hid ((I3.out.step hb).alloc (.cells #[.int .i64 b, .int .i64 c] 23))
  have J4 := Lib.hid ((J3.out.below hb).alloc (.cells #[.int .i64 b, .int .i64 c] 23))
  have K4 := Lib.hid (Two.new w4 b c 23 _ rfl)
  clear hb I3 J3
  obtain ⟨c0, c1⟩ := I4.out.s.cells
  go_wp2_with fail
  refine (HI.out _).mono ?_
  rintro e w5 ⟨rfl, hb⟩
  have I5 := Lib.hid (I4.out.step hb)
  have J5 := Lib.hid (J4.out.below hb)
  have K5 := Lib.hid (K4.out.below hb)
  clear hb I4 J4 K4 c0 c1
  obtain ⟨c0, c1⟩ := I5.out.s.cells
  obtain ⟨d0, d1⟩ := J5.out.cells
  obtain ⟨e0, e1⟩ := K5.out.cells
  go_wp2_with fail
  refine (HI.out _).mono ?_
  rintro e w6 ⟨rfl, hb⟩
  have I6 := Lib.hid (I5.out.step hb)
  clear hb I5 J5 K5 c0 c1 d0 d1 e0 e1
  go_wp2_with fail
  refine (HAn.out _).mono ?_
  rintro e w7 ⟨rfl, hb⟩
  have I7 := Lib.hid ((I6.out.step hb).alloc (.cells #[.int .i64 0, .int .i64 0] 23))
  have D7 := Lib.hid (Two.new w7 0 0 23 _ rfl)
  clear hb I6
  obtain ⟨c0, c1⟩ := D7.out.cells
  go_wp2_with fail
  refine (HNp.out _).mono ?_
  rintro e w8 ⟨rfl, hb⟩
  have I8 := Lib.hid (I7.out.step hb)
  have D8 := Lib.hid (D7.out.below hb)
  clear hb I7 D7 c0 c1
  go_wp2_with fail
  refine (HQt.out _ (HG.out.below I8.out.bl)).mono ?_
  rintro e w9 ⟨rfl, hb⟩
  have I9 := Lib.hid ((I8.out.step hb).alloc (.cells #[.int .i64 u, .int .i64 v] 23))
  have D9 := Lib.hid ((D8.out.below hb).alloc (.cells #[.int .i64 u, .int .i64 v] 23))
  have X9 := Lib.hid (Two.new w9 u v 23 _ rfl)
  clear hb I8 D8
  obtain ⟨c0, c1⟩ := X9.out.cells
  go_wp2_with fail
  refine (HPp.out _).mono ?_
  rintro e w10 ⟨rfl, hb⟩
  have I10 := Lib.hid (I9.out.step hb)
  have D10 := Lib.hid (D9.out.below hb)
  have X10 := Lib.hid (X9.out.below hb)
  clear hb I9 D9 X9 c0 c1
  go_wp2_with fail
  refine (HS.out _ I10.out).mono ?_
  rintro e w11 ⟨rfl, hb⟩
  have I11 := Lib.hid (I10.out.step hb)
  have D11 := Lib.hid (D10.out.below hb)
  have X11 := Lib.hid (X10.out.below hb)
  clear hb I10 D10 X10
  obtain ⟨c0, c1⟩ := X11.out.cells
  go_wp2_with fail
  refine (HIu.out _).mono ?_
  rintro e w12 ⟨rfl, hb⟩
  have I12 := Lib.hid (I11.out.step hb)
  clear hb I11 X11 c0 c1
  go_wp2_with fail
  go_ret
  exact ⟨rfl, I12.out.bl⟩
set_option maxRecDepth 100000 in
set_option maxHeartbeats 20000000 in
theorem back_100 (b c n : Int) (t : ByteArray) (w : World) (h : GW w) (ht : t.size ≤ 200)
    (s1 : isS b c = true) (m : Int) (s2 : numV b c = (m, 0)) (s3 : 0 ≤ m) (s4 : m ≤ 791) (s5 : atV m = (b, c, 0)) (s6 : prV b c = (tx b c, 0)) (s7 : pV (tx b c) = (b, c, 0))
    (f1 : atV n = (0, 0, 1))
    (g1 : pV t = (0, 0, 20)) :
    Calls Tryd.prog 4 #[.agg #[.int .i64 b, .int .i64 c], .int .i64 n, .string t] w fun e w' => e = .returned (.bool true) ∧ Below w.heap.size w w' := by
  have I0 := Lib.hid (show BI w w.heap.size b c (w.alloc (.cells #[.int .i64 b, .int .i64 c] 23)) from ⟨Two.new w b c 23 _ rfl, (Below.refl _ _).alloc (Nat.le_refl _) _⟩)
  have HG := Lib.hid h
  have hd : decide (200 < (t.size : Int)) = false := by simp; omega
  have hd2 : decide (200 < t.size) = false := by simp; omega
  have HN := Lib.hid (fun W => num_any b c W)
  have HP := Lib.hid (fun W => print_any b c W)
  have HI := Lib.hid (fun W => is_any b c W)
  have HS := Lib.hid (fun W (i : BI w w.heap.size b c W) => spots_any W (h.below i.bl))
  have HAn := Lib.hid (fun W => at_any n W)
  have HQt := Lib.hid (fun W g => parse_any t (by omega) W g)
  rw [s1] at HI
  rw [s2] at HN
  rw [s6] at HP
  have HAm := Lib.hid (fun W => at_any m W)
  rw [s5] at HAm
  have HQx := Lib.hid (fun W g => parse_any (tx b c) (tx_small b c) W g)
  rw [s7] at HQx
  have m1 : decide (m < 0) = false := by simp; omega
  have m2 : decide (791 < m) = false := by simp; omega
  clear s1 s2 s3 s4 s5 s6 s7
  generalize tx b c = x at *
  have HNp := Lib.hid (fun W => num_any 0 0 W)
  rw [show numV 0 0 = (0, 1) by decide] at HNp
  rw [f1] at HAn
  clear f1
  have HPp := Lib.hid (fun W => print_any 0 0 W)
  rw [show prV 0 0 = (⟨#[]⟩, 1) by decide] at HPp
  rw [g1] at HQt
  clear g1
  dsimp only at HN HP HAm HQx HAn HNp HQt HPp
  clear h
  have ht1 : (t.toList == t.toList) = true := by simp
  have hnn : (n == n) = true := by simp
  have hq : (b == b && (c == c)) = true := by simp
  go_enter Tryd.func4, Tryd.ntmps4
  obtain ⟨c0, c1⟩ := I0.out.s.cells
  go_wp2_with fail
  refine (HN.out _).mono ?_
  rintro e w1 ⟨rfl, hb⟩
  have I1 := Lib.hid (I0.out.step hb)
  clear hb I0 c0 c1
  go_wp2_with fail
  refine (HAm.out _).mono ?_
  rintro e w2 ⟨rfl, hb⟩
  have I2 := Lib.hid ((I1.out.step hb).alloc (.cells #[.int .i64 b, .int .i64 c] 23))
  have J2 := Lib.hid (Two.new w2 b c 23 _ rfl)
  clear hb I1
  obtain ⟨c0, c1⟩ := I2.out.s.cells
  go_wp2_with fail
  refine (HP.out _).mono ?_
  rintro e w3 ⟨rfl, hb⟩
  have I3 := Lib.hid (I2.out.step hb)
  have J3 := Lib.hid (J2.out.below hb)
  clear hb I2 J2 c0 c1
  go_wp2_with fail
  refine (HQx.out _ (HG.out.below I3.out.bl)).mono ?_
  rintro e w4 ⟨rfl, hb⟩
  have I4 := Lib.hid ((I3.out.step hb).alloc (.cells #[.int .i64 b, .int .i64 c] 23))
  have J4 := Lib.hid ((J3.out.below hb).alloc (.cells #[.int .i64 b, .int .i64 c] 23))
  have K4 := Lib.hid (Two.new w4 b c 23 _ rfl)
  clear hb I3 J3
  obtain ⟨c0, c1⟩ := I4.out.s.cells
  go_wp2_with fail
  refine (HI.out _).mono ?_
  rintro e w5 ⟨rfl, hb⟩
  have I5 := Lib.hid (I4.out.step hb)
  have J5 := Lib.hid (J4.out.below hb)
  have K5 := Lib.hid (K4.out.below hb)
  clear hb I4 J4 K4 c0 c1
  obtain ⟨c0, c1⟩ := I5.out.s.cells
  obtain ⟨d0, d1⟩ := J5.out.cells
  obtain ⟨e0, e1⟩ := K5.out.cells
  go_wp2_with fail
  refine (HI.out _).mono ?_
  rintro e w6 ⟨rfl, hb⟩
  have I6 := Lib.hid (I5.out.step hb)
  clear hb I5 J5 K5 c0 c1 d0 d1 e0 e1
  go_wp2_with fail
  refine (HAn.out _).mono ?_
  rintro e w7 ⟨rfl, hb⟩
  have I7 := Lib.hid ((I6.out.step hb).alloc (.cells #[.int .i64 0, .int .i64 0] 23))
  have D7 := Lib.hid (Two.new w7 0 0 23 _ rfl)
  clear hb I6
  obtain ⟨c0, c1⟩ := D7.out.cells
  go_wp2_with fail
  refine (HNp.out _).mono ?_
  rintro e w8 ⟨rfl, hb⟩
  have I8 := Lib.hid (I7.out.step hb)
  have D8 := Lib.hid (D7.out.below hb)
  clear hb I7 D7 c0 c1
  go_wp2_with fail
  refine (HQt.out _ (HG.out.below I8.out.bl)).mono ?_
  rintro e w9 ⟨rfl, hb⟩
  have I9 := Lib.hid ((I8.out.step hb).alloc (.cells #[.int .i64 0, .int .i64 0] 23))
  have D9 := Lib.hid ((D8.out.below hb).alloc (.cells #[.int .i64 0, .int .i64 0] 23))
  have X9 := Lib.hid (Two.new w9 0 0 23 _ rfl)
  clear hb I8 D8
  obtain ⟨c0, c1⟩ := X9.out.cells
  go_wp2_with fail
  refine (HPp.out _).mono ?_
  rintro e w10 ⟨rfl, hb⟩
  have I10 := Lib.hid (I9.out.step hb)
  have D10 := Lib.hid (D9.out.below hb)
  have X10 := Lib.hid (X9.out.below hb)
  clear hb I9 D9 X9 c0 c1
  go_wp2_with fail
  refine (HS.out _ I10.out).mono ?_
  rintro e w11 ⟨rfl, hb⟩
  have I11 := Lib.hid (I10.out.step hb)
  have D11 := Lib.hid (D10.out.below hb)
  have X11 := Lib.hid (X10.out.below hb)
  clear hb I10 D10 X10
  go_wp2_with fail
  go_ret
  exact ⟨rfl, I11.out.bl⟩
set_option maxRecDepth 100000 in
set_option maxHeartbeats 20000000 in
theorem back_011 (b c n : Int) (t : ByteArray) (w : World) (h : GW w) (ht : t.size ≤ 200)
    (s1 : isS b c = false) (s2 : numV b c = (0, 1)) (s3 : prV b c = (⟨#[]⟩, 1))
    (p q : Int) (f1 : atV n = (p, q, 0)) (f2 : numV p q = (n, 0)) (f3 : isS p q = true)
    (u v : Int) (g1 : pV t = (u, v, 0)) (g2 : prV u v = (t, 0)) (g3 : isS u v = true) :
    Calls Tryd.prog 4 #[.agg #[.int .i64 b, .int .i64 c], .int .i64 n, .string t] w fun e w' => e = .returned (.bool true) ∧ Below w.heap.size w w' := by
  have I0 := Lib.hid (show BI w w.heap.size b c (w.alloc (.cells #[.int .i64 b, .int .i64 c] 23)) from ⟨Two.new w b c 23 _ rfl, (Below.refl _ _).alloc (Nat.le_refl _) _⟩)
  have HG := Lib.hid h
  have hd : decide (200 < (t.size : Int)) = false := by simp; omega
  have hd2 : decide (200 < t.size) = false := by simp; omega
  have HN := Lib.hid (fun W => num_any b c W)
  have HP := Lib.hid (fun W => print_any b c W)
  have HI := Lib.hid (fun W => is_any b c W)
  have HS := Lib.hid (fun W (i : BI w w.heap.size b c W) => spots_any W (h.below i.bl))
  have HAn := Lib.hid (fun W => at_any n W)
  have HQt := Lib.hid (fun W g => parse_any t (by omega) W g)
  rw [s1] at HI
  rw [s2] at HN
  rw [s3] at HP
  have HAm := Lib.hid (fun W => at_any 0 W)
  rw [show atV 0 = (1, 0, 0) by decide] at HAm
  have HQx := Lib.hid (fun W g => parse_any ⟨#[]⟩ (by decide) W g)
  rw [show pV ⟨#[]⟩ = (0, 0, 20) by decide] at HQx
  clear s1 s2 s3
  have HNp := Lib.hid (fun W => num_any p q W)
  have HIp := Lib.hid (fun W => is_any p q W)
  rw [f2] at HNp
  rw [f3] at HIp
  rw [f1] at HAn
  clear f1 f2 f3
  have HPp := Lib.hid (fun W => print_any u v W)
  have HIu := Lib.hid (fun W => is_any u v W)
  rw [g2] at HPp
  rw [g3] at HIu
  rw [g1] at HQt
  clear g1 g2 g3
  dsimp only at HN HP HAm HQx HAn HNp HQt HPp
  clear h
  have ht1 : (t.toList == t.toList) = true := by simp
  have hnn : (n == n) = true := by simp
  have hq : (b == b && (c == c)) = true := by simp
  go_enter Tryd.func4, Tryd.ntmps4
  obtain ⟨c0, c1⟩ := I0.out.s.cells
  go_wp2_with fail
  refine (HN.out _).mono ?_
  rintro e w1 ⟨rfl, hb⟩
  have I1 := Lib.hid (I0.out.step hb)
  clear hb I0 c0 c1
  go_wp2_with fail
  refine (HAm.out _).mono ?_
  rintro e w2 ⟨rfl, hb⟩
  have I2 := Lib.hid ((I1.out.step hb).alloc (.cells #[.int .i64 1, .int .i64 0] 23))
  have J2 := Lib.hid (Two.new w2 1 0 23 _ rfl)
  clear hb I1
  obtain ⟨c0, c1⟩ := I2.out.s.cells
  go_wp2_with fail
  refine (HP.out _).mono ?_
  rintro e w3 ⟨rfl, hb⟩
  have I3 := Lib.hid (I2.out.step hb)
  have J3 := Lib.hid (J2.out.below hb)
  clear hb I2 J2 c0 c1
  go_wp2_with fail
  refine (HQx.out _ (HG.out.below I3.out.bl)).mono ?_
  rintro e w4 ⟨rfl, hb⟩
  have I4 := Lib.hid ((I3.out.step hb).alloc (.cells #[.int .i64 0, .int .i64 0] 23))
  have J4 := Lib.hid ((J3.out.below hb).alloc (.cells #[.int .i64 0, .int .i64 0] 23))
  have K4 := Lib.hid (Two.new w4 0 0 23 _ rfl)
  clear hb I3 J3
  obtain ⟨c0, c1⟩ := I4.out.s.cells
  go_wp2_with fail
  refine (HI.out _).mono ?_
  rintro e w5 ⟨rfl, hb⟩
  have I5 := Lib.hid (I4.out.step hb)
  have J5 := Lib.hid (J4.out.below hb)
  have K5 := Lib.hid (K4.out.below hb)
  clear hb I4 J4 K4 c0 c1
  obtain ⟨c0, c1⟩ := I5.out.s.cells
  obtain ⟨d0, d1⟩ := J5.out.cells
  obtain ⟨e0, e1⟩ := K5.out.cells
  go_wp2_with fail
  refine (HI.out _).mono ?_
  rintro e w6 ⟨rfl, hb⟩
  have I6 := Lib.hid (I5.out.step hb)
  clear hb I5 J5 K5 c0 c1 d0 d1 e0 e1
  go_wp2_with fail
  refine (HAn.out _).mono ?_
  rintro e w7 ⟨rfl, hb⟩
  have I7 := Lib.hid ((I6.out.step hb).alloc (.cells #[.int .i64 p, .int .i64 q] 23))
  have D7 := Lib.hid (Two.new w7 p q 23 _ rfl)
  clear hb I6
  obtain ⟨c0, c1⟩ := D7.out.cells
  go_wp2_with fail
  refine (HNp.out _).mono ?_
  rintro e w8 ⟨rfl, hb⟩
  have I8 := Lib.hid (I7.out.step hb)
  have D8 := Lib.hid (D7.out.below hb)
  clear hb I7 D7 c0 c1
  go_wp2_with fail
  refine (HQt.out _ (HG.out.below I8.out.bl)).mono ?_
  rintro e w9 ⟨rfl, hb⟩
  have I9 := Lib.hid ((I8.out.step hb).alloc (.cells #[.int .i64 u, .int .i64 v] 23))
  have D9 := Lib.hid ((D8.out.below hb).alloc (.cells #[.int .i64 u, .int .i64 v] 23))
  have X9 := Lib.hid (Two.new w9 u v 23 _ rfl)
  clear hb I8 D8
  obtain ⟨c0, c1⟩ := X9.out.cells
  go_wp2_with fail
  refine (HPp.out _).mono ?_
  rintro e w10 ⟨rfl, hb⟩
  have I10 := Lib.hid (I9.out.step hb)
  have D10 := Lib.hid (D9.out.below hb)
  have X10 := Lib.hid (X9.out.below hb)
  clear hb I9 D9 X9 c0 c1
  go_wp2_with fail
  refine (HS.out _ I10.out).mono ?_
  rintro e w11 ⟨rfl, hb⟩
  have I11 := Lib.hid (I10.out.step hb)
  have D11 := Lib.hid (D10.out.below hb)
  have X11 := Lib.hid (X10.out.below hb)
  clear hb I10 D10 X10
  obtain ⟨c0, c1⟩ := D11.out.cells
  go_wp2_with fail
  refine (HIp.out _).mono ?_
  rintro e w12 ⟨rfl, hb⟩
  have I12 := Lib.hid (I11.out.step hb)
  have X12 := Lib.hid (X11.out.below hb)
  clear hb I11 X11 c0 c1
  obtain ⟨c0, c1⟩ := X12.out.cells
  go_wp2_with fail
  refine (HIu.out _).mono ?_
  rintro e w13 ⟨rfl, hb⟩
  have I13 := Lib.hid (I12.out.step hb)
  clear hb I12 X12 c0 c1
  go_wp2_with fail
  go_ret
  exact ⟨rfl, I13.out.bl⟩
set_option maxRecDepth 100000 in
set_option maxHeartbeats 20000000 in
theorem back_010 (b c n : Int) (t : ByteArray) (w : World) (h : GW w) (ht : t.size ≤ 200)
    (s1 : isS b c = false) (s2 : numV b c = (0, 1)) (s3 : prV b c = (⟨#[]⟩, 1))
    (p q : Int) (f1 : atV n = (p, q, 0)) (f2 : numV p q = (n, 0)) (f3 : isS p q = true)
    (g1 : pV t = (0, 0, 20)) :
    Calls Tryd.prog 4 #[.agg #[.int .i64 b, .int .i64 c], .int .i64 n, .string t] w fun e w' => e = .returned (.bool true) ∧ Below w.heap.size w w' := by
  have I0 := Lib.hid (show BI w w.heap.size b c (w.alloc (.cells #[.int .i64 b, .int .i64 c] 23)) from ⟨Two.new w b c 23 _ rfl, (Below.refl _ _).alloc (Nat.le_refl _) _⟩)
  have HG := Lib.hid h
  have hd : decide (200 < (t.size : Int)) = false := by simp; omega
  have hd2 : decide (200 < t.size) = false := by simp; omega
  have HN := Lib.hid (fun W => num_any b c W)
  have HP := Lib.hid (fun W => print_any b c W)
  have HI := Lib.hid (fun W => is_any b c W)
  have HS := Lib.hid (fun W (i : BI w w.heap.size b c W) => spots_any W (h.below i.bl))
  have HAn := Lib.hid (fun W => at_any n W)
  have HQt := Lib.hid (fun W g => parse_any t (by omega) W g)
  rw [s1] at HI
  rw [s2] at HN
  rw [s3] at HP
  have HAm := Lib.hid (fun W => at_any 0 W)
  rw [show atV 0 = (1, 0, 0) by decide] at HAm
  have HQx := Lib.hid (fun W g => parse_any ⟨#[]⟩ (by decide) W g)
  rw [show pV ⟨#[]⟩ = (0, 0, 20) by decide] at HQx
  clear s1 s2 s3
  have HNp := Lib.hid (fun W => num_any p q W)
  have HIp := Lib.hid (fun W => is_any p q W)
  rw [f2] at HNp
  rw [f3] at HIp
  rw [f1] at HAn
  clear f1 f2 f3
  have HPp := Lib.hid (fun W => print_any 0 0 W)
  rw [show prV 0 0 = (⟨#[]⟩, 1) by decide] at HPp
  rw [g1] at HQt
  clear g1
  dsimp only at HN HP HAm HQx HAn HNp HQt HPp
  clear h
  have ht1 : (t.toList == t.toList) = true := by simp
  have hnn : (n == n) = true := by simp
  have hq : (b == b && (c == c)) = true := by simp
  go_enter Tryd.func4, Tryd.ntmps4
  obtain ⟨c0, c1⟩ := I0.out.s.cells
  go_wp2_with fail
  refine (HN.out _).mono ?_
  rintro e w1 ⟨rfl, hb⟩
  have I1 := Lib.hid (I0.out.step hb)
  clear hb I0 c0 c1
  go_wp2_with fail
  refine (HAm.out _).mono ?_
  rintro e w2 ⟨rfl, hb⟩
  have I2 := Lib.hid ((I1.out.step hb).alloc (.cells #[.int .i64 1, .int .i64 0] 23))
  have J2 := Lib.hid (Two.new w2 1 0 23 _ rfl)
  clear hb I1
  obtain ⟨c0, c1⟩ := I2.out.s.cells
  go_wp2_with fail
  refine (HP.out _).mono ?_
  rintro e w3 ⟨rfl, hb⟩
  have I3 := Lib.hid (I2.out.step hb)
  have J3 := Lib.hid (J2.out.below hb)
  clear hb I2 J2 c0 c1
  go_wp2_with fail
  refine (HQx.out _ (HG.out.below I3.out.bl)).mono ?_
  rintro e w4 ⟨rfl, hb⟩
  have I4 := Lib.hid ((I3.out.step hb).alloc (.cells #[.int .i64 0, .int .i64 0] 23))
  have J4 := Lib.hid ((J3.out.below hb).alloc (.cells #[.int .i64 0, .int .i64 0] 23))
  have K4 := Lib.hid (Two.new w4 0 0 23 _ rfl)
  clear hb I3 J3
  obtain ⟨c0, c1⟩ := I4.out.s.cells
  go_wp2_with fail
  refine (HI.out _).mono ?_
  rintro e w5 ⟨rfl, hb⟩
  have I5 := Lib.hid (I4.out.step hb)
  have J5 := Lib.hid (J4.out.below hb)
  have K5 := Lib.hid (K4.out.below hb)
  clear hb I4 J4 K4 c0 c1
  obtain ⟨c0, c1⟩ := I5.out.s.cells
  obtain ⟨d0, d1⟩ := J5.out.cells
  obtain ⟨e0, e1⟩ := K5.out.cells
  go_wp2_with fail
  refine (HI.out _).mono ?_
  rintro e w6 ⟨rfl, hb⟩
  have I6 := Lib.hid (I5.out.step hb)
  clear hb I5 J5 K5 c0 c1 d0 d1 e0 e1
  go_wp2_with fail
  refine (HAn.out _).mono ?_
  rintro e w7 ⟨rfl, hb⟩
  have I7 := Lib.hid ((I6.out.step hb).alloc (.cells #[.int .i64 p, .int .i64 q] 23))
  have D7 := Lib.hid (Two.new w7 p q 23 _ rfl)
  clear hb I6
  obtain ⟨c0, c1⟩ := D7.out.cells
  go_wp2_with fail
  refine (HNp.out _).mono ?_
  rintro e w8 ⟨rfl, hb⟩
  have I8 := Lib.hid (I7.out.step hb)
  have D8 := Lib.hid (D7.out.below hb)
  clear hb I7 D7 c0 c1
  go_wp2_with fail
  refine (HQt.out _ (HG.out.below I8.out.bl)).mono ?_
  rintro e w9 ⟨rfl, hb⟩
  have I9 := Lib.hid ((I8.out.step hb).alloc (.cells #[.int .i64 0, .int .i64 0] 23))
  have D9 := Lib.hid ((D8.out.below hb).alloc (.cells #[.int .i64 0, .int .i64 0] 23))
  have X9 := Lib.hid (Two.new w9 0 0 23 _ rfl)
  clear hb I8 D8
  obtain ⟨c0, c1⟩ := X9.out.cells
  go_wp2_with fail
  refine (HPp.out _).mono ?_
  rintro e w10 ⟨rfl, hb⟩
  have I10 := Lib.hid (I9.out.step hb)
  have D10 := Lib.hid (D9.out.below hb)
  have X10 := Lib.hid (X9.out.below hb)
  clear hb I9 D9 X9 c0 c1
  go_wp2_with fail
  refine (HS.out _ I10.out).mono ?_
  rintro e w11 ⟨rfl, hb⟩
  have I11 := Lib.hid (I10.out.step hb)
  have D11 := Lib.hid (D10.out.below hb)
  have X11 := Lib.hid (X10.out.below hb)
  clear hb I10 D10 X10
  obtain ⟨c0, c1⟩ := D11.out.cells
  go_wp2_with fail
  refine (HIp.out _).mono ?_
  rintro e w12 ⟨rfl, hb⟩
  have I12 := Lib.hid (I11.out.step hb)
  have X12 := Lib.hid (X11.out.below hb)
  clear hb I11 X11 c0 c1
  go_wp2_with fail
  go_ret
  exact ⟨rfl, I12.out.bl⟩
set_option maxRecDepth 100000 in
set_option maxHeartbeats 20000000 in
theorem back_001 (b c n : Int) (t : ByteArray) (w : World) (h : GW w) (ht : t.size ≤ 200)
    (s1 : isS b c = false) (s2 : numV b c = (0, 1)) (s3 : prV b c = (⟨#[]⟩, 1))
    (f1 : atV n = (0, 0, 1))
    (u v : Int) (g1 : pV t = (u, v, 0)) (g2 : prV u v = (t, 0)) (g3 : isS u v = true) :
    Calls Tryd.prog 4 #[.agg #[.int .i64 b, .int .i64 c], .int .i64 n, .string t] w fun e w' => e = .returned (.bool true) ∧ Below w.heap.size w w' := by
  have I0 := Lib.hid (show BI w w.heap.size b c (w.alloc (.cells #[.int .i64 b, .int .i64 c] 23)) from ⟨Two.new w b c 23 _ rfl, (Below.refl _ _).alloc (Nat.le_refl _) _⟩)
  have HG := Lib.hid h
  have hd : decide (200 < (t.size : Int)) = false := by simp; omega
  have hd2 : decide (200 < t.size) = false := by simp; omega
  have HN := Lib.hid (fun W => num_any b c W)
  have HP := Lib.hid (fun W => print_any b c W)
  have HI := Lib.hid (fun W => is_any b c W)
  have HS := Lib.hid (fun W (i : BI w w.heap.size b c W) => spots_any W (h.below i.bl))
  have HAn := Lib.hid (fun W => at_any n W)
  have HQt := Lib.hid (fun W g => parse_any t (by omega) W g)
  rw [s1] at HI
  rw [s2] at HN
  rw [s3] at HP
  have HAm := Lib.hid (fun W => at_any 0 W)
  rw [show atV 0 = (1, 0, 0) by decide] at HAm
  have HQx := Lib.hid (fun W g => parse_any ⟨#[]⟩ (by decide) W g)
  rw [show pV ⟨#[]⟩ = (0, 0, 20) by decide] at HQx
  clear s1 s2 s3
  have HNp := Lib.hid (fun W => num_any 0 0 W)
  rw [show numV 0 0 = (0, 1) by decide] at HNp
  rw [f1] at HAn
  clear f1
  have HPp := Lib.hid (fun W => print_any u v W)
  have HIu := Lib.hid (fun W => is_any u v W)
  rw [g2] at HPp
  rw [g3] at HIu
  rw [g1] at HQt
  clear g1 g2 g3
  dsimp only at HN HP HAm HQx HAn HNp HQt HPp
  clear h
  have ht1 : (t.toList == t.toList) = true := by simp
  have hnn : (n == n) = true := by simp
  have hq : (b == b && (c == c)) = true := by simp
  go_enter Tryd.func4, Tryd.ntmps4
  obtain ⟨c0, c1⟩ := I0.out.s.cells
  go_wp2_with fail
  refine (HN.out _).mono ?_
  rintro e w1 ⟨rfl, hb⟩
  have I1 := Lib.hid (I0.out.step hb)
  clear hb I0 c0 c1
  go_wp2_with fail
  refine (HAm.out _).mono ?_
  rintro e w2 ⟨rfl, hb⟩
  have I2 := Lib.hid ((I1.out.step hb).alloc (.cells #[.int .i64 1, .int .i64 0] 23))
  have J2 := Lib.hid (Two.new w2 1 0 23 _ rfl)
  clear hb I1
  obtain ⟨c0, c1⟩ := I2.out.s.cells
  go_wp2_with fail
  refine (HP.out _).mono ?_
  rintro e w3 ⟨rfl, hb⟩
  have I3 := Lib.hid (I2.out.step hb)
  have J3 := Lib.hid (J2.out.below hb)
  clear hb I2 J2 c0 c1
  go_wp2_with fail
  refine (HQx.out _ (HG.out.below I3.out.bl)).mono ?_
  rintro e w4 ⟨rfl, hb⟩
  have I4 := Lib.hid ((I3.out.step hb).alloc (.cells #[.int .i64 0, .int .i64 0] 23))
  have J4 := Lib.hid ((J3.out.below hb).alloc (.cells #[.int .i64 0, .int .i64 0] 23))
  have K4 := Lib.hid (Two.new w4 0 0 23 _ rfl)
  clear hb I3 J3
  obtain ⟨c0, c1⟩ := I4.out.s.cells
  go_wp2_with fail
  refine (HI.out _).mono ?_
  rintro e w5 ⟨rfl, hb⟩
  have I5 := Lib.hid (I4.out.step hb)
  have J5 := Lib.hid (J4.out.below hb)
  have K5 := Lib.hid (K4.out.below hb)
  clear hb I4 J4 K4 c0 c1
  obtain ⟨c0, c1⟩ := I5.out.s.cells
  obtain ⟨d0, d1⟩ := J5.out.cells
  obtain ⟨e0, e1⟩ := K5.out.cells
  go_wp2_with fail
  refine (HI.out _).mono ?_
  rintro e w6 ⟨rfl, hb⟩
  have I6 := Lib.hid (I5.out.step hb)
  clear hb I5 J5 K5 c0 c1 d0 d1 e0 e1
  go_wp2_with fail
  refine (HAn.out _).mono ?_
  rintro e w7 ⟨rfl, hb⟩
  have I7 := Lib.hid ((I6.out.step hb).alloc (.cells #[.int .i64 0, .int .i64 0] 23))
  have D7 := Lib.hid (Two.new w7 0 0 23 _ rfl)
  clear hb I6
  obtain ⟨c0, c1⟩ := D7.out.cells
  go_wp2_with fail
  refine (HNp.out _).mono ?_
  rintro e w8 ⟨rfl, hb⟩
  have I8 := Lib.hid (I7.out.step hb)
  have D8 := Lib.hid (D7.out.below hb)
  clear hb I7 D7 c0 c1
  go_wp2_with fail
  refine (HQt.out _ (HG.out.below I8.out.bl)).mono ?_
  rintro e w9 ⟨rfl, hb⟩
  have I9 := Lib.hid ((I8.out.step hb).alloc (.cells #[.int .i64 u, .int .i64 v] 23))
  have D9 := Lib.hid ((D8.out.below hb).alloc (.cells #[.int .i64 u, .int .i64 v] 23))
  have X9 := Lib.hid (Two.new w9 u v 23 _ rfl)
  clear hb I8 D8
  obtain ⟨c0, c1⟩ := X9.out.cells
  go_wp2_with fail
  refine (HPp.out _).mono ?_
  rintro e w10 ⟨rfl, hb⟩
  have I10 := Lib.hid (I9.out.step hb)
  have D10 := Lib.hid (D9.out.below hb)
  have X10 := Lib.hid (X9.out.below hb)
  clear hb I9 D9 X9 c0 c1
  go_wp2_with fail
  refine (HS.out _ I10.out).mono ?_
  rintro e w11 ⟨rfl, hb⟩
  have I11 := Lib.hid (I10.out.step hb)
  have D11 := Lib.hid (D10.out.below hb)
  have X11 := Lib.hid (X10.out.below hb)
  clear hb I10 D10 X10
  obtain ⟨c0, c1⟩ := X11.out.cells
  go_wp2_with fail
  refine (HIu.out _).mono ?_
  rintro e w12 ⟨rfl, hb⟩
  have I12 := Lib.hid (I11.out.step hb)
  clear hb I11 X11 c0 c1
  go_wp2_with fail
  go_ret
  exact ⟨rfl, I12.out.bl⟩
set_option maxRecDepth 100000 in
set_option maxHeartbeats 20000000 in
theorem back_000 (b c n : Int) (t : ByteArray) (w : World) (h : GW w) (ht : t.size ≤ 200)
    (s1 : isS b c = false) (s2 : numV b c = (0, 1)) (s3 : prV b c = (⟨#[]⟩, 1))
    (f1 : atV n = (0, 0, 1))
    (g1 : pV t = (0, 0, 20)) :
    Calls Tryd.prog 4 #[.agg #[.int .i64 b, .int .i64 c], .int .i64 n, .string t] w fun e w' => e = .returned (.bool true) ∧ Below w.heap.size w w' := by
  have I0 := Lib.hid (show BI w w.heap.size b c (w.alloc (.cells #[.int .i64 b, .int .i64 c] 23)) from ⟨Two.new w b c 23 _ rfl, (Below.refl _ _).alloc (Nat.le_refl _) _⟩)
  have HG := Lib.hid h
  have hd : decide (200 < (t.size : Int)) = false := by simp; omega
  have hd2 : decide (200 < t.size) = false := by simp; omega
  have HN := Lib.hid (fun W => num_any b c W)
  have HP := Lib.hid (fun W => print_any b c W)
  have HI := Lib.hid (fun W => is_any b c W)
  have HS := Lib.hid (fun W (i : BI w w.heap.size b c W) => spots_any W (h.below i.bl))
  have HAn := Lib.hid (fun W => at_any n W)
  have HQt := Lib.hid (fun W g => parse_any t (by omega) W g)
  rw [s1] at HI
  rw [s2] at HN
  rw [s3] at HP
  have HAm := Lib.hid (fun W => at_any 0 W)
  rw [show atV 0 = (1, 0, 0) by decide] at HAm
  have HQx := Lib.hid (fun W g => parse_any ⟨#[]⟩ (by decide) W g)
  rw [show pV ⟨#[]⟩ = (0, 0, 20) by decide] at HQx
  clear s1 s2 s3
  have HNp := Lib.hid (fun W => num_any 0 0 W)
  rw [show numV 0 0 = (0, 1) by decide] at HNp
  rw [f1] at HAn
  clear f1
  have HPp := Lib.hid (fun W => print_any 0 0 W)
  rw [show prV 0 0 = (⟨#[]⟩, 1) by decide] at HPp
  rw [g1] at HQt
  clear g1
  dsimp only at HN HP HAm HQx HAn HNp HQt HPp
  clear h
  have ht1 : (t.toList == t.toList) = true := by simp
  have hnn : (n == n) = true := by simp
  have hq : (b == b && (c == c)) = true := by simp
  go_enter Tryd.func4, Tryd.ntmps4
  obtain ⟨c0, c1⟩ := I0.out.s.cells
  go_wp2_with fail
  refine (HN.out _).mono ?_
  rintro e w1 ⟨rfl, hb⟩
  have I1 := Lib.hid (I0.out.step hb)
  clear hb I0 c0 c1
  go_wp2_with fail
  refine (HAm.out _).mono ?_
  rintro e w2 ⟨rfl, hb⟩
  have I2 := Lib.hid ((I1.out.step hb).alloc (.cells #[.int .i64 1, .int .i64 0] 23))
  have J2 := Lib.hid (Two.new w2 1 0 23 _ rfl)
  clear hb I1
  obtain ⟨c0, c1⟩ := I2.out.s.cells
  go_wp2_with fail
  refine (HP.out _).mono ?_
  rintro e w3 ⟨rfl, hb⟩
  have I3 := Lib.hid (I2.out.step hb)
  have J3 := Lib.hid (J2.out.below hb)
  clear hb I2 J2 c0 c1
  go_wp2_with fail
  refine (HQx.out _ (HG.out.below I3.out.bl)).mono ?_
  rintro e w4 ⟨rfl, hb⟩
  have I4 := Lib.hid ((I3.out.step hb).alloc (.cells #[.int .i64 0, .int .i64 0] 23))
  have J4 := Lib.hid ((J3.out.below hb).alloc (.cells #[.int .i64 0, .int .i64 0] 23))
  have K4 := Lib.hid (Two.new w4 0 0 23 _ rfl)
  clear hb I3 J3
  obtain ⟨c0, c1⟩ := I4.out.s.cells
  go_wp2_with fail
  refine (HI.out _).mono ?_
  rintro e w5 ⟨rfl, hb⟩
  have I5 := Lib.hid (I4.out.step hb)
  have J5 := Lib.hid (J4.out.below hb)
  have K5 := Lib.hid (K4.out.below hb)
  clear hb I4 J4 K4 c0 c1
  obtain ⟨c0, c1⟩ := I5.out.s.cells
  obtain ⟨d0, d1⟩ := J5.out.cells
  obtain ⟨e0, e1⟩ := K5.out.cells
  go_wp2_with fail
  refine (HI.out _).mono ?_
  rintro e w6 ⟨rfl, hb⟩
  have I6 := Lib.hid (I5.out.step hb)
  clear hb I5 J5 K5 c0 c1 d0 d1 e0 e1
  go_wp2_with fail
  refine (HAn.out _).mono ?_
  rintro e w7 ⟨rfl, hb⟩
  have I7 := Lib.hid ((I6.out.step hb).alloc (.cells #[.int .i64 0, .int .i64 0] 23))
  have D7 := Lib.hid (Two.new w7 0 0 23 _ rfl)
  clear hb I6
  obtain ⟨c0, c1⟩ := D7.out.cells
  go_wp2_with fail
  refine (HNp.out _).mono ?_
  rintro e w8 ⟨rfl, hb⟩
  have I8 := Lib.hid (I7.out.step hb)
  have D8 := Lib.hid (D7.out.below hb)
  clear hb I7 D7 c0 c1
  go_wp2_with fail
  refine (HQt.out _ (HG.out.below I8.out.bl)).mono ?_
  rintro e w9 ⟨rfl, hb⟩
  have I9 := Lib.hid ((I8.out.step hb).alloc (.cells #[.int .i64 0, .int .i64 0] 23))
  have D9 := Lib.hid ((D8.out.below hb).alloc (.cells #[.int .i64 0, .int .i64 0] 23))
  have X9 := Lib.hid (Two.new w9 0 0 23 _ rfl)
  clear hb I8 D8
  obtain ⟨c0, c1⟩ := X9.out.cells
  go_wp2_with fail
  refine (HPp.out _).mono ?_
  rintro e w10 ⟨rfl, hb⟩
  have I10 := Lib.hid (I9.out.step hb)
  have D10 := Lib.hid (D9.out.below hb)
  have X10 := Lib.hid (X9.out.below hb)
  clear hb I9 D9 X9 c0 c1
  go_wp2_with fail
  refine (HS.out _ I10.out).mono ?_
  rintro e w11 ⟨rfl, hb⟩
  have I11 := Lib.hid (I10.out.step hb)
  have D11 := Lib.hid (D10.out.below hb)
  have X11 := Lib.hid (X10.out.below hb)
  clear hb I10 D10 X10
  go_wp2_with fail
  go_ret
  exact ⟨rfl, I11.out.bl⟩
theorem back_any (b c n : Int) (t : ByteArray) (w : World) (h : GW w) (hm : t.size ≤ maxLen) :
    Calls Tryd.prog 4 #[.agg #[.int .i64 b, .int .i64 c], .int .i64 n, .string t] w fun e w' => e = .returned (.bool true) ∧ Below w.heap.size w w' := by
  by_cases ht : t.size ≤ 200
  · rcases spot_facts b c with ⟨s1, m, s2, s3, s4, s5, s6, s7⟩ | ⟨s1, s2, s3, _, _⟩ <;> rcases at_facts n with ⟨p, q, f1, f2, f3⟩ | f1 <;> rcases parse_facts t with ⟨u, v, g1, g2, g3⟩ | g1
    · exact back_111 b c n t w h ht s1 m s2 s3 s4 s5 s6 s7 p q f1 f2 f3 u v g1 g2 g3
    · exact back_110 b c n t w h ht s1 m s2 s3 s4 s5 s6 s7 p q f1 f2 f3 g1
    · exact back_101 b c n t w h ht s1 m s2 s3 s4 s5 s6 s7 f1 u v g1 g2 g3
    · exact back_100 b c n t w h ht s1 m s2 s3 s4 s5 s6 s7 f1 g1
    · exact back_011 b c n t w h ht s1 s2 s3 p q f1 f2 f3 u v g1 g2 g3
    · exact back_010 b c n t w h ht s1 s2 s3 p q f1 f2 f3 g1
    · exact back_001 b c n t w h ht s1 s2 s3 f1 u v g1 g2 g3
    · exact back_000 b c n t w h ht s1 s2 s3 f1 g1
  · exact back_big b c n t w (by omega) hm
end Go.Proofs.YtpchbdpepgeibaaDoor
