/- SpotDoes. -/
import Derived.Test.YtpchbdpepgeibaaDoorS
namespace Go.Proofs.YtpchbdpepgeibaaDoor
open Go.RowKit Go.Proofs.YtpchbdpepgeibaaDoorW.PrintWords Go.Proofs.YtpchbdpepgeibaaDoorW.PrintLast Go.Proofs.YtpchbdpepgeibaaDoorW.PrintMore Go.Lib
set_option linter.unusedVariables false
set_option linter.unusedSimpArgs false
attribute [local go_sem high] RSame.eqA23

def Q13.T : Bool × List (List Nat × List Nat) := (true, [([], []), ([0, 0], [0]), ([1], [1]), ([1, 2], [1, 2]), ([3, 1], [3]), ([4], [4]), ([5, 4, 4], [4, 5]), ([4], [4]), ([7, 6, 4], [4, 7]), ([6, 8, 4], [4, 6, 8]), ([4, 9], [4, 9]), ([10, 8], [10]), ([11], [11]), ([11], [11]), ([12, 13, 11, 11], [11, 12, 13]), ([11], [11]), ([11], [11]), ([15, 16, 14, 11], [11, 15, 16]), ([14, 17, 11], [11, 14, 17]), ([11, 18], [11, 18]), ([19, 17], [19]), ([20], [20]), ([21, 20, 20], [20, 21]), ([20], [20]), ([23, 22, 20], [20, 23]), ([22, 24, 24, 20], [20, 22, 24]), ([20, 25], [20, 25]), ([26, 25], [26]), ([27], [27]), ([27], [27]), ([28, 29, 27, 27], [27, 28, 29]), ([27, 30], [27, 30]), ([31, 30, 0, 1, 2, 3, 4, 5, 6, 7, 8, 9, 10, 11, 12, 13, 14, 15, 16, 17, 18, 19, 20, 21, 22, 23, 24, 25, 26, 27, 28, 29, 30, 31], [31])])
def Q13.B : List Nat := [0, 1, 3, 7, 15, 31, 63, 31, 255, 511, 1023, 2047, 4095, 4095, 16383, 4095, 4095, 131071, 262143, 524287, 1048575, 2097151, 4194303, 2097151, 16777215, 33554431, 67108863, 134217727, 268435455, 268435455, 1073741823, 2147483647, 4294967295]
theorem Q13.tab : rtab .any (opsOf Tryd.f3 13) = Q13.T := by kernel_rfl
theorem Q13.bits : waitsOk Q13.T.2 Q13.B = true := by kernel_rfl

/-- What stays through the law's walk. -/
structure DI (w0 : World) (n : Nat) (s0 s1 t0 t1 : Int) (A A1 : Option Addr) (l : List S23) (W : World) : Prop where
  ts : Two W n s0 s1 23
  tt : Two W (n + 1) t0 t1 23
  cl : CW W A l
  ca : CW W A1 l
  bl : Below w0.heap.size w0 W
theorem DI.grow {w0 W W' : World} {n : Nat} {s0 s1 t0 t1 : Int} {A A1 : Option Addr} {l : List S23} (h : DI w0 n s0 s1 t0 t1 A A1 l W) (g : W.grownBy W' none) : DI w0 n s0 s1 t0 t1 A A1 l W' :=
  ⟨h.ts.grow g, h.tt.grow g, h.cl.grow g, h.ca.grow g, grow_below h.bl g h.bl.size⟩
theorem DI.step {w0 W W' : World} {n : Nat} {s0 s1 t0 t1 : Int} {A A1 : Option Addr} {l : List S23} (h : DI w0 n s0 s1 t0 t1 A A1 l W) (b : Below W.heap.size W W') : DI w0 n s0 s1 t0 t1 A A1 l W' := h.grow (grow_of_below b)
theorem DI.alloc {w0 W : World} {n : Nat} {s0 s1 t0 t1 : Int} {A A1 : Option Addr} {l : List S23} (h : DI w0 n s0 s1 t0 t1 A A1 l W) (o : Obj) : DI w0 n s0 s1 t0 t1 A A1 l (W.alloc o) := h.grow (grow_alloc _ _)
theorem DI.drew {w0 W : World} {n : Nat} {s0 s1 t0 t1 : Int} {A A1 : Option Addr} {l : List S23} (h : DI w0 n s0 s1 t0 t1 A A1 l W) : DI w0 n s0 s1 t0 t1 A A1 l W.drew := h.grow (grow_drew _)
theorem DI.cells {w0 W : World} {n : Nat} {s0 s1 t0 t1 : Int} {A A1 : Option Addr} {l : List S23} (h : DI w0 n s0 s1 t0 t1 A A1 l W) :
    (W.cell? ⟨n, 0, none⟩ = some (.int .i64 s0) ∧ W.cell? ⟨n, 1, none⟩ = some (.int .i64 s1)) ∧ (W.cell? ⟨n + 1, 0, none⟩ = some (.int .i64 t0) ∧ W.cell? ⟨n + 1, 1, none⟩ = some (.int .i64 t1)) := ⟨h.ts.cells, h.tt.cells⟩
theorem same_self (A B : Option Addr) (c d : Nat) (xs : List Int) (w : World) (hl : xs.length ≤ 1000) (hx : CI w A xs) (hy : CI w B xs) :
    Calls Tryd.prog 22 #[.slice A xs.length c, .slice B xs.length d] w fun e w' => e = .returned (.bool true) ∧ w.grownBy w' none := by
  have h := same_any A B c d xs xs w (by omega) (by omega) hx hy
  rw [show decide (xs = xs) = true by simp] at h
  exact h

theorem does_big1 (s0 s1 t0 t1 n : Int) (text : ByteArray) (A : Option Addr) (m c : Nat) (w : World) (ht : 200 < text.size) (hm : text.size ≤ maxLen) :
    Calls Tryd.prog 3 #[.agg #[.int .i64 s0, .int .i64 s1], .agg #[.int .i64 t0, .int .i64 t1], .int .i64 n, .string text, .slice A m c] w fun e w' => e = .returned (.bool true) ∧ Below w.heap.size w w' := by
  unfold maxLen at hm
  have hd : decide (200 < (text.size : Int)) = true := by simp; omega
  have hd2 : decide (200 < text.size) = true := by simp; omega
  go_enter Tryd.func3, Tryd.ntmps3
  go_wp2_with fail
  go_ret
  exact ⟨rfl, ((Below.refl _ _).alloc (Nat.le_refl _) _).alloc (by simp) _⟩
theorem does_big2 (s0 s1 t0 t1 n : Int) (text : ByteArray) (A : Option Addr) (m c : Nat) (w : World) (ht : text.size ≤ 200) (hk : 100 < m) (hm : m ≤ 9223372036854775807) :
    Calls Tryd.prog 3 #[.agg #[.int .i64 s0, .int .i64 s1], .agg #[.int .i64 t0, .int .i64 t1], .int .i64 n, .string text, .slice A m c] w fun e w' => e = .returned (.bool true) ∧ Below w.heap.size w w' := by
  have hd : decide (200 < (text.size : Int)) = false := by simp; omega
  have hd2 : decide (200 < text.size) = false := by simp; omega
  have hd3 : decide (100 < (m : Int)) = true := by simp; omega
  go_enter Tryd.func3, Tryd.ntmps3
  go_wp2_with fail
  go_ret
  exact ⟨rfl, ((Below.refl _ _).alloc (Nat.le_refl _) _).alloc (by simp) _⟩

set_option maxRecDepth 100000 in
set_option maxHeartbeats 20000000 in
theorem does_any (s0 s1 t0 t1 n : Int) (text : ByteArray) (A : Option Addr) (c : Nat) (l : List S23) (w : World) (h : GW w) (hcw : CW w A l) (ht : text.size ≤ 200) (hl : l.length ≤ 100) (hc : l.length ≤ c) :
    Calls Tryd.prog 3 #[.agg #[.int .i64 s0, .int .i64 s1], .agg #[.int .i64 t0, .int .i64 t1], .int .i64 n, .string text, .slice A l.length c] w fun e w' => e = .returned (.bool true) ∧ Below w.heap.size w w' := by
  have B0 := Lib.hid (((Below.refl w.heap.size w).alloc (Nat.le_refl _) (.cells #[.int .i64 s0, .int .i64 s1] 23)).alloc (by simp) (.cells #[.int .i64 t0, .int .i64 t1] 23))
  have HO := Lib.hid (own_any A c l ((w.alloc (.cells #[.int .i64 s0, .int .i64 s1] 23)).alloc (.cells #[.int .i64 t0, .int .i64 t1] 23)) ((hcw.grow (grow_alloc _ _)).grow (grow_alloc _ _)) (by omega))
  have HD := Lib.hid (show ∀ A1 W, Below ((w.alloc (.cells #[.int .i64 s0, .int .i64 s1] 23)).alloc (.cells #[.int .i64 t0, .int .i64 t1] 23)).heap.size ((w.alloc (.cells #[.int .i64 s0, .int .i64 s1] 23)).alloc (.cells #[.int .i64 t0, .int .i64 t1] 23)) W → CW W A1 l → DI w w.heap.size s0 s1 t0 t1 A A1 l W from fun A1 W b ca =>
    ⟨((Two.new w s0 s1 23 _ rfl).alloc _).below b, (Two.new _ t0 t1 23 _ (by simp)).below b, (((hcw.grow (grow_alloc _ _)).grow (grow_alloc _ _)).grow (grow_of_below b)), ca, below_step B0.out b⟩)
  have HG := Lib.hid h
  have HN := Lib.hid (fun W => num_any s0 s1 W)
  have HN' := Lib.hid (fun W => rnum_any s0 s1 W)
  have HA := Lib.hid (fun W => at_any n W)
  have HA' := Lib.hid (fun W => rat_any n W)
  have HP := Lib.hid (fun W => print_any s0 s1 W)
  have HP' := Lib.hid (fun W => rprint_any s0 s1 W)
  have HQ := Lib.hid (fun W g => parse_any text (by omega) W g)
  have HQ' := Lib.hid (fun W => rparse_any text W)
  have HI := Lib.hid (fun W => is_any s0 s1 W)
  have HI' := Lib.hid (fun W => ris_any s0 s1 W)
  have HL := Lib.hid (fun W => less_any s0 s1 t0 t1 W)
  have HL' := Lib.hid (fun W => rless_any s0 s1 t0 t1 W)
  have HS := Lib.hid (fun W g => spots_any W g)
  have HB := Lib.hid (fun W (cl : CW W A l) => beds_any A c l W cl (by omega))
  have HB' := Lib.hid (fun A1 c1 W (ca : CW W A1 l) hc1 => rbeds_any A1 c1 l W ca (by omega) hc1)
  have HE := Lib.hid (fun A2 A3 c2 c3 W (x : CI W A2 (bedsV l)) (y : CI W A3 (bedsV l)) => same_self A2 A3 c2 c3 (bedsV l) W (by have : (bedsV l).length ≤ 99 := bedsTo_len l 99; omega) x y)
  have HE' := Lib.hid (fun A1 c1 W (cl : CW W A l) (ca : CW W A1 l) hc1 => rsame_any A A1 c c1 l W cl ca (by omega) hc hc1)
  have d1 : decide (200 < (text.size : Int)) = false := by simp; omega
  have d1' : decide (200 < text.size) = false := by simp; omega
  have d2 : decide (100 < (l.length : Int)) = false := by simp; omega
  generalize numV s0 s1 = N at *
  generalize atV n = a at *
  generalize prV s0 s1 = P at *
  generalize pV text = Q at *
  generalize isS s0 s1 = I at *
  generalize lessS s0 s1 t0 t1 = L at *
  generalize bedsV l = mm at *
  obtain ⟨n1, n2⟩ := N
  obtain ⟨a1, a2, a3⟩ := a
  obtain ⟨p1, p2⟩ := P
  obtain ⟨q1, q2, q3⟩ := Q
  dsimp only at HN HN' HA HA' HP HP' HQ HQ'
  obtain ⟨m, hm⟩ : ∃ m, m = l.length := ⟨_, rfl⟩
  have HM := Lib.hid hm
  rw [← hm] at HO HB HB' HE' hl hc d2 ⊢
  have e1 : (n1 == n1) = true := by simp
  have e2 : (n2 == n2) = true := by simp
  have e3 : (a1 == a1 && (a2 == a2)) = true := by simp
  have e4 : (a3 == a3) = true := by simp
  have e5 : (p1.toList == p1.toList) = true := by simp
  have e6 : (p2 == p2) = true := by simp
  have e7 : (q1 == q1 && (q2 == q2)) = true := by simp
  have e8 : (q3 == q3) = true := by simp
  have e9 : (I == I) = true := by simp
  have e10 : (L == L) = true := by simp
  clear h hcw hm B0 ht
  go_enter Tryd.func3, Tryd.ntmps3
  go_wp2_with fail
  refine HO.out.mono ?_
  rintro e w1 ⟨v1, rfl, hr, hb⟩
  obtain ⟨A1, c1, rfl, hc1, hcw1⟩ := hr.reads
  have I1 := Lib.hid (HD.out A1 w1 hb hcw1)
  rw [← HM.out] at hc1 ⊢
  generalize hDI : DI w w.heap.size s0 s1 t0 t1 A A1 l = D at *
  have KS := Lib.hid (show ∀ W W', D W → Below W.heap.size W W' → D W' by subst hDI; exact fun _ _ i b => i.step b)
  have KG := Lib.hid (show ∀ W W', D W → W.grownBy W' none → D W' by subst hDI; exact fun _ _ i b => i.grow b)
  have KA := Lib.hid (show ∀ W o, D W → D (W.alloc o) by subst hDI; exact fun _ o i => i.alloc o)
  have KD := Lib.hid (show ∀ W, D W → D W.drew by subst hDI; exact fun _ i => i.drew)
  have KC := Lib.hid (show ∀ W, D W → (W.cell? ⟨w.heap.size, 0, none⟩ = some (.int .i64 s0) ∧ W.cell? ⟨w.heap.size, 1, none⟩ = some (.int .i64 s1)) ∧ (W.cell? ⟨w.heap.size + 1, 0, none⟩ = some (.int .i64 t0) ∧ W.cell? ⟨w.heap.size + 1, 1, none⟩ = some (.int .i64 t1)) by subst hDI; exact fun _ i => i.cells)
  have KL := Lib.hid (show ∀ W, D W → CW W A l ∧ CW W A1 l ∧ Below w.heap.size w W by subst hDI; exact fun _ i => ⟨i.cl, i.ca, i.bl⟩)
  clear hDI hr hb hcw1 HO HD
  obtain ⟨⟨x0, x1⟩, ⟨y0, y1⟩⟩ := KC.out _ I1.out
  go_wp2_with fail
  refine (HN.out _).mono ?_
  rintro e w2 ⟨rfl, hb⟩
  have I2 := Lib.hid (KS.out _ _ I1.out hb)
  clear hb I1  x0 x1 y0 y1
  obtain ⟨⟨x0, x1⟩, ⟨y0, y1⟩⟩ := KC.out _ I2.out
  go_wp2_with fail
  refine (HN'.out _).mono ?_
  rintro e w3 ⟨rfl, hb⟩
  have I3 := Lib.hid (KS.out _ _ I2.out hb)
  clear hb I2  x0 x1 y0 y1
  go_wp2_with fail
  refine (HA.out _).mono ?_
  rintro e w4 ⟨rfl, hb⟩
  have I4 := Lib.hid (KS.out _ _ I3.out hb)
  clear hb I3 
  have I4 := Lib.hid (KA.out _ (.cells #[.int .i64 a1, .int .i64 a2] 23) I4.out)
  have Ja_4 := Lib.hid (Two.new w4 a1 a2 23 _ rfl)
  go_wp2_with fail
  refine (HA'.out _).mono ?_
  rintro e w5 ⟨rfl, hb⟩
  have I5 := Lib.hid (KS.out _ _ I4.out hb)
  have Ja_5 := Lib.hid (Ja_4.out.below hb)
  clear hb I4 Ja_4
  have I5 := Lib.hid (KA.out _ (.cells #[.int .i64 a1, .int .i64 a2] 23) I5.out)
  have Ja_5 := Lib.hid (Ja_5.out.alloc (.cells #[.int .i64 a1, .int .i64 a2] 23))
  have Jb_5 := Lib.hid (Two.new w5 a1 a2 23 _ rfl)
  obtain ⟨⟨x0, x1⟩, ⟨y0, y1⟩⟩ := KC.out _ I5.out
  go_wp2_with fail
  refine (HP.out _).mono ?_
  rintro e w6 ⟨rfl, hb⟩
  have I6 := Lib.hid (KS.out _ _ I5.out hb)
  have Ja_6 := Lib.hid (Ja_5.out.below hb)
  have Jb_6 := Lib.hid (Jb_5.out.below hb)
  clear hb I5 Ja_5 Jb_5 x0 x1 y0 y1
  obtain ⟨⟨x0, x1⟩, ⟨y0, y1⟩⟩ := KC.out _ I6.out
  go_wp2_with fail
  refine (HP'.out _).mono ?_
  rintro e w7 ⟨rfl, hb⟩
  have I7 := Lib.hid (KS.out _ _ I6.out hb)
  have Ja_7 := Lib.hid (Ja_6.out.below hb)
  have Jb_7 := Lib.hid (Jb_6.out.below hb)
  clear hb I6 Ja_6 Jb_6 x0 x1 y0 y1
  go_wp2_with fail
  refine (HQ.out _ (HG.out.below (KL.out _ I7.out).2.2)).mono ?_
  rintro e w8 ⟨rfl, hb⟩
  have I8 := Lib.hid (KS.out _ _ I7.out hb)
  have Ja_8 := Lib.hid (Ja_7.out.below hb)
  have Jb_8 := Lib.hid (Jb_7.out.below hb)
  clear hb I7 Ja_7 Jb_7
  have I8 := Lib.hid (KA.out _ (.cells #[.int .i64 q1, .int .i64 q2] 23) I8.out)
  have Ja_8 := Lib.hid (Ja_8.out.alloc (.cells #[.int .i64 q1, .int .i64 q2] 23))
  have Jb_8 := Lib.hid (Jb_8.out.alloc (.cells #[.int .i64 q1, .int .i64 q2] 23))
  have Jc_8 := Lib.hid (Two.new w8 q1 q2 23 _ rfl)
  go_wp2_with fail
  refine (HQ'.out _).mono ?_
  rintro e w9 ⟨rfl, hb⟩
  have I9 := Lib.hid (KS.out _ _ I8.out hb)
  have Ja_9 := Lib.hid (Ja_8.out.below hb)
  have Jb_9 := Lib.hid (Jb_8.out.below hb)
  have Jc_9 := Lib.hid (Jc_8.out.below hb)
  clear hb I8 Ja_8 Jb_8 Jc_8
  have I9 := Lib.hid (KA.out _ (.cells #[.int .i64 q1, .int .i64 q2] 23) I9.out)
  have Ja_9 := Lib.hid (Ja_9.out.alloc (.cells #[.int .i64 q1, .int .i64 q2] 23))
  have Jb_9 := Lib.hid (Jb_9.out.alloc (.cells #[.int .i64 q1, .int .i64 q2] 23))
  have Jc_9 := Lib.hid (Jc_9.out.alloc (.cells #[.int .i64 q1, .int .i64 q2] 23))
  have Jd_9 := Lib.hid (Two.new w9 q1 q2 23 _ rfl)
  obtain ⟨ja0, ja1⟩ := Ja_9.out.cells
  obtain ⟨jb0, jb1⟩ := Jb_9.out.cells
  obtain ⟨jc0, jc1⟩ := Jc_9.out.cells
  obtain ⟨jd0, jd1⟩ := Jd_9.out.cells
  obtain ⟨⟨x0, x1⟩, ⟨y0, y1⟩⟩ := KC.out _ I9.out
  go_wp2_with fail
  clear ja0 ja1 Ja_9 jb0 jb1 Jb_9 jc0 jc1 Jc_9 jd0 jd1 Jd_9 e1 e2 e3 e4 e5 e6 e7 e8
  refine start_ (n := 33) (S := (fun w' => (w'.cell? ⟨w.heap.size, 0, none⟩ = some (.int .i64 s0) ∧ w'.cell? ⟨w.heap.size, 1, none⟩ = some (.int .i64 s1)) ∧ (w'.cell? ⟨w.heap.size + 1, 0, none⟩ = some (.int .i64 t0) ∧ w'.cell? ⟨w.heap.size + 1, 1, none⟩ = some (.int .i64 t1)))) (ds := []) #[false, false, false, false, false, false, false, false, false, false, false, false, false, false, false, false, false, false, false, false, false, false, false, false, false, false, false, false, false, false, false, false, false] (by kernel_rfl) rfl rfl ⟨⟨x0, x1⟩, ⟨y0, y1⟩⟩ (fun hHeld => ?_)
  refine with_tabW Q13.tab Q13.bits (fun HT_ HW_ => ?_)
  refine one_ (i := 0) (N := some 117) #[true, false, false, false, false, false, false, false, false, false, false, false, false, false, false, false, false, false, false, false, false, false, false, false, false, false, false, false, false, false, false, false, false] rfl rfl (one_of HT_.out (by kernel_rfl)) (by decide) (fun K hK => ?_)
  refine goes_ Tryd.func17 (by kernel_rfl) rfl #[] (by rfl) rfl rfl (by (try simp only [List.map_toArray, List.map_cons, List.map_nil]); first | done | rfl) ?_
  with_reducible refine (HS.out _ (HG.out.below (KL.out _ (KD.out _ I9.out)).2.2)).mono ?_
  rintro e w10 ⟨rfl, hb⟩
  refine ⟨_, rfl, ?_⟩
  have I10 := Lib.hid (KS.out _ _ (KD.out _ I9.out) hb)
  refine hK.out _ _ (KC.out _ I10.out) (fun hHeld => ?_)
  clear hK K
  refine norm_ (a' := ?_) ?_ ?_
  rotate_left
  · show Act.put _ (some 117) _ = _
    simp only [Act.put, List.setIfInBounds_toArray, List.set_cons_zero, List.set_cons_succ, i64_w, i32_w]
    rfl
  refine pure_ (i := 1) (N := some 118) (v := ?_) (a' := ?_) #[true, true, false, false, false, false, false, false, false, false, false, false, false, false, false, false, false, false, false, false, false, false, false, false, false, false, false, false, false, false, false, false, false] rfl rfl (any_of HT_.out (by kernel_rfl)) (fun _ _ _ h => h) (Or.inl ⟨by rfl, ?_⟩) ?_ ?_
  rotate_left
  · intro w'
    go_simp
    with_reducible rfl
  rotate_left
  · simp only [Act.put, List.setIfInBounds_toArray, List.set_cons_zero, List.set_cons_succ, i64_w, i32_w]
    rfl
  refine pure_ (i := 2) (N := some 119) (v := ?_) (a' := ?_) #[true, true, true, false, false, false, false, false, false, false, false, false, false, false, false, false, false, false, false, false, false, false, false, false, false, false, false, false, false, false, false, false, false] rfl rfl (any_of HT_.out (by kernel_rfl)) (fun _ _ _ h => h) (Or.inl ⟨by rfl, ?_⟩) ?_ ?_
  rotate_left
  · intro w'
    go_simp
    with_reducible rfl
  rotate_left
  · simp only [Act.put, List.setIfInBounds_toArray, List.set_cons_zero, List.set_cons_succ, i64_w, i32_w]
    rfl
  refine pure_ (i := 3) (N := some 120) (v := ?_) (a' := ?_) #[true, true, true, true, false, false, false, false, false, false, false, false, false, false, false, false, false, false, false, false, false, false, false, false, false, false, false, false, false, false, false, false, false] rfl rfl (any_of HT_.out (by kernel_rfl)) (fun _ _ _ h => h) (Or.inl ⟨by rfl, ?_⟩) ?_ ?_
  rotate_left
  · intro w'
    go_simp
    with_reducible rfl
  rotate_left
  · simp only [Act.put, List.setIfInBounds_toArray, List.set_cons_zero, List.set_cons_succ, i64_w, i32_w]
    rfl
  refine pure_ (i := 4) (N := some 121) (v := ?_) (a' := ?_) #[true, true, true, true, true, false, false, false, false, false, false, false, false, false, false, false, false, false, false, false, false, false, false, false, false, false, false, false, false, false, false, false, false] rfl rfl (any_of HT_.out (by kernel_rfl)) (fun _ _ _ h => h) (Or.inl ⟨by rfl, ?_⟩) ?_ ?_
  rotate_left
  · intro w'
    go_simp
    with_reducible rfl
  rotate_left
  · simp only [Act.put, List.setIfInBounds_toArray, List.set_cons_zero, List.set_cons_succ, i64_w, i32_w]
    rfl
  refine take_ (i := 5) (N := some 122) (v := ?_) (a' := ?_) #[true, true, true, true, true, true, false, false, false, false, false, false, false, false, false, false, false, false, false, false, false, false, false, false, false, false, false, false, false, false, false, false, false] rfl rfl (take_ofW HT_.out HW_.out (by kernel_rfl)) (fun _ _ _ h => h) (Or.inl ⟨by rfl, ?_⟩) hHeld ?_ ?_
  rotate_left
  · rintro w' ⟨⟨x0, x1⟩, ⟨y0, y1⟩⟩
    go_simp
    with_reducible rfl
  rotate_left
  · simp only [Act.put, List.setIfInBounds_toArray, List.set_cons_zero, List.set_cons_succ, i64_w, i32_w]
    rfl
  refine take_ (i := 7) (N := some 124) (v := ?_) (a' := ?_) #[true, true, true, true, true, true, false, true, false, false, false, false, false, false, false, false, false, false, false, false, false, false, false, false, false, false, false, false, false, false, false, false, false] rfl rfl (take_ofW HT_.out HW_.out (by kernel_rfl)) (fun _ _ _ h => h) (Or.inl ⟨by rfl, ?_⟩) hHeld ?_ ?_
  rotate_left
  · rintro w' ⟨⟨x0, x1⟩, ⟨y0, y1⟩⟩
    go_simp
    with_reducible rfl
  rotate_left
  · simp only [Act.put, List.setIfInBounds_toArray, List.set_cons_zero, List.set_cons_succ, i64_w, i32_w]
    rfl
  refine one_ (i := 6) (N := some 123) #[true, true, true, true, true, true, true, true, false, false, false, false, false, false, false, false, false, false, false, false, false, false, false, false, false, false, false, false, false, false, false, false, false] rfl rfl (one_of HT_.out (by kernel_rfl)) (by decide) (fun K hK => ?_)
  refine goes_ Tryd.func18 (by kernel_rfl) rfl #[.agg #[.int .i64 s0, .int .i64 s1]] (by rfl) rfl rfl (by (try simp only [List.map_toArray, List.map_cons, List.map_nil]); first | done | rfl) ?_
  with_reducible refine (HI.out _).mono ?_
  rintro e w11 ⟨rfl, hb⟩
  refine ⟨_, rfl, ?_⟩
  have I11 := Lib.hid (KS.out _ _ I10.out hb)
  refine hK.out _ _ (KC.out _ I11.out) (fun hHeld => ?_)
  clear hK K
  refine norm_ (a' := ?_) ?_ ?_
  rotate_left
  · show Act.put _ (some 123) _ = _
    simp only [Act.put, List.setIfInBounds_toArray, List.set_cons_zero, List.set_cons_succ, i64_w, i32_w]
    rfl
  refine one_ (i := 8) (N := some 125) #[true, true, true, true, true, true, true, true, true, false, false, false, false, false, false, false, false, false, false, false, false, false, false, false, false, false, false, false, false, false, false, false, false] rfl rfl (one_of HT_.out (by kernel_rfl)) (by decide) (fun K hK => ?_)
  refine goes_ Tryd.func19 (by kernel_rfl) rfl #[.agg #[.int .i64 s0, .int .i64 s1]] (by rfl) rfl rfl (by (try simp only [List.map_toArray, List.map_cons, List.map_nil]); first | done | rfl) ?_
  with_reducible refine (HI'.out _).mono ?_
  rintro e w12 ⟨rfl, hb⟩
  refine ⟨_, rfl, ?_⟩
  have I12 := Lib.hid (KS.out _ _ I11.out hb)
  refine hK.out _ _ (KC.out _ I12.out) (fun hHeld => ?_)
  clear hK K
  refine norm_ (a' := ?_) ?_ ?_
  rotate_left
  · show Act.put _ (some 125) _ = _
    simp only [Act.put, List.setIfInBounds_toArray, List.set_cons_zero, List.set_cons_succ, i64_w, i32_w]
    rfl
  refine pure_ (i := 9) (N := some 126) (v := ?_) (a' := ?_) #[true, true, true, true, true, true, true, true, true, true, false, false, false, false, false, false, false, false, false, false, false, false, false, false, false, false, false, false, false, false, false, false, false] rfl rfl (any_of HT_.out (by kernel_rfl)) (fun _ _ _ h => h) (Or.inl ⟨by rfl, ?_⟩) ?_ ?_
  rotate_left
  · intro w'
    go_simp
    with_reducible rfl
  rotate_left
  · simp only [Act.put, List.setIfInBounds_toArray, List.set_cons_zero, List.set_cons_succ, i64_w, i32_w]
    rfl
  refine pure_ (i := 10) (N := some 127) (v := ?_) (a' := ?_) #[true, true, true, true, true, true, true, true, true, true, true, false, false, false, false, false, false, false, false, false, false, false, false, false, false, false, false, false, false, false, false, false, false] rfl rfl (any_of HT_.out (by kernel_rfl)) (fun _ _ _ h => h) (Or.inl ⟨by rfl, ?_⟩) ?_ ?_
  rotate_left
  · intro w'
    go_simp
    with_reducible rfl
  rotate_left
  · simp only [Act.put, List.setIfInBounds_toArray, List.set_cons_zero, List.set_cons_succ, i64_w, i32_w]
    rfl
  refine pure_ (i := 11) (N := some 128) (v := ?_) (a' := ?_) #[true, true, true, true, true, true, true, true, true, true, true, true, false, false, false, false, false, false, false, false, false, false, false, false, false, false, false, false, false, false, false, false, false] rfl rfl (any_of HT_.out (by kernel_rfl)) (fun _ _ _ h => h) (Or.inl ⟨by rfl, ?_⟩) ?_ ?_
  rotate_left
  · intro w'
    go_simp
    with_reducible rfl
  rotate_left
  · simp only [Act.put, List.setIfInBounds_toArray, List.set_cons_zero, List.set_cons_succ, i64_w, i32_w]
    rfl
  refine take_ (i := 12) (N := some 129) (v := ?_) (a' := ?_) #[true, true, true, true, true, true, true, true, true, true, true, true, true, false, false, false, false, false, false, false, false, false, false, false, false, false, false, false, false, false, false, false, false] rfl rfl (take_ofW HT_.out HW_.out (by kernel_rfl)) (fun _ _ _ h => h) (Or.inl ⟨by rfl, ?_⟩) hHeld ?_ ?_
  rotate_left
  · rintro w' ⟨⟨x0, x1⟩, ⟨y0, y1⟩⟩
    go_simp
    with_reducible rfl
  rotate_left
  · simp only [Act.put, List.setIfInBounds_toArray, List.set_cons_zero, List.set_cons_succ, i64_w, i32_w]
    rfl
  refine take_ (i := 13) (N := some 130) (v := ?_) (a' := ?_) #[true, true, true, true, true, true, true, true, true, true, true, true, true, true, false, false, false, false, false, false, false, false, false, false, false, false, false, false, false, false, false, false, false] rfl rfl (take_ofW HT_.out HW_.out (by kernel_rfl)) (fun _ _ _ h => h) (Or.inl ⟨by rfl, ?_⟩) hHeld ?_ ?_
  rotate_left
  · rintro w' ⟨⟨x0, x1⟩, ⟨y0, y1⟩⟩
    go_simp
    with_reducible rfl
  rotate_left
  · simp only [Act.put, List.setIfInBounds_toArray, List.set_cons_zero, List.set_cons_succ, i64_w, i32_w]
    rfl
  refine take_ (i := 15) (N := some 132) (v := ?_) (a' := ?_) #[true, true, true, true, true, true, true, true, true, true, true, true, true, true, false, true, false, false, false, false, false, false, false, false, false, false, false, false, false, false, false, false, false] rfl rfl (take_ofW HT_.out HW_.out (by kernel_rfl)) (fun _ _ _ h => h) (Or.inl ⟨by rfl, ?_⟩) hHeld ?_ ?_
  rotate_left
  · rintro w' ⟨⟨x0, x1⟩, ⟨y0, y1⟩⟩
    go_simp
    with_reducible rfl
  rotate_left
  · simp only [Act.put, List.setIfInBounds_toArray, List.set_cons_zero, List.set_cons_succ, i64_w, i32_w]
    rfl
  refine take_ (i := 16) (N := some 133) (v := ?_) (a' := ?_) #[true, true, true, true, true, true, true, true, true, true, true, true, true, true, false, true, true, false, false, false, false, false, false, false, false, false, false, false, false, false, false, false, false] rfl rfl (take_ofW HT_.out HW_.out (by kernel_rfl)) (fun _ _ _ h => h) (Or.inl ⟨by rfl, ?_⟩) hHeld ?_ ?_
  rotate_left
  · rintro w' ⟨⟨x0, x1⟩, ⟨y0, y1⟩⟩
    go_simp
    with_reducible rfl
  rotate_left
  · simp only [Act.put, List.setIfInBounds_toArray, List.set_cons_zero, List.set_cons_succ, i64_w, i32_w]
    rfl
  refine one_ (i := 14) (N := some 131) #[true, true, true, true, true, true, true, true, true, true, true, true, true, true, true, true, true, false, false, false, false, false, false, false, false, false, false, false, false, false, false, false, false] rfl rfl (one_of HT_.out (by kernel_rfl)) (by decide) (fun K hK => ?_)
  refine goes_ Tryd.func20 (by kernel_rfl) rfl #[.agg #[.int .i64 s0, .int .i64 s1], .agg #[.int .i64 t0, .int .i64 t1]] (by rfl) rfl rfl (by (try simp only [List.map_toArray, List.map_cons, List.map_nil]); first | done | rfl) ?_
  with_reducible refine (HL.out _).mono ?_
  rintro e w13 ⟨rfl, hb⟩
  refine ⟨_, rfl, ?_⟩
  have I13 := Lib.hid (KS.out _ _ I12.out hb)
  refine hK.out _ _ (KC.out _ I13.out) (fun hHeld => ?_)
  clear hK K
  refine norm_ (a' := ?_) ?_ ?_
  rotate_left
  · show Act.put _ (some 131) _ = _
    simp only [Act.put, List.setIfInBounds_toArray, List.set_cons_zero, List.set_cons_succ, i64_w, i32_w]
    rfl
  refine one_ (i := 17) (N := some 134) #[true, true, true, true, true, true, true, true, true, true, true, true, true, true, true, true, true, true, false, false, false, false, false, false, false, false, false, false, false, false, false, false, false] rfl rfl (one_of HT_.out (by kernel_rfl)) (by decide) (fun K hK => ?_)
  refine goes_ Tryd.func21 (by kernel_rfl) rfl #[.agg #[.int .i64 s0, .int .i64 s1], .agg #[.int .i64 t0, .int .i64 t1]] (by rfl) rfl rfl (by (try simp only [List.map_toArray, List.map_cons, List.map_nil]); first | done | rfl) ?_
  with_reducible refine (HL'.out _).mono ?_
  rintro e w14 ⟨rfl, hb⟩
  refine ⟨_, rfl, ?_⟩
  have I14 := Lib.hid (KS.out _ _ I13.out hb)
  refine hK.out _ _ (KC.out _ I14.out) (fun hHeld => ?_)
  clear hK K
  refine norm_ (a' := ?_) ?_ ?_
  rotate_left
  · show Act.put _ (some 134) _ = _
    simp only [Act.put, List.setIfInBounds_toArray, List.set_cons_zero, List.set_cons_succ, i64_w, i32_w]
    rfl
  refine pure_ (i := 18) (N := some 135) (v := ?_) (a' := ?_) #[true, true, true, true, true, true, true, true, true, true, true, true, true, true, true, true, true, true, true, false, false, false, false, false, false, false, false, false, false, false, false, false, false] rfl rfl (any_of HT_.out (by kernel_rfl)) (fun _ _ _ h => h) (Or.inl ⟨by rfl, ?_⟩) ?_ ?_
  rotate_left
  · intro w'
    go_simp
    with_reducible rfl
  rotate_left
  · simp only [Act.put, List.setIfInBounds_toArray, List.set_cons_zero, List.set_cons_succ, i64_w, i32_w]
    rfl
  refine pure_ (i := 19) (N := some 136) (v := ?_) (a' := ?_) #[true, true, true, true, true, true, true, true, true, true, true, true, true, true, true, true, true, true, true, true, false, false, false, false, false, false, false, false, false, false, false, false, false] rfl rfl (any_of HT_.out (by kernel_rfl)) (fun _ _ _ h => h) (Or.inl ⟨by rfl, ?_⟩) ?_ ?_
  rotate_left
  · intro w'
    go_simp
    with_reducible rfl
  rotate_left
  · simp only [Act.put, List.setIfInBounds_toArray, List.set_cons_zero, List.set_cons_succ, i64_w, i32_w]
    rfl
  refine pure_ (i := 20) (N := some 137) (v := ?_) (a' := ?_) #[true, true, true, true, true, true, true, true, true, true, true, true, true, true, true, true, true, true, true, true, true, false, false, false, false, false, false, false, false, false, false, false, false] rfl rfl (any_of HT_.out (by kernel_rfl)) (fun _ _ _ h => h) (Or.inl ⟨by rfl, ?_⟩) ?_ ?_
  rotate_left
  · intro w'
    go_simp
    with_reducible rfl
  rotate_left
  · simp only [Act.put, List.setIfInBounds_toArray, List.set_cons_zero, List.set_cons_succ, i64_w, i32_w]
    rfl
  refine pure_ (i := 21) (N := some 138) (v := ?_) (a' := ?_) #[true, true, true, true, true, true, true, true, true, true, true, true, true, true, true, true, true, true, true, true, true, true, false, false, false, false, false, false, false, false, false, false, false] rfl rfl (any_of HT_.out (by kernel_rfl)) (fun _ _ _ h => h) (Or.inl ⟨by rfl, ?_⟩) ?_ ?_
  rotate_left
  · intro w'
    go_simp
    with_reducible rfl
  rotate_left
  · simp only [Act.put, List.setIfInBounds_toArray, List.set_cons_zero, List.set_cons_succ, i64_w, i32_w]
    rfl
  refine pure_ (i := 23) (N := some 140) (v := ?_) (a' := ?_) #[true, true, true, true, true, true, true, true, true, true, true, true, true, true, true, true, true, true, true, true, true, true, false, true, false, false, false, false, false, false, false, false, false] rfl rfl (any_of HT_.out (by kernel_rfl)) (fun _ _ _ h => h) (Or.inl ⟨by rfl, ?_⟩) ?_ ?_
  rotate_left
  · intro w'
    go_simp
    with_reducible rfl
  rotate_left
  · simp only [Act.put, List.setIfInBounds_toArray, List.set_cons_zero, List.set_cons_succ, i64_w, i32_w]
    rfl
  refine one_ (i := 22) (N := some 139) #[true, true, true, true, true, true, true, true, true, true, true, true, true, true, true, true, true, true, true, true, true, true, true, true, false, false, false, false, false, false, false, false, false] rfl rfl (one_of HT_.out (by kernel_rfl)) (by decide) (fun K hK => ?_)
  refine goes_ Tryd.func23 (by kernel_rfl) rfl #[.slice A m c] (by rfl) rfl rfl (by (try simp only [List.map_toArray, List.map_cons, List.map_nil]); first | done | rfl) ?_
  with_reducible refine (HB.out _ (KL.out _ I14.out).1).mono ?_
  rintro e w15 ⟨A2, c2, rfl, hci2, hb⟩
  refine ⟨_, rfl, ?_⟩
  have I15 := Lib.hid (KS.out _ _ I14.out hb)
  have C2 := Lib.hid hci2
  clear hci2
  refine hK.out _ _ (KC.out _ I15.out) (fun hHeld => ?_)
  clear hK K
  refine norm_ (a' := ?_) ?_ ?_
  rotate_left
  · show Act.put _ (some 139) _ = _
    simp only [Act.put, List.setIfInBounds_toArray, List.set_cons_zero, List.set_cons_succ, i64_w, i32_w]
    rfl
  refine one_ (i := 24) (N := some 141) #[true, true, true, true, true, true, true, true, true, true, true, true, true, true, true, true, true, true, true, true, true, true, true, true, true, false, false, false, false, false, false, false, false] rfl rfl (one_of HT_.out (by kernel_rfl)) (by decide) (fun K hK => ?_)
  refine goes_ Tryd.func24 (by kernel_rfl) rfl #[.slice A1 m c1] (by rfl) rfl rfl (by (try simp only [List.map_toArray, List.map_cons, List.map_nil]); first | done | rfl) ?_
  with_reducible refine (HB'.out A1 c1 _ (KL.out _ I15.out).2.1 hc1).mono ?_
  rintro e w16 ⟨A3, c3, rfl, hci3, hb⟩
  refine ⟨_, rfl, ?_⟩
  have I16 := Lib.hid (KS.out _ _ I15.out hb)
  have C2 := Lib.hid (C2.out.grow (grow_of_below hb))
  have C3 := Lib.hid hci3
  clear hci3
  refine hK.out _ _ (KC.out _ I16.out) (fun hHeld => ?_)
  clear hK K
  refine norm_ (a' := ?_) ?_ ?_
  rotate_left
  · show Act.put _ (some 141) _ = _
    simp only [Act.put, List.setIfInBounds_toArray, List.set_cons_zero, List.set_cons_succ, i64_w, i32_w]
    rfl
  refine one_ (i := 25) (N := some 142) #[true, true, true, true, true, true, true, true, true, true, true, true, true, true, true, true, true, true, true, true, true, true, true, true, true, true, false, false, false, false, false, false, false] rfl rfl (one_of HT_.out (by kernel_rfl)) (by decide) (fun K hK => ?_)
  refine goes_ Tryd.func22 (by kernel_rfl) rfl #[.slice A2 mm.length c2, .slice A3 mm.length c3] (by rfl) rfl rfl (by (try simp only [List.map_toArray, List.map_cons, List.map_nil]); first | done | rfl) ?_
  with_reducible refine (HE.out A2 A3 c2 c3 _ C2.out C3.out).mono ?_
  rintro e w17 ⟨rfl, hg⟩
  refine ⟨_, rfl, ?_⟩
  have I17 := Lib.hid (KG.out _ _ I16.out hg)
  refine hK.out _ _ (KC.out _ I17.out) (fun hHeld => ?_)
  clear hK K
  refine norm_ (a' := ?_) ?_ ?_
  rotate_left
  · show Act.put _ (some 142) _ = _
    simp only [Act.put, List.setIfInBounds_toArray, List.set_cons_zero, List.set_cons_succ, i64_w, i32_w]
    rfl
  refine pure_ (i := 26) (N := some 143) (v := ?_) (a' := ?_) #[true, true, true, true, true, true, true, true, true, true, true, true, true, true, true, true, true, true, true, true, true, true, true, true, true, true, true, false, false, false, false, false, false] rfl rfl (any_of HT_.out (by kernel_rfl)) (fun _ _ _ h => h) (Or.inl ⟨by rfl, ?_⟩) ?_ ?_
  rotate_left
  · intro w'
    go_simp
    with_reducible rfl
  rotate_left
  · simp only [Act.put, List.setIfInBounds_toArray, List.set_cons_zero, List.set_cons_succ, i64_w, i32_w]
    rfl
  refine pure_ (i := 27) (N := some 144) (v := ?_) (a' := ?_) #[true, true, true, true, true, true, true, true, true, true, true, true, true, true, true, true, true, true, true, true, true, true, true, true, true, true, true, true, false, false, false, false, false] rfl rfl (any_of HT_.out (by kernel_rfl)) (fun _ _ _ h => h) (Or.inl ⟨by rfl, ?_⟩) ?_ ?_
  rotate_left
  · intro w'
    go_simp
    with_reducible rfl
  rotate_left
  · simp only [Act.put, List.setIfInBounds_toArray, List.set_cons_zero, List.set_cons_succ, i64_w, i32_w]
    rfl
  refine pure_ (i := 28) (N := some 145) (v := ?_) (a' := ?_) #[true, true, true, true, true, true, true, true, true, true, true, true, true, true, true, true, true, true, true, true, true, true, true, true, true, true, true, true, true, false, false, false, false] rfl rfl (any_of HT_.out (by kernel_rfl)) (fun _ _ _ h => h) (Or.inl ⟨by rfl, ?_⟩) ?_ ?_
  rotate_left
  · intro w'
    go_simp
    with_reducible rfl
  rotate_left
  · simp only [Act.put, List.setIfInBounds_toArray, List.set_cons_zero, List.set_cons_succ, i64_w, i32_w]
    rfl
  refine pure_ (i := 29) (N := some 146) (v := ?_) (a' := ?_) #[true, true, true, true, true, true, true, true, true, true, true, true, true, true, true, true, true, true, true, true, true, true, true, true, true, true, true, true, true, true, false, false, false] rfl rfl (any_of HT_.out (by kernel_rfl)) (fun _ _ _ h => h) (Or.inl ⟨by rfl, ?_⟩) ?_ ?_
  rotate_left
  · intro w'
    go_simp
    with_reducible rfl
  rotate_left
  · simp only [Act.put, List.setIfInBounds_toArray, List.set_cons_zero, List.set_cons_succ, i64_w, i32_w]
    rfl
  refine one_ (i := 30) (N := some 147) #[true, true, true, true, true, true, true, true, true, true, true, true, true, true, true, true, true, true, true, true, true, true, true, true, true, true, true, true, true, true, true, false, false] rfl rfl (one_of HT_.out (by kernel_rfl)) (by decide) (fun K hK => ?_)
  refine goes_ Tryd.func25 (by kernel_rfl) rfl #[.slice A m c, .slice A1 m c1] (by rfl) rfl rfl (by (try simp only [List.map_toArray, List.map_cons, List.map_nil]); first | done | rfl) ?_
  with_reducible refine (HE'.out A1 c1 _ (KL.out _ I17.out).1 (KL.out _ I17.out).2.1 hc1).mono ?_
  rintro e w18 ⟨rfl, kk, hkk⟩
  refine ⟨_, rfl, ?_⟩
  have gg : w17.grownBy w18 none := by rw [hkk]; exact grow_drewN _ _
  have I18 := Lib.hid (KG.out _ _ I17.out gg)
  refine hK.out _ _ (KC.out _ I18.out) (fun hHeld => ?_)
  clear hK K
  refine norm_ (a' := ?_) ?_ ?_
  rotate_left
  · show Act.put _ (some 147) _ = _
    simp only [Act.put, List.setIfInBounds_toArray, List.set_cons_zero, List.set_cons_succ, i64_w, i32_w]
    rfl
  refine pure_ (i := 31) (N := some 148) (v := ?_) (a' := ?_) #[true, true, true, true, true, true, true, true, true, true, true, true, true, true, true, true, true, true, true, true, true, true, true, true, true, true, true, true, true, true, true, true, false] rfl rfl (any_of HT_.out (by kernel_rfl)) (fun _ _ _ h => h) (Or.inl ⟨by rfl, ?_⟩) ?_ ?_
  rotate_left
  · intro w'
    go_simp
    with_reducible rfl
  rotate_left
  · simp only [Act.put, List.setIfInBounds_toArray, List.set_cons_zero, List.set_cons_succ, i64_w, i32_w]
    rfl
  refine pure_ (i := 32) (N := some 10) (v := ?_) (a' := ?_) #[true, true, true, true, true, true, true, true, true, true, true, true, true, true, true, true, true, true, true, true, true, true, true, true, true, true, true, true, true, true, true, true, true] rfl rfl (any_of HT_.out (by kernel_rfl)) (fun _ _ _ h => h) (Or.inl ⟨by rfl, ?_⟩) ?_ ?_
  rotate_left
  · intro w'
    go_simp
    with_reducible rfl
  rotate_left
  · simp only [Act.put, List.setIfInBounds_toArray, List.set_cons_zero, List.set_cons_succ, i64_w, i32_w]
    rfl
  refine done_ (done_of HT_.out (by kernel_rfl)) ?_
  try go_wp2
  go_ret
  exact ⟨rfl, (KL.out _ I18.out).2.2⟩
end Go.Proofs.YtpchbdpepgeibaaDoor
