/- SpotBeds. -/
import Derived.Test.YtpchbdpepgeibaaDoorS
namespace Go.Proofs.YtpchbdpepgeibaaDoor
open Go.RowKit Go.Proofs.YtpchbdpepgeibaaDoorW.PrintWords Go.Proofs.YtpchbdpepgeibaaDoorW.PrintLast Go.Proofs.YtpchbdpepgeibaaDoorW.PrintMore Go.Lib
set_option linter.unusedVariables false
set_option linter.unusedSimpArgs false

def Q11.T : Bool × List (List Nat × List Nat) := (true, [([], []), ([0], [0]), ([1], [1]), ([1], [1]), ([2, 3, 1], [1, 2, 3]), ([4, 1], [1, 4]), ([5, 1, 1], [1, 5]), ([6, 6, 1], [1, 6]), ([7], [7]), ([7], [7]), ([8, 9, 7], [7, 8, 9]), ([10, 7], [7, 10]), ([11, 7], [7, 11]), ([7], [7]), ([7], [7]), ([13, 14, 7], [7, 13, 14]), ([15, 7], [7, 15]), ([12, 16, 7], [7, 12, 16]), ([7, 17, 1], [1, 7, 17]), ([1, 18], [1, 18]), ([19, 7, 0, 1, 2, 3, 4, 5, 6, 7, 8, 9, 10, 11, 12, 13, 14, 15, 16, 17, 18, 19], [0, 19])])
def Q11.B : List Nat := [0, 1, 3, 3, 15, 31, 63, 127, 255, 255, 1023, 2047, 4095, 255, 255, 24831, 57599, 131071, 262143, 524287, 1048575]
theorem Q11.tab : rtab .any (opsOf Tryd.f6 11) = Q11.T := by kernel_rfl
theorem Q11.bits : waitsOk Q11.T.2 Q11.B = true := by kernel_rfl

def anyTo (l : List S23) (x : Int) (k : Nat) : Bool := (l.take k).any fun s => isS s.f0 s.f1 && s.f0 == x
theorem anyTo_zero (l : List S23) (x : Int) : anyTo l x 0 = false := rfl
theorem anyTo_succ (l : List S23) (x : Int) (k : Nat) (h : k < l.length) : anyTo l x (k + 1) = (anyTo l x k || (isS (l.getD k z23).f0 (l.getD k z23).f1 && (l.getD k z23).f0 == x)) := any_step l _ k h
def inTo (m : List Int) (b : Int) (k : Nat) : Bool := (m.take k).any fun x => x == b
theorem inTo_zero (m : List Int) (b : Int) : inTo m b 0 = false := rfl
theorem inTo_succ (m : List Int) (b : Int) (k : Nat) (h : k < m.length) : inTo m b (k + 1) = (inTo m b k || (m.getD k 0 == b)) := by
  unfold inTo
  rw [take_succ m k h, List.any_append]
  simp
theorem anyTo_beds (l : List S23) (j : Nat) (h : j < (bedsV l).length) : anyTo l ((bedsV l).getD j 0) l.length = true := by
  unfold anyTo
  rw [List.take_length]
  have h1 : (bedsV l).getD j 0 ∈ bedsV l := by
    rw [List.getD_eq_getElem?_getD, List.getElem?_eq_getElem h]
    exact List.getElem_mem h
  exact (hasBed_iff l _).2 ((mem_beds l _).1 h1)
theorem inTo_beds (l : List S23) (k : Nat) (h : k < l.length) (hs : isS (l.getD k z23).f0 (l.getD k z23).f1 = true) : inTo (bedsV l) (l.getD k z23).f0 (bedsV l).length = true := by
  unfold inTo
  rw [List.take_length, List.any_eq_true]
  refine ⟨(l.getD k z23).f0, (mem_beds l _).2 ⟨l.getD k z23, ?_, hs, rfl⟩, by simp⟩
  rw [List.getD_eq_getElem?_getD, List.getElem?_eq_getElem h]
  exact List.getElem_mem h
theorem beds_step (l : List S23) (j : Nat) (h : j + 1 < (bedsV l).length) : (bedsV l).getD j 0 < (bedsV l).getD (j + 1) 0 := by
  have := List.pairwise_iff_getElem.1 (beds_rise l) j (j + 1) (by omega) h (by omega)
  rw [List.getD_eq_getElem?_getD, List.getD_eq_getElem?_getD, List.getElem?_eq_getElem h, List.getElem?_eq_getElem (by omega)]
  exact this
theorem cellk {w w' : World} (h : Below w.heap.size w w') {b o : Nat} {v : Value} (hc : w.cell? ⟨b, o, none⟩ = some v) : w'.cell? ⟨b, o, none⟩ = some v := by rw [grow_cell (grow_of_below h) (block_lt_of_cell hc)]; exact hc

theorem bl_big (A : Option Addr) (n c : Nat) (w : World) (hn : 100 < n) (hm : n ≤ 9223372036854775807) :
    Calls Tryd.prog 6 #[.slice A n c] w fun e w' => e = .returned (.bool true) ∧ w = w' := by
  go_enter Tryd.func6, Tryd.ntmps6
  go_wp2_with fail
  go_ret
  exact ⟨rfl, rfl⟩

set_option maxRecDepth 100000 in
set_option maxHeartbeats 20000000 in
theorem bl_any (A : Option Addr) (c : Nat) (l : List S23) (w : World) (h : GW w) (hcw : CW w A l) (hl : l.length ≤ 100) :
    Calls Tryd.prog 6 #[.slice A l.length c] w fun e w' => e = .returned (.bool true) ∧ Below w.heap.size w w' := by
  have HC := Lib.hid (fun W (hb : Below w.heap.size w W) k hk => (hcw.grow (grow_of_below hb)) k hk)
  have HBe := Lib.hid (beds_any A c l w hcw (by omega))
  have HSp := Lib.hid (fun W (b : Below w.heap.size w W) => spots_any W (h.below b))
  have HM := Lib.hid (anyTo_beds l)
  have HN := Lib.hid (inTo_beds l)
  have HR := Lib.hid (beds_step l)
  have HA := Lib.hid (fun x k hk => anyTo_succ l x k hk)
  have HI := Lib.hid (fun b k hk => inTo_succ (bedsV l) b k hk)
  have HIs := Lib.hid (fun x y W => is_any x y W)
  have HQ := Lib.hid (bedsTo_len l 99)
  change Hid ((bedsV l).length ≤ 99) at HQ
  generalize bedsV l = mm at *
  obtain ⟨m, hm⟩ : ∃ m, m = l.length := ⟨_, rfl⟩
  rw [← hm] at HC HBe HM HN HA hl ⊢
  obtain ⟨q, hq⟩ : ∃ q, q = mm.length := ⟨_, rfl⟩
  rw [← hq] at HBe HM HN HR HI HQ
  have HMQ := Lib.hid hq
  have hq99 : q ≤ 99 := HQ.out
  clear h hcw hm hq HQ
  have d0 : decide (100 < (m : Int)) = false := by simp; omega
  go_enter Tryd.func6, Tryd.ntmps6
  go_wp2_with fail
  refine HBe.out.mono ?_
  rintro e w1 ⟨A', c', rfl, hci, hb⟩
  have B1 := Lib.hid hb
  have HCI := Lib.hid (fun W (b : Below w1.heap.size w1 W) j (hj : j < q) => (hci.grow (grow_of_below b)) j (by rw [← HMQ.out]; exact hj))
  have HT := Lib.hid (fun W (b : Below w1.heap.size w1 W) => below_step B1.out b)
  clear hb hci HBe d0 HMQ
  go_wp2_with fail
  go_loopw [4] (fun i wr => ∃ k : Nat, k ≤ q ∧ i = .int .i64 k ∧ Hid (Below w1.heap.size w1 wr)) (fun i _ => q - (intOf i).toNat)
  case atStart => exact ⟨0, Nat.zero_le _, rfl, Below.refl _ _⟩
  case round =>
    obtain ⟨k, hk, rfl, BK⟩ := hrel
    by_cases hlt : k < q
    · have HMk := Lib.hid (HM.out k hlt)
      have hkq : (k : Int) < (q : Int) := by omega
      have hk0 : (0 : Int) ≤ (k : Int) := by omega
      have HX := Lib.hid (show ∃ b2 o2, A' = some ⟨b2, o2, none⟩ ∧ ∀ W, Below w1.heap.size w1 W → (∀ j, j < q → W.cell? ⟨b2, o2 + j, none⟩ = some (.int .i64 (mm.getD j 0))) from by
        obtain ⟨b2, o2, e2, _, _⟩ := HCI.out _ (Below.refl _ _) k hlt
        refine ⟨b2, o2, e2, fun W hW j hj => ?_⟩
        obtain ⟨b3, o3, e3, _, c3⟩ := HCI.out W hW j hj
        rw [e2] at e3
        cases e3
        exact c3)
      obtain ⟨b2, o2, hA', HCC⟩ := HX.out
      subst hA'
      have HCC := Lib.hid HCC
      clear HX HCI
      obtain ⟨x, hx⟩ : ∃ x, x = mm.getD k 0 := ⟨_, rfl⟩
      have HCk := Lib.hid (fun W hW => HCC.out W hW k hlt)
      rw [← hx] at HCk HMk
      have HXX := Lib.hid hx
      clear hx
      go_wp2_with fail
      go_loopw [5, 6] (fun v i wr2 => ∃ j : Nat, j ≤ m ∧ v = .bool (anyTo l x j) ∧ i = .int .i64 j ∧ Hid (Below w1.heap.size w1 wr2)) (fun _ i _ => m - (intOf i).toNat)
      case atStart => exact ⟨0, Nat.zero_le _, by rw [anyTo_zero], rfl, BK⟩
      case round =>
        obtain ⟨j, hj, rfl, rfl, BJ⟩ := hrel
        by_cases hjl : j < m
        · obtain ⟨b, off, rfl, hbs, a0, a1⟩ := HC.out _ (HT.out _ BJ.out) j hjl
          have cm := HCk.out _ BJ.out
          have hjm : (j : Int) < (m : Int) := by omega
          have hj0 : (0 : Int) ≤ (j : Int) := by omega
          have HS := Lib.hid (HA.out x j hjl)
          generalize l.getD j z23 = z at *
          obtain ⟨z0, z1⟩ := z
          dsimp only at a0 a1 HS
          have HIz := Lib.hid (HIs.out z0 z1)
          have hj1 : j + 1 ≤ m := by omega
          cases ha : anyTo l x j
          · rw [ha, Bool.false_or] at HS
            cases hs : isS z0 z1
            · rw [hs, Bool.false_and] at HS
              rw [hs] at HIz
              clear ha hs
              go_wp2_with fail
              refine start_ (n := 21) (S := (fun w' => w'.cell? ⟨b, off + j * 2, none⟩ = some (.int .i64 z0) ∧ w'.cell? ⟨b, off + j * 2 + 1, none⟩ = some (.int .i64 z1) ∧ w'.cell? ⟨b2, o2 + k, none⟩ = some (.int .i64 x))) (ds := []) #[false, false, false, false, false, false, false, false, false, false, false, false, false, false, false, false, false, false, false, false, false] (by kernel_rfl) rfl rfl ⟨a0, a1, cm⟩ (fun hHeld => ?_)
              refine with_tabW Q11.tab Q11.bits (fun HT_ HW_ => ?_)
              refine pure_ (i := 0) (N := some 27) (v := ?_) (a' := ?_) #[true, false, false, false, false, false, false, false, false, false, false, false, false, false, false, false, false, false, false, false, false] rfl rfl (any_of HT_.out (by kernel_rfl)) (fun _ _ _ h => h) (Or.inl ⟨by rfl, ?_⟩) ?_ ?_
              rotate_left
              · intro w'
                go_simp
                with_reducible rfl
              rotate_left
              · simp only [Act.put, List.setIfInBounds_toArray, List.set_cons_zero, List.set_cons_succ, i64_w, i32_w]
                rfl
              refine pure_ (i := 1) (N := some 28) (v := ?_) (a' := ?_) #[true, true, false, false, false, false, false, false, false, false, false, false, false, false, false, false, false, false, false, false, false] rfl rfl (any_of HT_.out (by kernel_rfl)) (fun _ _ _ h => h) (Or.inl ⟨by rfl, ?_⟩) ?_ ?_
              rotate_left
              · intro w'
                go_simp
                with_reducible rfl
              rotate_left
              · simp only [Act.put, List.setIfInBounds_toArray, List.set_cons_zero, List.set_cons_succ, i64_w, i32_w]
                rfl
              refine pure_ (i := 2) (N := some 29) (v := ?_) (a' := ?_) #[true, true, true, false, false, false, false, false, false, false, false, false, false, false, false, false, false, false, false, false, false] rfl rfl (any_of HT_.out (by kernel_rfl)) (fun _ _ _ h => h) (Or.inl ⟨by rfl, ?_⟩) ?_ ?_
              rotate_left
              · intro w'
                go_simp
                with_reducible rfl
              rotate_left
              · simp only [Act.put, List.setIfInBounds_toArray, List.set_cons_zero, List.set_cons_succ, i64_w, i32_w]
                rfl
              refine pure_ (i := 3) (N := some 30) (v := ?_) (a' := ?_) #[true, true, true, true, false, false, false, false, false, false, false, false, false, false, false, false, false, false, false, false, false] rfl rfl (any_of HT_.out (by kernel_rfl)) (fun _ _ _ h => h) (Or.inl ⟨by rfl, ?_⟩) ?_ ?_
              rotate_left
              · intro w'
                go_simp
                with_reducible rfl
              rotate_left
              · simp only [Act.put, List.setIfInBounds_toArray, List.set_cons_zero, List.set_cons_succ, i64_w, i32_w]
                rfl
              refine pure_ (i := 4) (N := some 31) (v := ?_) (a' := ?_) #[true, true, true, true, true, false, false, false, false, false, false, false, false, false, false, false, false, false, false, false, false] rfl rfl (any_of HT_.out (by kernel_rfl)) (fun _ _ _ h => h) (Or.inl ⟨by rfl, ?_⟩) ?_ ?_
              rotate_left
              · intro w'
                go_simp
                with_reducible rfl
              rotate_left
              · simp only [Act.put, List.setIfInBounds_toArray, List.set_cons_zero, List.set_cons_succ, i64_w, i32_w]
                rfl
              refine take_ (i := 5) (N := some 32) (v := ?_) (a' := ?_) #[true, true, true, true, true, true, false, false, false, false, false, false, false, false, false, false, false, false, false, false, false] rfl rfl (take_ofW HT_.out HW_.out (by kernel_rfl)) (fun _ _ _ h => h) (Or.inl ⟨by rfl, ?_⟩) hHeld ?_ ?_
              rotate_left
              · rintro w' ⟨s0, s1, s2⟩
                go_simp
                with_reducible rfl
              rotate_left
              · simp only [Act.put, List.setIfInBounds_toArray, List.set_cons_zero, List.set_cons_succ, i64_w, i32_w]
                rfl
              refine one_ (i := 6) (N := some 33) #[true, true, true, true, true, true, true, false, false, false, false, false, false, false, false, false, false, false, false, false, false] rfl rfl (one_of HT_.out (by kernel_rfl)) (by decide) (fun K hK => ?_)
              refine goes_ Tryd.func18 (by kernel_rfl) rfl #[.agg #[.int .i64 z0, .int .i64 z1]] (by rfl) rfl rfl (by (try simp only [List.map_toArray, List.map_cons, List.map_nil]); first | done | rfl) ?_
              with_reducible refine (HIz.out _).mono ?_
              rintro e w9 ⟨rfl, hb⟩
              refine ⟨_, rfl, ?_⟩
              refine hK.out _ _ ⟨cellk hb hHeld.1, cellk hb hHeld.2.1, cellk hb hHeld.2.2⟩ (fun hHeld => ?_)
              clear hK K
              refine norm_ (a' := ?_) ?_ ?_
              rotate_left
              · show Act.put _ (some 33) _ = _
                simp only [Act.put, List.setIfInBounds_toArray, List.set_cons_zero, List.set_cons_succ, i64_w, i32_w]
                rfl
              refine pure_ (i := 7) (N := some 34) (v := ?_) (a' := ?_) #[true, true, true, true, true, true, true, true, false, false, false, false, false, false, false, false, false, false, false, false, false] rfl rfl (any_of HT_.out (by kernel_rfl)) (fun _ _ _ h => h) (Or.inl ⟨by rfl, ?_⟩) ?_ ?_
              rotate_left
              · intro w'
                go_simp
                with_reducible rfl
              rotate_left
              · simp only [Act.put, List.setIfInBounds_toArray, List.set_cons_zero, List.set_cons_succ, i64_w, i32_w]
                rfl
              refine pure_ (i := 8) (N := some 35) (v := undef) (a' := ?_) #[true, true, true, true, true, true, true, true, true, false, false, false, false, false, false, false, false, false, false, false, false] rfl rfl (any_of HT_.out (by kernel_rfl)) (fun _ _ _ h => h) (Or.inr ⟨by rfl, rfl⟩) ?_ ?_
              rotate_left
              · simp only [Act.put, List.setIfInBounds_toArray, List.set_cons_zero, List.set_cons_succ, i64_w, i32_w]
                rfl
              refine pure_ (i := 9) (N := some 36) (v := undef) (a' := ?_) #[true, true, true, true, true, true, true, true, true, true, false, false, false, false, false, false, false, false, false, false, false] rfl rfl (any_of HT_.out (by kernel_rfl)) (fun _ _ _ h => h) (Or.inr ⟨by rfl, rfl⟩) ?_ ?_
              rotate_left
              · simp only [Act.put, List.setIfInBounds_toArray, List.set_cons_zero, List.set_cons_succ, i64_w, i32_w]
                rfl
              refine pure_ (i := 10) (N := some 37) (v := undef) (a' := ?_) #[true, true, true, true, true, true, true, true, true, true, true, false, false, false, false, false, false, false, false, false, false] rfl rfl (any_of HT_.out (by kernel_rfl)) (fun _ _ _ h => h) (Or.inr ⟨by rfl, rfl⟩) ?_ ?_
              rotate_left
              · simp only [Act.put, List.setIfInBounds_toArray, List.set_cons_zero, List.set_cons_succ, i64_w, i32_w]
                rfl
              refine pure_ (i := 11) (N := some 38) (v := undef) (a' := ?_) #[true, true, true, true, true, true, true, true, true, true, true, true, false, false, false, false, false, false, false, false, false] rfl rfl (any_of HT_.out (by kernel_rfl)) (fun _ _ _ h => h) (Or.inr ⟨by rfl, rfl⟩) ?_ ?_
              rotate_left
              · simp only [Act.put, List.setIfInBounds_toArray, List.set_cons_zero, List.set_cons_succ, i64_w, i32_w]
                rfl
              refine take_ (i := 12) (N := some 39) (v := undef) (a' := ?_) #[true, true, true, true, true, true, true, true, true, true, true, true, true, false, false, false, false, false, false, false, false] rfl rfl (take_ofW HT_.out HW_.out (by kernel_rfl)) (fun _ _ _ h => h) (Or.inr ⟨by rfl, rfl⟩) hHeld ?_ ?_
              rotate_left
              · simp only [Act.put, List.setIfInBounds_toArray, List.set_cons_zero, List.set_cons_succ, i64_w, i32_w]
                rfl
              refine pure_ (i := 13) (N := some 40) (v := undef) (a' := ?_) #[true, true, true, true, true, true, true, true, true, true, true, true, true, true, false, false, false, false, false, false, false] rfl rfl (any_of HT_.out (by kernel_rfl)) (fun _ _ _ h => h) (Or.inr ⟨by rfl, rfl⟩) ?_ ?_
              rotate_left
              · simp only [Act.put, List.setIfInBounds_toArray, List.set_cons_zero, List.set_cons_succ, i64_w, i32_w]
                rfl
              refine pure_ (i := 14) (N := some 41) (v := undef) (a' := ?_) #[true, true, true, true, true, true, true, true, true, true, true, true, true, true, true, false, false, false, false, false, false] rfl rfl (any_of HT_.out (by kernel_rfl)) (fun _ _ _ h => h) (Or.inr ⟨by rfl, rfl⟩) ?_ ?_
              rotate_left
              · simp only [Act.put, List.setIfInBounds_toArray, List.set_cons_zero, List.set_cons_succ, i64_w, i32_w]
                rfl
              refine pure_ (i := 15) (N := some 42) (v := undef) (a' := ?_) #[true, true, true, true, true, true, true, true, true, true, true, true, true, true, true, true, false, false, false, false, false] rfl rfl (any_of HT_.out (by kernel_rfl)) (fun _ _ _ h => h) (Or.inr ⟨by rfl, rfl⟩) ?_ ?_
              rotate_left
              · simp only [Act.put, List.setIfInBounds_toArray, List.set_cons_zero, List.set_cons_succ, i64_w, i32_w]
                rfl
              refine take_ (i := 16) (N := some 43) (v := undef) (a' := ?_) #[true, true, true, true, true, true, true, true, true, true, true, true, true, true, true, true, true, false, false, false, false] rfl rfl (take_ofW HT_.out HW_.out (by kernel_rfl)) (fun _ _ _ h => h) (Or.inr ⟨by rfl, rfl⟩) hHeld ?_ ?_
              rotate_left
              · simp only [Act.put, List.setIfInBounds_toArray, List.set_cons_zero, List.set_cons_succ, i64_w, i32_w]
                rfl
              refine pure_ (i := 17) (N := some 44) (v := undef) (a' := ?_) #[true, true, true, true, true, true, true, true, true, true, true, true, true, true, true, true, true, true, false, false, false] rfl rfl (any_of HT_.out (by kernel_rfl)) (fun _ _ _ h => h) (Or.inr ⟨by rfl, rfl⟩) ?_ ?_
              rotate_left
              · simp only [Act.put, List.setIfInBounds_toArray, List.set_cons_zero, List.set_cons_succ, i64_w, i32_w]
                rfl
              refine pure_ (i := 18) (N := some 45) (v := ?_) (a' := ?_) #[true, true, true, true, true, true, true, true, true, true, true, true, true, true, true, true, true, true, true, false, false] rfl rfl (any_of HT_.out (by kernel_rfl)) (fun _ _ _ h => h) (Or.inl ⟨by rfl, ?_⟩) ?_ ?_
              rotate_left
              · intro w'
                go_simp
                with_reducible rfl
              rotate_left
              · simp only [Act.put, List.setIfInBounds_toArray, List.set_cons_zero, List.set_cons_succ, i64_w, i32_w]
                rfl
              refine pure_ (i := 19) (N := some 46) (v := ?_) (a' := ?_) #[true, true, true, true, true, true, true, true, true, true, true, true, true, true, true, true, true, true, true, true, false] rfl rfl (any_of HT_.out (by kernel_rfl)) (fun _ _ _ h => h) (Or.inl ⟨by rfl, ?_⟩) ?_ ?_
              rotate_left
              · intro w'
                go_simp
                with_reducible rfl
              rotate_left
              · simp only [Act.put, List.setIfInBounds_toArray, List.set_cons_zero, List.set_cons_succ, i64_w, i32_w]
                rfl
              refine pure_ (i := 20) (N := some 5) (v := ?_) (a' := ?_) #[true, true, true, true, true, true, true, true, true, true, true, true, true, true, true, true, true, true, true, true, true] rfl rfl (any_of HT_.out (by kernel_rfl)) (fun _ _ _ h => h) (Or.inl ⟨by rfl, ?_⟩) ?_ ?_
              rotate_left
              · intro w'
                go_simp
                with_reducible rfl
              rotate_left
              · simp only [Act.put, List.setIfInBounds_toArray, List.set_cons_zero, List.set_cons_succ, i64_w, i32_w]
                rfl
              refine done_ (done_of HT_.out (by kernel_rfl)) ?_
              try go_wp2
              go_roundw
              case rel => exact ⟨j + 1, hj1, by rw [HS.out], by go_num, below_step (below_drew1 BJ.out) hb⟩
              case measure => simp [intOf]; omega
            · rw [hs, Bool.true_and] at HS
              rw [hs] at HIz
              clear ha hs
              go_wp2_with fail
              refine start_ (n := 21) (S := (fun w' => w'.cell? ⟨b, off + j * 2, none⟩ = some (.int .i64 z0) ∧ w'.cell? ⟨b, off + j * 2 + 1, none⟩ = some (.int .i64 z1) ∧ w'.cell? ⟨b2, o2 + k, none⟩ = some (.int .i64 x))) (ds := []) #[false, false, false, false, false, false, false, false, false, false, false, false, false, false, false, false, false, false, false, false, false] (by kernel_rfl) rfl rfl ⟨a0, a1, cm⟩ (fun hHeld => ?_)
              refine with_tabW Q11.tab Q11.bits (fun HT_ HW_ => ?_)
              refine pure_ (i := 0) (N := some 27) (v := ?_) (a' := ?_) #[true, false, false, false, false, false, false, false, false, false, false, false, false, false, false, false, false, false, false, false, false] rfl rfl (any_of HT_.out (by kernel_rfl)) (fun _ _ _ h => h) (Or.inl ⟨by rfl, ?_⟩) ?_ ?_
              rotate_left
              · intro w'
                go_simp
                with_reducible rfl
              rotate_left
              · simp only [Act.put, List.setIfInBounds_toArray, List.set_cons_zero, List.set_cons_succ, i64_w, i32_w]
                rfl
              refine pure_ (i := 1) (N := some 28) (v := ?_) (a' := ?_) #[true, true, false, false, false, false, false, false, false, false, false, false, false, false, false, false, false, false, false, false, false] rfl rfl (any_of HT_.out (by kernel_rfl)) (fun _ _ _ h => h) (Or.inl ⟨by rfl, ?_⟩) ?_ ?_
              rotate_left
              · intro w'
                go_simp
                with_reducible rfl
              rotate_left
              · simp only [Act.put, List.setIfInBounds_toArray, List.set_cons_zero, List.set_cons_succ, i64_w, i32_w]
                rfl
              refine pure_ (i := 2) (N := some 29) (v := ?_) (a' := ?_) #[true, true, true, false, false, false, false, false, false, false, false, false, false, false, false, false, false, false, false, false, false] rfl rfl (any_of HT_.out (by kernel_rfl)) (fun _ _ _ h => h) (Or.inl ⟨by rfl, ?_⟩) ?_ ?_
              rotate_left
              · intro w'
                go_simp
                with_reducible rfl
              rotate_left
              · simp only [Act.put, List.setIfInBounds_toArray, List.set_cons_zero, List.set_cons_succ, i64_w, i32_w]
                rfl
              refine pure_ (i := 3) (N := some 30) (v := ?_) (a' := ?_) #[true, true, true, true, false, false, false, false, false, false, false, false, false, false, false, false, false, false, false, false, false] rfl rfl (any_of HT_.out (by kernel_rfl)) (fun _ _ _ h => h) (Or.inl ⟨by rfl, ?_⟩) ?_ ?_
              rotate_left
              · intro w'
                go_simp
                with_reducible rfl
              rotate_left
              · simp only [Act.put, List.setIfInBounds_toArray, List.set_cons_zero, List.set_cons_succ, i64_w, i32_w]
                rfl
              refine pure_ (i := 4) (N := some 31) (v := ?_) (a' := ?_) #[true, true, true, true, true, false, false, false, false, false, false, false, false, false, false, false, false, false, false, false, false] rfl rfl (any_of HT_.out (by kernel_rfl)) (fun _ _ _ h => h) (Or.inl ⟨by rfl, ?_⟩) ?_ ?_
              rotate_left
              · intro w'
                go_simp
                with_reducible rfl
              rotate_left
              · simp only [Act.put, List.setIfInBounds_toArray, List.set_cons_zero, List.set_cons_succ, i64_w, i32_w]
                rfl
              refine take_ (i := 5) (N := some 32) (v := ?_) (a' := ?_) #[true, true, true, true, true, true, false, false, false, false, false, false, false, false, false, false, false, false, false, false, false] rfl rfl (take_ofW HT_.out HW_.out (by kernel_rfl)) (fun _ _ _ h => h) (Or.inl ⟨by rfl, ?_⟩) hHeld ?_ ?_
              rotate_left
              · rintro w' ⟨s0, s1, s2⟩
                go_simp
                with_reducible rfl
              rotate_left
              · simp only [Act.put, List.setIfInBounds_toArray, List.set_cons_zero, List.set_cons_succ, i64_w, i32_w]
                rfl
              refine one_ (i := 6) (N := some 33) #[true, true, true, true, true, true, true, false, false, false, false, false, false, false, false, false, false, false, false, false, false] rfl rfl (one_of HT_.out (by kernel_rfl)) (by decide) (fun K hK => ?_)
              refine goes_ Tryd.func18 (by kernel_rfl) rfl #[.agg #[.int .i64 z0, .int .i64 z1]] (by rfl) rfl rfl (by (try simp only [List.map_toArray, List.map_cons, List.map_nil]); first | done | rfl) ?_
              with_reducible refine (HIz.out _).mono ?_
              rintro e w9 ⟨rfl, hb⟩
              refine ⟨_, rfl, ?_⟩
              refine hK.out _ _ ⟨cellk hb hHeld.1, cellk hb hHeld.2.1, cellk hb hHeld.2.2⟩ (fun hHeld => ?_)
              clear hK K
              refine norm_ (a' := ?_) ?_ ?_
              rotate_left
              · show Act.put _ (some 33) _ = _
                simp only [Act.put, List.setIfInBounds_toArray, List.set_cons_zero, List.set_cons_succ, i64_w, i32_w]
                rfl
              refine pure_ (i := 7) (N := some 34) (v := ?_) (a' := ?_) #[true, true, true, true, true, true, true, true, false, false, false, false, false, false, false, false, false, false, false, false, false] rfl rfl (any_of HT_.out (by kernel_rfl)) (fun _ _ _ h => h) (Or.inl ⟨by rfl, ?_⟩) ?_ ?_
              rotate_left
              · intro w'
                go_simp
                with_reducible rfl
              rotate_left
              · simp only [Act.put, List.setIfInBounds_toArray, List.set_cons_zero, List.set_cons_succ, i64_w, i32_w]
                rfl
              refine pure_ (i := 8) (N := some 35) (v := ?_) (a' := ?_) #[true, true, true, true, true, true, true, true, true, false, false, false, false, false, false, false, false, false, false, false, false] rfl rfl (any_of HT_.out (by kernel_rfl)) (fun _ _ _ h => h) (Or.inl ⟨by rfl, ?_⟩) ?_ ?_
              rotate_left
              · intro w'
                go_simp
                with_reducible rfl
              rotate_left
              · simp only [Act.put, List.setIfInBounds_toArray, List.set_cons_zero, List.set_cons_succ, i64_w, i32_w]
                rfl
              refine pure_ (i := 9) (N := some 36) (v := ?_) (a' := ?_) #[true, true, true, true, true, true, true, true, true, true, false, false, false, false, false, false, false, false, false, false, false] rfl rfl (any_of HT_.out (by kernel_rfl)) (fun _ _ _ h => h) (Or.inl ⟨by rfl, ?_⟩) ?_ ?_
              rotate_left
              · intro w'
                go_simp
                with_reducible rfl
              rotate_left
              · simp only [Act.put, List.setIfInBounds_toArray, List.set_cons_zero, List.set_cons_succ, i64_w, i32_w]
                rfl
              refine pure_ (i := 10) (N := some 37) (v := ?_) (a' := ?_) #[true, true, true, true, true, true, true, true, true, true, true, false, false, false, false, false, false, false, false, false, false] rfl rfl (any_of HT_.out (by kernel_rfl)) (fun _ _ _ h => h) (Or.inl ⟨by rfl, ?_⟩) ?_ ?_
              rotate_left
              · intro w'
                go_simp
                with_reducible rfl
              rotate_left
              · simp only [Act.put, List.setIfInBounds_toArray, List.set_cons_zero, List.set_cons_succ, i64_w, i32_w]
                rfl
              refine pure_ (i := 11) (N := some 38) (v := ?_) (a' := ?_) #[true, true, true, true, true, true, true, true, true, true, true, true, false, false, false, false, false, false, false, false, false] rfl rfl (any_of HT_.out (by kernel_rfl)) (fun _ _ _ h => h) (Or.inl ⟨by rfl, ?_⟩) ?_ ?_
              rotate_left
              · intro w'
                go_simp
                with_reducible rfl
              rotate_left
              · simp only [Act.put, List.setIfInBounds_toArray, List.set_cons_zero, List.set_cons_succ, i64_w, i32_w]
                rfl
              refine take_ (i := 12) (N := some 39) (v := ?_) (a' := ?_) #[true, true, true, true, true, true, true, true, true, true, true, true, true, false, false, false, false, false, false, false, false] rfl rfl (take_ofW HT_.out HW_.out (by kernel_rfl)) (fun _ _ _ h => h) (Or.inl ⟨by rfl, ?_⟩) hHeld ?_ ?_
              rotate_left
              · rintro w' ⟨s0, s1, s2⟩
                go_simp
                with_reducible rfl
              rotate_left
              · simp only [Act.put, List.setIfInBounds_toArray, List.set_cons_zero, List.set_cons_succ, i64_w, i32_w]
                rfl
              refine pure_ (i := 13) (N := some 40) (v := ?_) (a' := ?_) #[true, true, true, true, true, true, true, true, true, true, true, true, true, true, false, false, false, false, false, false, false] rfl rfl (any_of HT_.out (by kernel_rfl)) (fun _ _ _ h => h) (Or.inl ⟨by rfl, ?_⟩) ?_ ?_
              rotate_left
              · intro w'
                go_simp
                with_reducible rfl
              rotate_left
              · simp only [Act.put, List.setIfInBounds_toArray, List.set_cons_zero, List.set_cons_succ, i64_w, i32_w]
                rfl
              refine pure_ (i := 14) (N := some 41) (v := ?_) (a' := ?_) #[true, true, true, true, true, true, true, true, true, true, true, true, true, true, true, false, false, false, false, false, false] rfl rfl (any_of HT_.out (by kernel_rfl)) (fun _ _ _ h => h) (Or.inl ⟨by rfl, ?_⟩) ?_ ?_
              rotate_left
              · intro w'
                go_simp
                with_reducible rfl
              rotate_left
              · simp only [Act.put, List.setIfInBounds_toArray, List.set_cons_zero, List.set_cons_succ, i64_w, i32_w]
                rfl
              refine pure_ (i := 15) (N := some 42) (v := ?_) (a' := ?_) #[true, true, true, true, true, true, true, true, true, true, true, true, true, true, true, true, false, false, false, false, false] rfl rfl (any_of HT_.out (by kernel_rfl)) (fun _ _ _ h => h) (Or.inl ⟨by rfl, ?_⟩) ?_ ?_
              rotate_left
              · intro w'
                go_simp
                with_reducible rfl
              rotate_left
              · simp only [Act.put, List.setIfInBounds_toArray, List.set_cons_zero, List.set_cons_succ, i64_w, i32_w]
                rfl
              refine take_ (i := 16) (N := some 43) (v := ?_) (a' := ?_) #[true, true, true, true, true, true, true, true, true, true, true, true, true, true, true, true, true, false, false, false, false] rfl rfl (take_ofW HT_.out HW_.out (by kernel_rfl)) (fun _ _ _ h => h) (Or.inl ⟨by rfl, ?_⟩) hHeld ?_ ?_
              rotate_left
              · rintro w' ⟨s0, s1, s2⟩
                go_simp
                with_reducible rfl
              rotate_left
              · simp only [Act.put, List.setIfInBounds_toArray, List.set_cons_zero, List.set_cons_succ, i64_w, i32_w]
                rfl
              refine pure_ (i := 17) (N := some 44) (v := ?_) (a' := ?_) #[true, true, true, true, true, true, true, true, true, true, true, true, true, true, true, true, true, true, false, false, false] rfl rfl (any_of HT_.out (by kernel_rfl)) (fun _ _ _ h => h) (Or.inl ⟨by rfl, ?_⟩) ?_ ?_
              rotate_left
              · intro w'
                go_simp
                with_reducible rfl
              rotate_left
              · simp only [Act.put, List.setIfInBounds_toArray, List.set_cons_zero, List.set_cons_succ, i64_w, i32_w]
                rfl
              refine pure_ (i := 18) (N := some 45) (v := ?_) (a' := ?_) #[true, true, true, true, true, true, true, true, true, true, true, true, true, true, true, true, true, true, true, false, false] rfl rfl (any_of HT_.out (by kernel_rfl)) (fun _ _ _ h => h) (Or.inl ⟨by rfl, ?_⟩) ?_ ?_
              rotate_left
              · intro w'
                go_simp
                with_reducible rfl
              rotate_left
              · simp only [Act.put, List.setIfInBounds_toArray, List.set_cons_zero, List.set_cons_succ, i64_w, i32_w]
                rfl
              refine pure_ (i := 19) (N := some 46) (v := ?_) (a' := ?_) #[true, true, true, true, true, true, true, true, true, true, true, true, true, true, true, true, true, true, true, true, false] rfl rfl (any_of HT_.out (by kernel_rfl)) (fun _ _ _ h => h) (Or.inl ⟨by rfl, ?_⟩) ?_ ?_
              rotate_left
              · intro w'
                go_simp
                with_reducible rfl
              rotate_left
              · simp only [Act.put, List.setIfInBounds_toArray, List.set_cons_zero, List.set_cons_succ, i64_w, i32_w]
                rfl
              refine pure_ (i := 20) (N := some 5) (v := ?_) (a' := ?_) #[true, true, true, true, true, true, true, true, true, true, true, true, true, true, true, true, true, true, true, true, true] rfl rfl (any_of HT_.out (by kernel_rfl)) (fun _ _ _ h => h) (Or.inl ⟨by rfl, ?_⟩) ?_ ?_
              rotate_left
              · intro w'
                go_simp
                with_reducible rfl
              rotate_left
              · simp only [Act.put, List.setIfInBounds_toArray, List.set_cons_zero, List.set_cons_succ, i64_w, i32_w]
                rfl
              refine done_ (done_of HT_.out (by kernel_rfl)) ?_
              try go_wp2
              go_roundw
              case rel => exact ⟨j + 1, hj1, by rw [HS.out], by go_num, below_step (below_drew1 BJ.out) hb⟩
              case measure => simp [intOf]; omega
          · rw [ha, Bool.true_or] at HS
            clear ha
            go_wp2_with fail
            go_quiet (fail)
            go_wp2_with fail
            go_roundw
            case rel => exact ⟨j + 1, hj1, by rw [HS.out], by go_num, pw_below_drewN BJ.out _⟩
            case measure => simp [intOf]; omega
        · obtain rfl : j = m := by omega
          rw [HMk.out]
          have hk1 : k + 1 ≤ q := by omega
          rcases Nat.eq_zero_or_pos k with h0 | h0
          · subst h0
            have hd : decide ((0 : Int) < ((0 : Nat) : Int)) = false := by simp
            go_wp2_with fail
            go_quiet (fail)
            go_wp2_with fail
            go_roundw
            case rel => exact ⟨1, hk1, by go_num, pw_below_drewN BJ.out _⟩
            case measure => simp [intOf]; omega
          · obtain ⟨p, rfl⟩ : ∃ p, k = p + 1 := ⟨k - 1, by omega⟩
            have cp := HCC.out _ BJ.out p (by omega)
            have ck := HCk.out _ BJ.out
            have hrise := HR.out p (by omega)
            rw [← HXX.out] at hrise
            generalize mm.getD p 0 = y at *
            have hd2 : decide (x ≤ y) = false := by simp; omega
            have hd3 : decide ((0 : Int) < ((p + 1 : Nat) : Int)) = true := decide_eq_true (by omega)
            have e1 : IntKind.i64.wrap (((p + 1 : Nat) : Int) - 1) = (p : Int) := by rw [IntKind.wrap_i64]; omega
            have hp0 : (0 : Int) ≤ (p : Int) := by omega
            have hpq : (p : Int) < (q : Int) := by omega
            clear hrise
            go_wp2_with fail
            go_quiet (fail)
            go_wp2_with fail
            go_roundw
            case rel => exact ⟨p + 1 + 1, hk1, by go_num, pw_below_drewN BJ.out _⟩
            case measure => simp [intOf]; omega
    · obtain rfl : k = q := by omega
      clear HM HA HR
      go_wp2_with fail
      go_loopw [7] (fun i wr => ∃ k2 : Nat, k2 ≤ m ∧ i = .int .i64 k2 ∧ Hid (Below w1.heap.size w1 wr)) (fun i _ => m - (intOf i).toNat)
      case atStart => exact ⟨0, Nat.zero_le _, rfl, BK⟩
      case round =>
        obtain ⟨k2, hk2, rfl, BL⟩ := hrel
        by_cases hlt2 : k2 < m
        · have HK2 := Lib.hid (fun W hW => HC.out W hW k2 hlt2)
          obtain ⟨b, off, rfl, hbs, a0, a1⟩ := HC.out _ (HT.out _ BL.out) k2 hlt2
          have hk0 : (0 : Int) ≤ (k2 : Int) := by omega
          have hkm : (k2 : Int) < (m : Int) := by omega
          have HNk := Lib.hid (HN.out k2 hlt2)
          have HAX := Lib.hid (show ∀ W, Below w.heap.size w W → W.cell? ⟨b, off + k2 * 2, none⟩ = some (.int .i64 (l.getD k2 z23).f0) from fun W hW => by
            obtain ⟨b3, o3, e3, _, c3, _⟩ := HK2.out W hW
            cases e3
            exact c3)
          clear HK2
          generalize l.getD k2 z23 = z at *
          obtain ⟨z0, z1⟩ := z
          dsimp only at a0 a1 HNk HAX
          have HIz := Lib.hid (HIs.out z0 z1)
          have hk21 : k2 + 1 ≤ m := by omega
          go_wp2_with fail
          refine (HIz.out _).mono ?_
          rintro e w2 ⟨rfl, hb⟩
          have BM := Lib.hid (below_step BL.out hb)
          clear hb a0 a1 hbs
          go_wp2_with fail
          go_loopw [8, 9] (fun v i wr => ∃ j : Nat, j ≤ k ∧ v = .bool (!isS z0 z1 || inTo mm z0 j) ∧ i = .int .i64 j ∧ Hid (Below w1.heap.size w1 wr)) (fun _ i _ => k - (intOf i).toNat)
          case atStart => exact ⟨0, Nat.zero_le _, by rw [inTo_zero, Bool.or_false], rfl, BM⟩
          case round =>
            obtain ⟨j, hj, rfl, rfl, BJ⟩ := hrel
            by_cases hjl : j < k
            · obtain ⟨b2, o2, rfl, _, cm⟩ := HCI.out _ BJ.out j hjl
              have cz := HAX.out _ (HT.out _ BJ.out)
              have HS := Lib.hid (HI.out z0 j hjl)
              generalize mm.getD j 0 = y at *
              have hj0 : (0 : Int) ≤ (j : Int) := by omega
              have hjk : (j : Int) < (k : Int) := by omega
              have hj1 : j + 1 ≤ k := by omega
              cases ha : (!isS z0 z1 || inTo mm z0 j)
              · rw [Bool.or_eq_false_iff] at ha
                rw [ha.2, Bool.false_or] at HS
                have HS2 := Lib.hid (show (!isS z0 z1 || inTo mm z0 (j + 1)) = (y == z0) by rw [HS.out, ha.1, Bool.false_or])
                clear ha
                go_wp2_with fail
                go_quiet (fail)
                go_wp2_with fail
                go_roundw
                case rel => exact ⟨j + 1, hj1, by rw [HS2.out], by go_num, pw_below_drewN BJ.out _⟩
                case measure => simp [intOf]; omega
              · have HS2 := Lib.hid (show (!isS z0 z1 || inTo mm z0 (j + 1)) = true by
                  rw [HS.out, ← Bool.or_assoc, ha, Bool.true_or])
                clear ha
                go_wp2_with fail
                go_quiet (fail)
                go_wp2_with fail
                go_roundw
                case rel => exact ⟨j + 1, hj1, by rw [HS2.out], by go_num, pw_below_drewN BJ.out _⟩
                case measure => simp [intOf]; omega
            · obtain rfl : j = k := by omega
              have hfin : (!isS z0 z1 || inTo mm z0 j) = true := by
                cases hs : isS z0 z1
                · rfl
                · rw [HNk.out hs]; rfl
              rw [hfin]
              clear hfin
              go_wp2_with fail
              go_roundw
              case rel => exact ⟨k2 + 1, hk21, by go_num, BJ⟩
              case measure => simp [intOf]; omega
        · obtain rfl : k2 = m := by omega
          go_wp2_with fail
          refine (HSp.out _ (HT.out _ BL.out)).mono ?_
          rintro e w2 ⟨rfl, hb⟩
          have BF := Lib.hid (below_step (HT.out _ BL.out) hb)
          clear hb
          go_wp2_with fail
          go_ret
          exact ⟨rfl, BF.out⟩
end Go.Proofs.YtpchbdpepgeibaaDoor
