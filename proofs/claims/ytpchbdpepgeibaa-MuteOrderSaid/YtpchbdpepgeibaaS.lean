/- Contract of mute.Cut. -/
import Derived.Test.YtpchbdpepgeibaaR
namespace Go.Proofs.Ytpchbdpepgeibaa
open Go.RowKit Go.Shelf Go.Proofs Go.Proofs.YtpchbdpepgeibaaW.PrintWords Pturn

theorem wo_len (a b : S32) : (wo a b).length ≤ 2 := by unfold wo; split <;> (try split) <;> (try split) <;> simp
theorem wo_far (a b : S32) (h : a.f0 ≠ b.f0 ∨ b.f2 ≤ a.f1 ∨ a.f2 ≤ b.f1) : wo a b = [a] := by unfold wo; rw [if_pos h]
theorem cut_far (b : S32) : ∀ (l : List S32), (∀ x ∈ l, wo x b = [x]) → cutS l b = l
  | [], _ => rfl
  | x :: l, h => by
    have e : cutS (x :: l) b = wo x b ++ cutS l b := by simp [cutS]
    rw [e, h x (by simp), cut_far b l (fun y hy => h y (by simp [hy]))]
    rfl
theorem cut_len (b : S32) (hb : b.f1 < b.f2) : ∀ (l : List S32), Canon l → (cutS l b).length ≤ l.length + 1
  | [], _ => by simp [cutS]
  | a :: l, h => by
    have e : cutS (a :: l) b = wo a b ++ cutS l b := by simp [cutS]
    rw [e, List.length_append, List.length_cons]
    have ih := cut_len b hb l h.tail
    by_cases h1 : (wo a b).length ≤ 1
    · omega
    · have h2 := wo_len a b
      have h3 : a.f0 = b.f0 ∧ a.f1 < b.f1 ∧ b.f2 < a.f2 := by
        unfold wo at h1
        split at h1
        · simp at h1
        · next hh =>
          by_cases c1 : a.f1 < b.f1
          · by_cases c2 : b.f2 < a.f2
            · exact ⟨by omega, c1, c2⟩
            · rw [if_pos c1, if_neg c2] at h1; simp at h1
          · rw [if_neg c1] at h1
            split at h1 <;> simp at h1
      have h4 : cutS l b = l := by
        have hp := (List.pairwise_cons.1 h.2).1
        have : ∀ x ∈ l, wo x b = [x] := fun x hx => by
          have := hp x hx
          unfold S32.lt at this
          exact wo_far x b (by omega)
        exact cut_far b l this
      rw [h4]
      omega
theorem cut_lens (m l : List S32) (hl : Canon l) (hm : ∀ b ∈ m, b.f1 < b.f2) : ∀ k, k ≤ m.length → ((m.take k).foldl cutS l).length ≤ l.length + k
  | 0, _ => by simp
  | k + 1, hk => by
    have ih := cut_lens m l hl hm k (by omega)
    rw [List.take_succ_eq_append_getElem (by omega), List.foldl_append]
    have hc := (cut_all (m.take k) l hl (fun b hb => hm b (List.mem_of_mem_take hb))).1
    have := cut_len m[k] (hm _ (List.getElem_mem _)) _ hc
    show (cutS _ m[k]).length ≤ _
    omega

set_option maxHeartbeats 2000000 in
theorem cut_bad1 (A1 A2 : Option Addr) (c1 c2 n2 : Nat) (l : List S32) (w : World) (h1 : CW w A1 l) (hl : l.length ≤ 10000) (hi : isB l = false) :
    Calls Try.prog 8 #[.slice A1 l.length c1, .slice A2 n2 c2] w fun e w' => e = .returned (.tuple #[.slice none 0 0, .int .i64 1]) ∧ Below w.heap.size w w' := by
  have HI := Lib.hid (is_any A1 c1 l w h1 (by omega))
  rw [hi] at HI
  generalize l.length = n at *
  clear h1 hi
  go_enter Try.func8, Try.ntmps8
  go_wp2_with fail
  refine HI.out.mono ?_
  rintro e w1 ⟨rfl, hb⟩
  go_wp2_with fail
  go_ret2
  exact ⟨rfl, hb⟩
set_option maxHeartbeats 2000000 in
theorem cut_bad2 (A1 A2 : Option Addr) (c1 c2 : Nat) (l m : List S32) (w : World) (h1 : CW w A1 l) (h2 : CW w A2 m) (hl : l.length ≤ 10000) (hm : m.length ≤ 10000) (hi : isB l = true) (ha : m.all mayB = false) :
    Calls Try.prog 8 #[.slice A1 l.length c1, .slice A2 m.length c2] w fun e w' => e = .returned (.tuple #[.slice none 0 0, .int .i64 1]) ∧ Below w.heap.size w w' := by
  have HI := Lib.hid (is_any A1 c1 l w h1 (by omega))
  have HA := Lib.hid (fun W (hb : Below w.heap.size w W) => all_any A2 c2 m W (h2.grow (grow_of_below hb)) (by omega))
  rw [hi] at HI
  rw [ha] at HA
  generalize l.length = n at *
  generalize m.length = n2 at *
  clear h1 h2 hi ha
  go_enter Try.func8, Try.ntmps8
  go_wp2_with fail
  refine HI.out.mono ?_
  rintro e w1 ⟨rfl, hb⟩
  go_wp2_with fail
  refine (HA.out _ hb).mono ?_
  rintro e w2 ⟨rfl, hb2⟩
  go_wp2_with fail
  go_ret2
  exact ⟨rfl, below_step hb hb2⟩
set_option maxHeartbeats 8000000 in
theorem cut_good (A1 A2 : Option Addr) (c1 c2 : Nat) (l m : List S32) (w : World) (h1 : CW w A1 l) (h2 : CW w A2 m) (hl : l.length ≤ 1000) (hm : m.length ≤ 1000) (hi : isB l = true) (ha : m.all mayB = true) :
    Calls Try.prog 8 #[.slice A1 l.length c1, .slice A2 m.length c2] w fun e w' => ∃ v, e = .returned (.tuple #[v, .int .i64 (turnV l m false).2]) ∧ RW w' w.heap.size v (turnV l m false).1 ∧ Below w.heap.size w w' := by
  have HI := Lib.hid (is_any A1 c1 l w h1 (by omega))
  have HA := Lib.hid (fun W (hb : Below w.heap.size w W) => all_any A2 c2 m W (h2.grow (grow_of_below hb)) (by omega))
  have HC := Lib.hid (fun W (hb : Below w.heap.size w W) => clone_any A1 c1 l W (h1.grow (grow_of_below hb)) (by omega))
  have HM := Lib.hid (fun W (hb : Below w.heap.size w W) k hk => (h2.grow (grow_of_below hb)) k hk)
  have HW := Lib.hid (show (m.take m.length).foldl cutS l = winW l m false by rw [List.take_length]; exact cut_win hi ha)
  have HT1 := Lib.hid (turnV_full l m false hi ha)
  have HT2 := Lib.hid (turnV_fits l m false hi ha)
  have HS := Lib.hid (show ∀ k, k < m.length → (m.take (k + 1)).foldl cutS l = cutS ((m.take k).foldl cutS l) (m.getD k z32) from fun k hk => by
    rw [List.take_succ_eq_append_getElem hk, List.foldl_append, ← getD_eq m z32 k hk]; rfl)
  have HL := Lib.hid (show ∀ k, k ≤ m.length → ((m.take k).foldl cutS l).length ≤ 2000 from fun k hk => by
    have := cut_lens m l (is_spec hi).1 (fun b hb => (all_may ha b hb).2.2.2.1) k hk
    omega)
  rw [hi] at HI
  rw [ha] at HA
  generalize turnV l m false = T at *
  obtain ⟨n1, hn1⟩ : ∃ n, n = l.length := ⟨_, rfl⟩
  obtain ⟨n2, hn2⟩ : ∃ n, n = m.length := ⟨_, rfl⟩
  rw [← hn1] at HI HC hl ⊢
  rw [← hn2] at HA HM HW HS HL hm ⊢
  clear h1 h2 hi ha hn1 hn2
  go_enter Try.func8, Try.ntmps8
  go_wp2_with fail
  refine HI.out.mono ?_
  rintro e w1 ⟨rfl, hb⟩
  go_wp2_with fail
  refine (HA.out _ hb).mono ?_
  rintro e w2 ⟨rfl, hb2⟩
  have hb2 := below_step hb hb2
  clear hb
  go_wp2_with fail
  refine (HC.out w2 hb2).mono ?_
  rintro e w3 ⟨v3, rfl, hr3, hb3⟩
  have H0 := Lib.hid (And.intro (own_less hr3 hb2.size : RW w3 w.heap.size v3 l) (below_step hb2 hb3))
  clear hb2 hr3 hb3 HC HI HA
  go_wp2_with fail
  go_loopw [6, 24] (fun v i wr => ∃ k : Nat, k ≤ n2 ∧ i = .int .i64 k ∧ RW wr w.heap.size v ((m.take k).foldl cutS l) ∧ Below w.heap.size w wr) (fun _ i _ => n2 - (intOf i).toNat)
  case atStart => exact ⟨0, by omega, rfl, by rw [List.take_zero]; exact H0.out.1, H0.out.2⟩
  case round =>
    obtain ⟨k, hk, rfl, hr, hb⟩ := hrel
    by_cases hlt : k < n2
    · obtain ⟨b, off, rfl, hbs, a0, a1, a2⟩ := HM.out wr hb k hlt
      have HSk := Lib.hid (HS.out k hlt)
      have hol := HL.out k hk
      have hol2 := HL.out (k + 1) hlt
      rw [HSk.out] at hol2
      generalize (m.take k).foldl cutS l = o at *
      generalize m.getD k z32 = y at *
      have hk0 : (0 : Int) ≤ (k : Int) := by omega
      have hkm : (k : Int) < (n2 : Int) := by omega
      obtain ⟨A6, c6, rfl, _, hco⟩ := hr.reads
      have hbB := below_alloc hb (.cells #[.int .i64 y.f0, .int .i64 y.f1, .int .i64 y.f2] 32)
      have hcoB := hco.grow (grow_alloc wr (.cells #[.int .i64 y.f0, .int .i64 y.f1, .int .i64 y.f2] 32))
      have HO := Lib.hid (show ∀ W, Below (wr.heap.size + 1) (wr.alloc (.cells #[.int .i64 y.f0, .int .i64 y.f1, .int .i64 y.f2] 32)) W → ∀ k, k < o.length → _ from fun W hb k hk => (hcoB.grow (grow_of_below (by simpa using hb))) k hk)
      have HY := Lib.hid (show ∀ W, Below (wr.heap.size + 1) (wr.alloc (.cells #[.int .i64 y.f0, .int .i64 y.f1, .int .i64 y.f2] 32)) W → W.cell? ⟨wr.heap.size, 0, none⟩ = some (.int .i64 y.f0) ∧ W.cell? ⟨wr.heap.size, 1, none⟩ = some (.int .i64 y.f1) ∧ W.cell? ⟨wr.heap.size, 2, none⟩ = some (.int .i64 y.f2) from fun W hb =>
        ⟨(hb.cell (p := ⟨wr.heap.size, 0, none⟩) (Nat.lt_succ_self _)).trans (by simp), (hb.cell (p := ⟨wr.heap.size, 1, none⟩) (Nat.lt_succ_self _)).trans (by simp), (hb.cell (p := ⟨wr.heap.size, 2, none⟩) (Nat.lt_succ_self _)).trans (by simp)⟩)
      have HWO := Lib.hid (fun z W => without_any z y W)
      have HCT := Lib.hid (show ∀ j, j < o.length → cutS (o.take (j + 1)) y = cutS (o.take j) y ++ wo (o.getD j z32) y from fun j hj => by
        rw [List.take_succ_eq_append_getElem hj, ← getD_eq o z32 j hj]; simp [cutS])
      have HCE := Lib.hid (show cutS (o.take o.length) y = cutS o y by rw [List.take_length])
      have HCL := Lib.hid (show ∀ j, (cutS (o.take j) y).length ≤ 10000 from fun j => by
        have : (cutS (o.take j) y).length ≤ 2 * (o.take j).length := by
          generalize o.take j = p
          induction p with
          | nil => simp [cutS]
          | cons x p ih =>
            have e : cutS (x :: p) y = wo x y ++ cutS p y := by simp [cutS]
            have := wo_len x y
            rw [e, List.length_append, List.length_cons]
            omega
        have h2 : (o.take j).length ≤ o.length := List.length_take_le' _ _
        omega)
      obtain ⟨y0, y1, y2⟩ := y
      dsimp only at a0 a1 a2 HY HO hbB
      obtain ⟨n6, hn6⟩ : ∃ n, n = o.length := ⟨_, rfl⟩
      rw [← hn6] at HO HCT HCE hol ⊢
      obtain ⟨wo', hwo⟩ : ∃ wo' : World, wo' = wr.alloc (.cells #[.int .i64 y0, .int .i64 y1, .int .i64 y2] 32) := ⟨_, rfl⟩
      have hz : wr.heap.size + 1 = wo'.heap.size := by rw [hwo]; simp
      rw [← hwo] at HO HY hbB
      have HBo := Lib.hid hbB
      have HWO' := Lib.hid hwo
      have HZ := Lib.hid hz
      have HB := Lib.hid hb
      clear hr hco hcoB hb hbB hn6 HM HS HL HW H0 HT1 HT2 hwo hz
      go_wp2_with fail
      rw [← HWO'.out]
      clear HWO'
      generalize wr.heap.size = B8 at *
      go_loopw [9, 30] (fun v i wr2 => ∃ j : Nat, j ≤ n6 ∧ i = .int .i64 j ∧ RW wr2 wo'.heap.size v (cutS (o.take j) ⟨y0, y1, y2⟩) ∧ Below wo'.heap.size wo' wr2) (fun _ i _ => n6 - (intOf i).toNat)
      case atStart => exact ⟨0, by omega, rfl, RW.nil _ _, Below.refl _ _⟩
      case round =>
        obtain ⟨j, hj, rfl, hr2, hb2⟩ := hrel
        by_cases hjl : j < n6
        · obtain ⟨bb, off2, rfl, hbs2, d0, d1, d2⟩ := HO.out wr (by rw [HZ.out]; exact hb2) j hjl
          obtain ⟨f0, f1, f2⟩ := HY.out wr (by rw [HZ.out]; exact hb2)
          have HCj := Lib.hid (HCT.out j hjl)
          have HLj := HCL.out j
          have HWz := Lib.hid (HWO.out (o.getD j z32))
          have hwl := wo_len (o.getD j z32) ⟨y0, y1, y2⟩
          generalize cutS (o.take j) ⟨y0, y1, y2⟩ = p at *
          generalize wo (o.getD j z32) ⟨y0, y1, y2⟩ = q at *
          generalize o.getD j z32 = z at *
          obtain ⟨z0, z1, z2⟩ := z
          dsimp only at d0 d1 d2 HWz
          have hj0 : (0 : Int) ≤ (j : Int) := by omega
          have hjm : (j : Int) < (n6 : Int) := by omega
          have HR2 := Lib.hid hr2
          have HB2 := Lib.hid hb2
          have hzz : B8 < wr.heap.size := by have h1 := HZ.out; have h2 := hb2.size; omega
          have hne : B8 ≠ wr.heap.size := by omega
          clear hr2 hb2 HO HY HCT HCE HCL
          go_wp2_with fail
          refine (HWz.out _).mono ?_
          rintro e w7 ⟨v7, rfl, hr7, hb7⟩
          obtain ⟨A7, c7, rfl, _, hc7⟩ := hr7.reads
          have hg7 := grow_trans (grow_alloc wr (.cells #[.int .i64 z0, .int .i64 z1, .int .i64 z2] 32)) (grow_of_below hb7)
          have hb7' : Below wo'.heap.size wo' w7 := below_step (below_alloc HB2.out _) hb7
          have hr7' := HR2.out.grow hg7
          obtain ⟨v8, w8, hrun, hr8, hg8⟩ := append_cw w7 wo'.heap.size _ p hr7' A7 c7 q hc7 (by omega) hb7'.size
          have HF := Lib.hid (And.intro hr8 (hb7'.grown hg8 hb7'.size (fun t ht => own_base hr7' t ht)))
          clear hr7 hb7 hc7 hg7 hb7' hr7' hr8 hg8
          go_wp2_with (refine wpList_append_run (d := some 38) _ _ (by rfl) (by rfl) hrun ?_)
          go_roundw
          case rel => exact ⟨j + 1, by omega, by go_num, by rw [HCj.out]; exact HF.out.1, HF.out.2⟩
          case measure => simp [intOf]; omega
        · have e : j = n6 := by omega
          subst e
          rw [HCE.out, ← HSk.out] at hr2
          have hle : w.heap.size ≤ wo'.heap.size := HBo.out.size
          have HF := Lib.hid (And.intro (own_less hr2 hle : RW wr w.heap.size _ _) (HBo.out.trans (hb2.mono hle)))
          clear hr2 hb2 HO HY HCT HCE HCL HWO
          go_wp2_with fail
          go_roundw
          case rel => exact ⟨k + 1, by omega, by go_num, HF.out.1, HF.out.2⟩
          case measure => simp [intOf]; omega
    · have e : k = n2 := by omega
      subst e
      have hln := HL.out k (Nat.le_refl _)
      rw [HW.out] at hr hln
      generalize winW l m false = R at *
      obtain ⟨A5, c5, rfl, _, _⟩ := hr.reads
      have HF := Lib.hid (And.intro hr hb)
      clear hr hb HM HS HL HW
      by_cases h : 100 < R.length
      · have ht := Lib.hid (HT1.out h)
        clear HT1 HT2
        go_wp2_with fail
        refine (told_full A5 R.length c5 wr h (by omega)).mono ?_
        rintro e w6 ⟨rfl, rfl⟩
        go_wp2_with fail
        go_ret2
        have e := ht.out
        subst e
        exact ⟨_, rfl, RW.nil _ _, HF.out.2⟩
      · have ht := Lib.hid (HT2.out (by omega))
        clear HT1 HT2
        go_wp2_with fail
        refine (told_fits A5 R.length c5 wr (by omega)).mono ?_
        rintro e w6 ⟨rfl, rfl⟩
        go_wp2_with fail
        go_ret2
        have e := ht.out
        subst e
        exact ⟨_, rfl, HF.out.1, HF.out.2⟩
theorem cut_any (A1 A2 : Option Addr) (c1 c2 : Nat) (l m : List S32) (w : World) (h1 : CW w A1 l) (h2 : CW w A2 m) (hl : l.length ≤ 1000) (hm : m.length ≤ 1000) :
    Calls Try.prog 8 #[.slice A1 l.length c1, .slice A2 m.length c2] w fun e w' => ∃ v, e = .returned (.tuple #[v, .int .i64 (turnV l m false).2]) ∧ RW w' w.heap.size v (turnV l m false).1 ∧ Below w.heap.size w w' := by
  cases hi : isB l
  · rw [turnV_bad l m false hi]
    exact (cut_bad1 A1 A2 c1 c2 m.length l w h1 (by omega) hi).mono fun e w' ⟨he, hb⟩ => ⟨_, he, RW.nil _ _, hb⟩
  · cases ha : m.all mayB
    · rw [turnV_bad2 l m false ha]
      exact (cut_bad2 A1 A2 c1 c2 l m w h1 h2 (by omega) (by omega) hi ha).mono fun e w' ⟨he, hb⟩ => ⟨_, he, RW.nil _ _, hb⟩
    · exact cut_good A1 A2 c1 c2 l m w h1 h2 hl hm hi ha
end Go.Proofs.Ytpchbdpepgeibaa
