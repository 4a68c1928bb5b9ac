/- Contracts of the document's functions of mute. -/
import Derived.Test.YtpchbdpepgeibaaS
import Derived.Test.YtpchbdpepgeibaaPTillx1
import Derived.Test.YtpchbdpepgeibaaPSamex2
namespace Go.Proofs.Ytpchbdpepgeibaa
open Go.RowKit Go.Shelf Go.Proofs Go.Proofs.YtpchbdpepgeibaaW.PrintWords Pturn

theorem own_any (A : Option Addr) (c : Nat) (l : List S32) (w : World) (h : CW w A l) (hl : l.length ≤ 10000) :
    Calls Try.prog 5 #[.slice A l.length c] w fun e w' => ∃ v, e = .returned v ∧ RW w' w.heap.size v l ∧ Below w.heap.size w w' := by
  obtain ⟨v', w2, hrun, hr2, hg2⟩ := append_cw w w.heap.size _ [] (RW.nil _ _) A c l h (by simp; omega) (Nat.le_refl _)
  have hb2 := (Below.refl w.heap.size w).grown hg2 (Nat.le_refl _) (fun k hk => by cases hk)
  have HF := Lib.hid (And.intro hr2 hb2)
  generalize l.length = n at *
  clear h hr2 hg2 hb2
  go_enter Try.func5, Try.ntmps5
  go_wp2_with (refine wpList_append_run (d := some 6) _ _ (by rfl) (by rfl) hrun ?_)
  go_ret
  exact ⟨_, rfl, HF.out.1, HF.out.2⟩
theorem turn_any (A1 A2 : Option Addr) (c1 c2 : Nat) (l m : List S32) (both : Bool) (w : World) (h1 : CW w A1 l) (h2 : CW w A2 m) (hl : l.length ≤ 200) (hm : m.length ≤ 200) (hc1 : l.length ≤ c1) (hc2 : m.length ≤ c2) :
    Calls Try.prog 24 #[.slice A1 l.length c1, .slice A2 m.length c2, .bool both] w fun e w' => ∃ v, e = .returned (.tuple #[v, .int .i64 (turnV l m both).2]) ∧ RW w' w.heap.size v (turnV l m both).1 ∧ Below w.heap.size w w' := by
  obtain ⟨K, hK⟩ := (turn_ev l m both hl hm).rounds
  refine (watchmanref10_turn.calls K A1 c1 l A2 c2 m both (turnV l m both).1 (turnV l m both).2 w (cw_to_c h1 (by omega)) hc1 (cw_to_c h2 (by omega)) hc2 hK).mono ?_
  rintro e w' ⟨v, rfl, hr, hb⟩
  exact ⟨v, rfl, rw_of_r hr, hb⟩
theorem radd_any (A1 A2 : Option Addr) (c1 c2 : Nat) (l m : List S32) (w : World) (h1 : CW w A1 l) (h2 : CW w A2 m) (hl : l.length ≤ 200) (hm : m.length ≤ 200) (hc1 : l.length ≤ c1) (hc2 : m.length ≤ c2) :
    Calls Try.prog 7 #[.slice A1 l.length c1, .slice A2 m.length c2] w fun e w' => ∃ v, e = .returned (.tuple #[v, .int .i64 (turnV l m true).2]) ∧ RW w' w.heap.size v (turnV l m true).1 ∧ Below w.heap.size w w' := by
  have HT := Lib.hid (turn_any A1 A2 c1 c2 l m true w h1 h2 hl hm hc1 hc2)
  generalize (turnV l m true) = T at *
  generalize l.length = n1 at *
  generalize m.length = n2 at *
  clear h1 h2
  go_enter Try.func7, Try.ntmps7
  go_wp2_with fail
  refine HT.out.mono ?_
  rintro e w1 ⟨v, rfl, hr, hb⟩
  have HF := Lib.hid (And.intro hr hb)
  obtain ⟨A, c, rfl, _, _⟩ := hr.reads
  clear hr hb
  go_wp2_with fail
  go_ret2
  exact ⟨_, rfl, HF.out.1, HF.out.2⟩
theorem rcut_any (A1 A2 : Option Addr) (c1 c2 : Nat) (l m : List S32) (w : World) (h1 : CW w A1 l) (h2 : CW w A2 m) (hl : l.length ≤ 200) (hm : m.length ≤ 200) (hc1 : l.length ≤ c1) (hc2 : m.length ≤ c2) :
    Calls Try.prog 9 #[.slice A1 l.length c1, .slice A2 m.length c2] w fun e w' => ∃ v, e = .returned (.tuple #[v, .int .i64 (turnV l m false).2]) ∧ RW w' w.heap.size v (turnV l m false).1 ∧ Below w.heap.size w w' := by
  have HT := Lib.hid (turn_any A1 A2 c1 c2 l m false w h1 h2 hl hm hc1 hc2)
  generalize (turnV l m false) = T at *
  generalize l.length = n1 at *
  generalize m.length = n2 at *
  clear h1 h2
  go_enter Try.func9, Try.ntmps9
  go_wp2_with fail
  refine HT.out.mono ?_
  rintro e w1 ⟨v, rfl, hr, hb⟩
  have HF := Lib.hid (And.intro hr hb)
  obtain ⟨A, c, rfl, _, _⟩ := hr.reads
  clear hr hb
  go_wp2_with fail
  go_ret2
  exact ⟨_, rfl, HF.out.1, HF.out.2⟩
theorem ris_any (A : Option Addr) (c : Nat) (l : List S32) (w : World) (h : CW w A l) (hl : l.length ≤ 10000) (hc : l.length ≤ c) :
    Calls Try.prog 15 #[.slice A l.length c] w fun e w' => e = .returned (.bool (isB l)) ∧ Below w.heap.size w w' := by
  obtain ⟨K, hK⟩ := (is_ev l (by omega)).rounds
  exact watchmanref10_Is.calls K A c l (isB l) w (cw_to_c h (by omega)) hc hK
theorem rhas_any (A : Option Addr) (c : Nat) (l : List S32) (b t : Int) (w : World) (h : CW w A l) (hl : l.length ≤ 10000) (hc : l.length ≤ c) :
    Calls Try.prog 17 #[.slice A l.length c, .int .i64 b, .int .i64 t] w fun e w' => e = .returned (.bool (hasB l b t)) ∧ ∃ k, w' = w.drewN k := by
  obtain ⟨K, hK⟩ := (has_ev l (by omega) b t).rounds
  exact (watchmanref10_Has.calls K A c l b t (hasB l b t) w (cw_to_c h (by omega)) hc hK).mono fun e w' ⟨he, hd⟩ => ⟨he, hd.out⟩

/-! ### Same: two rows that are one -/
def toS (x : S32) : PSame.S32 := ⟨x.f0, x.f1, x.f2⟩
theorem cw_to_cS {w : World} {A : Option Addr} {l : List S32} (h : CW w A l) (hl : l.length ≤ 100000) : Kd.C PSame.k32 w A (l.map toS).length (l.map toS) := by
  refine ⟨rfl, by simp; omega, fun hp => ?_⟩
  obtain ⟨b, off, rfl, _⟩ := h.has1 (by simpa using hp)
  refine ⟨_, rfl, fun j p hj => ?_⟩
  have hj' : j < l.length := by have := (List.getElem?_eq_some_iff.1 hj).1; simpa using this
  have hp' : toS (l.getD j z32) = p := by
    rw [List.getElem?_map, List.getElem?_eq_getElem hj'] at hj
    rw [getD_eq l z32 j hj']
    simpa using hj
  subst hp'
  refine ⟨wc (l.getD j z32), rfl, PSame.k32_mk w _, fun i u hu => ?_⟩
  have hi : i < 3 := (List.getElem?_eq_some_iff.1 hu).1
  rw [add_at]
  exact h.cells _ u (by rw [show j * PSame.k32.sz + i = j * 3 + i from rfl, wcs_get l j hj' i hi]; exact hu)
theorem same_l0 (l : List PSame.S32) (hl : l.length ≤ 1000000) : ∀ (d i : Nat), i + d = l.length → Ev (fun k => PSame.watchmanref10_Same.l0 k l l (i : Int)) true
  | 0, i, hd => by
    refine ⟨1, fun k hk => ?_⟩
    obtain ⟨m, rfl⟩ : ∃ m, k = m + 1 := ⟨k - 1, by omega⟩
    dsimp only
    rw [PSame.watchmanref10_Same.l0, if_neg (by omega)]
  | d + 1, i, hd => by
    obtain ⟨K, hK⟩ := same_l0 l hl d (i + 1) (by omega)
    refine ⟨K + 1, fun k hk => ?_⟩
    obtain ⟨m, rfl⟩ : ∃ m, k = m + 1 := ⟨k - 1, by omega⟩
    dsimp only
    have hn' : PSame.watchmanref10_Same.l0 m l l ((i : Int) + 1) = some true := hK m (by omega)
    rw [PSame.watchmanref10_Same.l0, if_pos (by omega), if_pos (by omega), if_pos (by omega), if_neg (by simp), wr_up _ (by omega) (by omega), hn']
theorem same_any (A B : Option Addr) (c d : Nat) (l : List S32) (w : World) (h1 : CW w A l) (h2 : CW w B l) (hl : l.length ≤ 10000) (hc : l.length ≤ c) (hd : l.length ≤ d) :
    Calls Try.prog 12 #[.slice A l.length c, .slice B l.length d] w fun e w' => e = .returned (.bool true) ∧ ∃ k, w' = w.drewN k := by
  obtain ⟨K, hK⟩ := (same_l0 (l.map toS) (by simp; omega) (l.map toS).length 0 (by omega)).rounds
  have h := PSame.watchmanref10_Same.calls K A c (l.map toS) B d (l.map toS) true w (cw_to_cS h1 (by omega)) (by simpa using hc) (cw_to_cS h2 (by omega)) (by simpa using hd) (by unfold PSame.watchmanref10_Same.f; rw [if_pos rfl]; exact hK)
  rw [List.length_map] at h
  exact h.mono fun e w' ⟨he, hd⟩ => ⟨he, hd.out⟩

/-! ### Till -/
def toT (x : S32) : PTill.S32 := ⟨x.f0, x.f1, x.f2⟩
theorem cw_to_cT {w : World} {A : Option Addr} {l : List S32} (h : CW w A l) (hl : l.length ≤ 100000) : Kd.C PTill.k32 w A (l.map toT).length (l.map toT) := by
  refine ⟨rfl, by simp; omega, fun hp => ?_⟩
  obtain ⟨b, off, rfl, _⟩ := h.has1 (by simpa using hp)
  refine ⟨_, rfl, fun j p hj => ?_⟩
  have hj' : j < l.length := by have := (List.getElem?_eq_some_iff.1 hj).1; simpa using this
  have hp' : toT (l.getD j z32) = p := by
    rw [List.getElem?_map, List.getElem?_eq_getElem hj'] at hj
    rw [getD_eq l z32 j hj']
    simpa using hj
  subst hp'
  refine ⟨wc (l.getD j z32), rfl, PTill.k32_mk w _, fun i u hu => ?_⟩
  have hi : i < 3 := (List.getElem?_eq_some_iff.1 hu).1
  rw [add_at]
  exact h.cells _ u (by rw [show j * PTill.k32.sz + i = j * 3 + i from rfl, wcs_get l j hj' i hi]; exact hu)
theorem has_one (x : S32) (b t : Int) : ∀ k, PTill.watchmanref10_Has.f (k + 2) [toT x] b t = some (hitB x b t) := by
  intro k
  unfold PTill.watchmanref10_Has.f hitB
  rw [PTill.watchmanref10_Has.l0, if_pos (by simp), if_pos (by omega)]
  have e1 : PTill.rd_T32 [toT x] 0 = toT x := rfl
  have e2 : PTill.watchmanref10_Has.l0 (k + 1) [toT x] b t (wrap64 (0 + 1)) = some false := by
    rw [PTill.watchmanref10_Has.l0, if_neg (by simp [wrap64])]
  rw [e1, e2]
  show (if x.f0 = b then if x.f1 ≤ t then if t < x.f2 then _ else _ else _ else _) = _
  by_cases h1 : x.f0 = b
  · by_cases h2 : x.f1 ≤ t
    · by_cases h3 : t < x.f2
      · rw [if_pos h1, if_pos h2, if_pos h3]; simp [h1, h2, h3]
      · rw [if_pos h1, if_pos h2, if_neg h3]; simp; omega
    · rw [if_pos h1, if_neg h2]; simp; omega
  · rw [if_neg h1]; simp [h1]
theorem till_l0 (l : List S32) (hl : l.length ≤ 1000000) (b t : Int) (R : Int × Bool) (hR1 : ∀ k, k < l.length → hitB (l.getD k z32) b t = true → (∀ j, j < k → hitB (l.getD j z32) b t = false) → R = ((l.getD k z32).f2, true)) (hR2 : (∀ j, j < l.length → hitB (l.getD j z32) b t = false) → R = (0, false)) :
    ∀ (d i : Nat), i + d = l.length → (∀ j, j < i → hitB (l.getD j z32) b t = false) → Ev (fun k => PTill.watchmanref10_Till.l0 k (l.map toT) b t (i : Int)) R
  | 0, i, hd, hj => by
    refine ⟨1, fun k hk => ?_⟩
    obtain ⟨m, rfl⟩ : ∃ m, k = m + 1 := ⟨k - 1, by omega⟩
    dsimp only
    rw [PTill.watchmanref10_Till.l0, if_neg (by simp; omega), hR2 (fun j h => hj j (by omega))]
  | d + 1, i, hd, hj => by
    have hi : i < l.length := by omega
    have e0 : (((l.map toT).take ((i + 1 : Nat) : Int).toNat).drop ((i : Nat) : Int).toNat) = [toT (l.getD i z32)] := by
      rw [Int.toNat_natCast, Int.toNat_natCast, List.take_succ_eq_append_getElem (by simpa using hi), List.drop_append_of_le_length (by simp; omega), List.drop_of_length_le (by simp; omega)]
      rw [getD_eq l z32 i hi]
      simp
    have e1 : wrap64 ((i : Int) + 1) = ((i + 1 : Nat) : Int) := wr_up _ (by omega) (by omega)
    have e2 : (PTill.rd_T32 (l.map toT) (i : Int)).f2 = (l.getD i z32).f2 := by
      unfold PTill.rd_T32
      rw [Int.toNat_natCast, List.getD_eq_getElem?_getD, List.getElem?_map, List.getElem?_eq_getElem hi, getD_eq l z32 i hi]
      rfl
    cases hh : hitB (l.getD i z32) b t with
    | true =>
      refine ⟨3, fun k hk => ?_⟩
      obtain ⟨m, rfl⟩ : ∃ m, k = m + 3 := ⟨k - 3, by omega⟩
      dsimp only
      rw [PTill.watchmanref10_Till.l0, if_pos (by simp; omega), if_pos (by omega), e1, if_pos (by omega), if_pos (by simp; omega), e0, has_one, Option.bind_some, hh, if_pos rfl, e2, hR1 i hi hh hj]
    | false =>
      obtain ⟨K, hK⟩ := till_l0 l hl b t R hR1 hR2 d (i + 1) (by omega) (fun j h => by
        by_cases e : j = i
        · subst e; exact hh
        · exact hj j (by omega))
      refine ⟨K + 3, fun k hk => ?_⟩
      obtain ⟨m, rfl⟩ : ∃ m, k = m + 3 := ⟨k - 3, by omega⟩
      dsimp only
      have hn' : PTill.watchmanref10_Till.l0 (m + 2) (l.map toT) b t ((i + 1 : Nat) : Int) = some R := hK (m + 2) (by omega)
      rw [PTill.watchmanref10_Till.l0, if_pos (by simp; omega), if_pos (by omega), e1, if_pos (by omega), if_pos (by simp; omega), e0, has_one, Option.bind_some, hh, if_neg (by simp), hn']
theorem rtill_any (A : Option Addr) (c : Nat) (l : List S32) (b t : Int) (w : World) (h : CW w A l) (hl : l.length ≤ 10000) (hc : l.length ≤ c) :
    Calls Try.prog 11 #[.slice A l.length c, .int .i64 b, .int .i64 t] w fun e w' => e = .returned (.tuple #[.int .i64 (tillV l b t).1, .bool (tillV l b t).2]) ∧ ∃ k, w' = w.drewN k := by
  have hev := till_l0 l (by omega) b t (tillV l b t) (fun k hk h1 h2 => by
    unfold tillV
    rcases idx_cases l b t with ⟨g1, _⟩ | ⟨k', g1, g2, g3, g4⟩
    · rw [g1 k hk] at h1; cases h1
    · have : k = k' := by
        rcases Nat.lt_trichotomy k k' with h | h | h
        · rw [g3 k h] at h1; cases h1
        · exact h
        · rw [h2 k' h] at g2; cases g2
      subst this
      rw [g4, if_neg (by omega), Int.toNat_natCast]) (fun hall => by
    unfold tillV
    rcases idx_cases l b t with ⟨_, g2⟩ | ⟨k', g1, g2, _⟩
    · rw [g2, if_pos (by omega)]
    · rw [hall k' g1] at g2; cases g2) l.length 0 (by omega) (fun j h => by omega)
  obtain ⟨K, hK⟩ := hev.rounds
  have hcall := PTill.watchmanref10_Till.calls K A c (l.map toT) b t (tillV l b t).1 (tillV l b t).2 w (cw_to_cT h (by omega)) (by simpa using hc) hK
  rw [List.length_map] at hcall
  exact hcall.mono fun e w' ⟨he, hd⟩ => ⟨he, hd.out⟩

set_option maxHeartbeats 2000000 in
theorem rtotal_bad (A : Option Addr) (c : Nat) (l : List S32) (b : Int) (w : World) (h : CW w A l) (hl : l.length ≤ 10000) (hc : l.length ≤ c) (hi : isB l = false) :
    Calls Try.prog 19 #[.slice A l.length c, .int .i64 b] w fun e w' => e = .returned (.int .i64 (totV l b)) ∧ Below w.heap.size w w' := by
  have HI := Lib.hid (fun W (hb : Below w.heap.size w W) => ris_any A c l W (h.grow (grow_of_below hb)) hl hc)
  have HV := Lib.hid (show 0 = totV l b by unfold totV; rw [hi]; rfl)
  rw [hi] at HI
  have h0 : 0 < l.length := by
    rcases Nat.eq_zero_or_pos l.length with h0 | h0
    · have : l = [] := List.eq_nil_of_length_eq_zero h0
      subst this
      cases hi
    · exact h0
  generalize totV l b = V at *
  generalize l.length = m at *
  clear h hi
  go_enter Try.func19, Try.ntmps19
  go_wp2_with fail
  go_loopw [5, 6] (fun n i wr => i = .int .i64 0 ∧ n = .int .i64 0 ∧ Below w.heap.size w wr) (fun _ _ _ => 0)
  case atStart => exact ⟨rfl, rfl, .refl _ _⟩
  case round =>
    obtain ⟨rfl, rfl, hb⟩ := hrel
    have hd : decide (0 < (m : Int)) = true := by simp; omega
    have HI' := Lib.hid (HI.out wr hb)
    clear HI
    go_wp2_with fail
    refine HI'.out.mono ?_
    rintro e w1 ⟨rfl, hb1⟩
    go_wp2_with fail
    go_ret
    exact ⟨ret_int HV.out, below_step hb hb1⟩
set_option maxHeartbeats 4000000 in
theorem rtotal_good (A : Option Addr) (c : Nat) (l : List S32) (b : Int) (w : World) (h : CW w A l) (hl : l.length ≤ 10000) (hc : l.length ≤ c) (hi : isB l = true) :
    Calls Try.prog 19 #[.slice A l.length c, .int .i64 b] w fun e w' => e = .returned (.int .i64 (totV l b)) ∧ Below w.heap.size w w' := by
  obtain ⟨_, hm, h100⟩ := is_spec hi
  have HI := Lib.hid (fun W (hb : Below w.heap.size w W) => ris_any A c l W (h.grow (grow_of_below hb)) hl hc)
  have HV := Lib.hid (show totF (l.take l.length) b = totV l b by unfold totV; rw [hi, List.take_length]; rfl)
  have HB := Lib.hid (tot_bound l b hm)
  have HT := Lib.hid (tot_take l b)
  have HM := Lib.hid (fun k (hk : k < l.length) => may_spec (hm (l.getD k z32) (by rw [getD_eq l z32 k hk]; exact List.getElem_mem _)))
  have HC := Lib.hid (fun W (g : w.grownBy W none) k hk => (h.grow g) k hk)
  rw [hi] at HI
  generalize totV l b = V at *
  obtain ⟨m, hm⟩ : ∃ m, m = l.length := ⟨_, rfl⟩
  rw [← hm] at HI HV HB HT HM HC hl h100 ⊢
  clear h hi hm
  go_enter Try.func19, Try.ntmps19
  go_wp2_with fail
  go_loopw [5, 6] (fun n i wr => ∃ k : Nat, k ≤ m ∧ i = .int .i64 k ∧ n = .int .i64 (totF (l.take k) b) ∧ Below w.heap.size w wr) (fun _ i _ => m - (intOf i).toNat)
  case atStart => exact ⟨0, by omega, rfl, rfl, .refl _ _⟩
  case round =>
    obtain ⟨k, hk, rfl, rfl, hb⟩ := hrel
    by_cases hlt : k < m
    · have HI' := Lib.hid (HI.out wr hb)
      have HC' := Lib.hid (fun W (g : w.grownBy W none) => HC.out W g k hlt)
      have HTk := Lib.hid (HT.out k hlt)
      obtain ⟨t1, t2⟩ := HB.out k hk
      have hmx := HM.out k hlt
      have hk0 : (0 : Int) ≤ (k : Int) := by omega
      have hkm : (k : Int) < (m : Int) := by omega
      have hB := Lib.hid hb
      clear hb HC HT HB HM HV HI
      generalize totF (l.take k) b = n at *
      generalize l.getD k z32 = z at *
      obtain ⟨z0, z1, z2⟩ := z
      dsimp only at HC' hmx
      obtain ⟨m0, m1, m2, m3, m4⟩ := hmx
      have hn : n ≤ 100000000000 := by omega
      go_wp2_with fail
      refine HI'.out.mono ?_
      rintro e w1 ⟨rfl, hb1⟩
      have hb2 := below_step hB.out hb1
      obtain ⟨bb, off, rfl, hbs, a0, a1, a2⟩ := HC'.out w1 (grow_of_below hb2)
      have HB2 := Lib.hid hb2
      clear hb1 hb2 HC'
      cases hz : (z0 == b)
      · have hne : z0 ≠ b := by simpa using hz
        have HF := Lib.hid (show totF (l.take (k + 1)) b = n by rw [HTk.out]; unfold totS; rw [if_neg hne])
        clear HTk hne
        go_wp2_with fail
        go_roundw
        case rel => exact ⟨k + 1, by omega, by go_num, by rw [HF.out], HB2.out⟩
        case measure => simp [intOf]; omega
      · have hne : z0 = b := by simpa using hz
        have HF := Lib.hid (show totF (l.take (k + 1)) b = n + z2 - z1 by rw [HTk.out]; unfold totS; rw [if_pos hne]; dsimp only; omega)
        have e1 : IntKind.i64.wrap (n + z2) = n + z2 := by rw [IntKind.wrap_i64]; omega
        have e2 : IntKind.i64.wrap (n + z2 - z1) = n + z2 - z1 := by rw [IntKind.wrap_i64]; omega
        clear HTk hne
        go_wp2_with fail
        go_quiet (fail)
        go_wp2_with fail
        go_roundw
        case rel => exact ⟨k + 1, by omega, by go_num, by rw [HF.out], pw_below_drewN HB2.out _⟩
        case measure => simp [intOf]; omega
    · have e : k = m := by omega
      subst e
      have hd : decide ((k : Int) < (k : Int)) = false := by simp
      go_wp2_with fail
      go_ret
      exact ⟨ret_int HV.out, hb⟩
theorem rtotal_any (A : Option Addr) (c : Nat) (l : List S32) (b : Int) (w : World) (h : CW w A l) (hl : l.length ≤ 10000) (hc : l.length ≤ c) :
    Calls Try.prog 19 #[.slice A l.length c, .int .i64 b] w fun e w' => e = .returned (.int .i64 (totV l b)) ∧ Below w.heap.size w w' := by
  cases hi : isB l
  · exact rtotal_bad A c l b w h hl hc hi
  · exact rtotal_good A c l b w h hl hc hi
end Go.Proofs.Ytpchbdpepgeibaa
