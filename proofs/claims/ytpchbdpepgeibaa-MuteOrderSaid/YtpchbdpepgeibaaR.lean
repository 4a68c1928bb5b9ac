/- Contracts of mute.Add, without, Cut. -/
import Derived.Test.YtpchbdpepgeibaaQ
import Derived.Test.YtpchbdpepgeibaaPwithoutx1
namespace Go.Proofs.Ytpchbdpepgeibaa
open Go.RowKit Go.Shelf Go.Proofs Go.Proofs.YtpchbdpepgeibaaW.PrintWords Pturn

theorem turnV_bad (l m : List S32) (both : Bool) (h : isB l = false) : turnV l m both = ([], 1) := by unfold turnV; rw [h]; simp
theorem turnV_bad2 (l m : List S32) (both : Bool) (h : m.all mayB = false) : turnV l m both = ([], 1) := by unfold turnV; rw [h]; simp
theorem turnV_full (l m : List S32) (both : Bool) (h1 : isB l = true) (h2 : m.all mayB = true) (h : 100 < (winW l m both).length) : turnV l m both = ([], 81) := by unfold turnV; rw [h1, h2, Bool.and_true, if_pos rfl, if_pos h]
theorem turnV_fits (l m : List S32) (both : Bool) (h1 : isB l = true) (h2 : m.all mayB = true) (h : (winW l m both).length ≤ 100) : turnV l m both = (winW l m both, 0) := by unfold turnV; rw [h1, h2, Bool.and_true, if_pos rfl, if_neg (by omega)]

set_option maxHeartbeats 2000000 in
theorem add_bad1 (A1 A2 : Option Addr) (c1 c2 n2 : Nat) (l : List S32) (w : World) (h1 : CW w A1 l) (hl : l.length ≤ 10000) (hi : isB l = false) :
    Calls Try.prog 6 #[.slice A1 l.length c1, .slice A2 n2 c2] w fun e w' => e = .returned (.tuple #[.slice none 0 0, .int .i64 1]) ∧ Below w.heap.size w w' := by
  have HI := Lib.hid (is_any A1 c1 l w h1 (by omega))
  rw [hi] at HI
  generalize l.length = n at *
  clear h1 hi
  go_enter Try.func6, Try.ntmps6
  go_wp2_with fail
  refine HI.out.mono ?_
  rintro e w1 ⟨rfl, hb⟩
  go_wp2_with fail
  go_ret2
  exact ⟨rfl, hb⟩
set_option maxHeartbeats 2000000 in
theorem add_bad2 (A1 A2 : Option Addr) (c1 c2 : Nat) (l m : List S32) (w : World) (h1 : CW w A1 l) (h2 : CW w A2 m) (hl : l.length ≤ 10000) (hm : m.length ≤ 10000) (hi : isB l = true) (ha : m.all mayB = false) :
    Calls Try.prog 6 #[.slice A1 l.length c1, .slice A2 m.length c2] w fun e w' => e = .returned (.tuple #[.slice none 0 0, .int .i64 1]) ∧ Below w.heap.size w w' := by
  have HI := Lib.hid (is_any A1 c1 l w h1 (by omega))
  have HA := Lib.hid (fun W (hb : Below w.heap.size w W) => all_any A2 c2 m W (h2.grow (grow_of_below hb)) (by omega))
  rw [hi] at HI
  rw [ha] at HA
  generalize l.length = n at *
  generalize m.length = n2 at *
  clear h1 h2 hi ha
  go_enter Try.func6, Try.ntmps6
  go_wp2_with fail
  refine HI.out.mono ?_
  rintro e w1 ⟨rfl, hb⟩
  go_wp2_with fail
  refine (HA.out _ hb).mono ?_
  rintro e w2 ⟨rfl, hb2⟩
  go_wp2_with fail
  go_ret2
  exact ⟨rfl, below_step hb hb2⟩
set_option maxHeartbeats 2000000 in
theorem add_good (A1 A2 : Option Addr) (c1 c2 : Nat) (l m : List S32) (w : World) (h1 : CW w A1 l) (h2 : CW w A2 m) (hl : l.length ≤ 1000) (hm : m.length ≤ 1000) (hi : isB l = true) (ha : m.all mayB = true) :
    Calls Try.prog 6 #[.slice A1 l.length c1, .slice A2 m.length c2] w fun e w' => ∃ v, e = .returned (.tuple #[v, .int .i64 (turnV l m true).2]) ∧ RW w' w.heap.size v (turnV l m true).1 ∧ Below w.heap.size w w' := by
  have HI := Lib.hid (is_any A1 c1 l w h1 (by omega))
  have HA := Lib.hid (fun W (hb : Below w.heap.size w W) => all_any A2 c2 m W (h2.grow (grow_of_below hb)) (by omega))
  have HC := Lib.hid (fun B W (hb : Below w.heap.size w W) (hB : B < W.heap.size) g1 g2 => concat_any B A1 A2 c1 c2 l m W hB g1 g2 (by omega) (by omega) (h1.grow (grow_of_below hb)) (h2.grow (grow_of_below hb)))
  have HJ := Lib.hid (fun A c W (h : CW W A (l ++ m)) => joined_any A c (l ++ m) W h (by simp; omega))
  have HW := Lib.hid (fun s (hp : List.Perm s (l ++ m)) hs => join_win hi ha hp hs)
  have HT1 := Lib.hid (turnV_full l m true hi ha)
  have HT2 := Lib.hid (turnV_fits l m true hi ha)
  have HLN := Lib.hid (show ∀ s : List S32, s.Perm (l ++ m) → (s.foldl joinS []).length ≤ 2000 from fun s hp => by have h1 := join_len s []; have h2 := hp.length_eq; simp at h1 h2; omega)
  rw [hi] at HI
  rw [ha] at HA
  generalize turnV l m true = T at *
  obtain ⟨n1, hn1⟩ : ∃ n, n = l.length := ⟨_, rfl⟩
  obtain ⟨n2, hn2⟩ : ∃ n, n = m.length := ⟨_, rfl⟩
  rw [← hn1] at HI HC hl ⊢
  rw [← hn2] at HA HC hm ⊢
  clear h1 h2 hi ha hn1 hn2
  go_enter Try.func6, Try.ntmps6
  go_wp2_with fail
  refine HI.out.mono ?_
  rintro e w1 ⟨rfl, hb⟩
  go_wp2_with fail
  refine (HA.out _ hb).mono ?_
  rintro e w2 ⟨rfl, hb2⟩
  have hb2 := below_step hb hb2
  clear hb
  go_wp2_with fail
  have hb3 := below_alloc hb2 (.cells #[.slice A1 n1 c1, .slice A2 n2 c2] 22)
  refine (HC.out w2.heap.size _ hb3 (by simp) (by simp) (by simp)).mono ?_
  rintro e w4 ⟨v4, rfl, hr4, hb4⟩
  have hb4 := below_step hb3 hb4
  obtain ⟨A4, c4, rfl, _, hc4⟩ := hr4.reads
  have HJ4 := Lib.hid (HJ.out A4 c4 w4 hc4)
  generalize (l ++ m).length = n4 at *
  have HB4 := Lib.hid hb4
  clear hb2 hb3 hr4 hc4 HJ HC hb4
  go_wp2_with fail
  refine HJ4.out.mono ?_
  rintro e w5 ⟨v5, s, rfl, hp, hs, hr5, hb5⟩
  have hln := HLN.out s hp
  rw [HW.out s hp hs] at hr5 hln
  have hb5 := below_step HB4.out hb5
  have hr5 := own_less hr5 HB4.out.size
  generalize winW l m true = R at *
  have hr5 : RW w5 w.heap.size v5 R := hr5
  obtain ⟨A5, c5, rfl, _, _⟩ := hr5.reads
  have HF := Lib.hid (And.intro hr5 hb5)
  clear hr5 hb5 hp hs HW HLN
  by_cases h : 100 < R.length
  · have ht := Lib.hid (HT1.out h)
    go_wp2_with fail
    refine (told_full A5 R.length c5 w5 h (by omega)).mono ?_
    rintro e w6 ⟨rfl, rfl⟩
    go_wp2_with fail
    go_ret2
    have e := ht.out
    subst e
    exact ⟨_, rfl, RW.nil _ _, HF.out.2⟩
  · have ht := Lib.hid (HT2.out (by omega))
    go_wp2_with fail
    refine (told_fits A5 R.length c5 w5 (by omega)).mono ?_
    rintro e w6 ⟨rfl, rfl⟩
    go_wp2_with fail
    go_ret2
    have e := ht.out
    subst e
    exact ⟨_, rfl, HF.out.1, HF.out.2⟩
theorem add_any (A1 A2 : Option Addr) (c1 c2 : Nat) (l m : List S32) (w : World) (h1 : CW w A1 l) (h2 : CW w A2 m) (hl : l.length ≤ 1000) (hm : m.length ≤ 1000) :
    Calls Try.prog 6 #[.slice A1 l.length c1, .slice A2 m.length c2] w fun e w' => ∃ v, e = .returned (.tuple #[v, .int .i64 (turnV l m true).2]) ∧ RW w' w.heap.size v (turnV l m true).1 ∧ Below w.heap.size w w' := by
  cases hi : isB l
  · rw [turnV_bad l m true hi]
    exact (add_bad1 A1 A2 c1 c2 m.length l w h1 (by omega) hi).mono fun e w' ⟨he, hb⟩ => ⟨_, he, RW.nil _ _, hb⟩
  · cases ha : m.all mayB
    · rw [turnV_bad2 l m true ha]
      exact (add_bad2 A1 A2 c1 c2 l m w h1 h2 (by omega) (by omega) hi ha).mono fun e w' ⟨he, hb⟩ => ⟨_, he, RW.nil _ _, hb⟩
    · exact add_good A1 A2 c1 c2 l m w h1 h2 hl hm hi ha

def cvW (x : Pwithout.S32) : S32 := ⟨x.f0, x.f1, x.f2⟩
theorem rw_of_rW {w : World} {base : Nat} {ok : Nat → Prop} {v : Value} {l : List Pwithout.S32} (h : Kd.R Pwithout.k32 32 w base ok v l) : RW w base v (l.map cvW) := by
  obtain ⟨_, inner, ho, hr⟩ := h
  have : inner = wcs (l.map cvW) := by
    have hlen : inner.length = l.length * 3 := hr.1
    have hr2 : ∀ j p, l[j]? = some p → (inner.drop (j * 3)).take 3 = wc (cvW p) := fun j p hp => Pwithout.k32_openM (hr.2 j p hp)
    apply List.ext_getElem?
    intro i
    by_cases hi : i < l.length * 3
    · have e : i = (i / 3) * 3 + i % 3 := by omega
      have hj : i / 3 < l.length := by omega
      have h1 := hr2 (i / 3) l[i / 3] (List.getElem?_eq_getElem hj)
      have h2 := wcs_get (l.map cvW) (i / 3) (by simpa using hj) (i % 3) (by omega)
      rw [e, h2]
      have h3 : (l.map cvW).getD (i / 3) z32 = cvW l[i / 3] := by rw [getD_eq _ z32 _ (by simpa using hj)]; simp
      rw [h3, ← h1, List.getElem?_take_of_lt (by omega), List.getElem?_drop]
    · rw [List.getElem?_eq_none (by omega), List.getElem?_eq_none (by rw [wcs_length]; simp; omega)]
  subst this
  unfold RW
  rw [List.length_map]
  exact ho
theorem without_f (a b : S32) : ∃ r, Pwithout.mute_without.f 1 a.f0 a.f1 a.f2 b.f0 b.f1 b.f2 = some r ∧ r.map cvW = wo a b := by
  obtain ⟨a0, a1, a2⟩ := a
  obtain ⟨b0, b1, b2⟩ := b
  unfold Pwithout.mute_without.f wo
  dsimp only
  by_cases h1 : a0 = b0
  · by_cases h2 : b2 ≤ a1
    · rw [if_pos h1, if_pos h2, if_pos (.inr (.inl h2)), Pwithout.mute_without.j0, if_pos rfl]
      exact ⟨_, rfl, rfl⟩
    · by_cases h3 : a2 ≤ b1
      · rw [if_pos h1, if_neg h2, if_pos (.inr (.inr h3)), Pwithout.mute_without.j0, if_pos (by simpa using h3)]
        exact ⟨_, rfl, rfl⟩
      · rw [if_pos h1, if_neg h2, if_neg (by omega), Pwithout.mute_without.j0, if_neg (by simpa using h3)]
        by_cases h4 : a1 < b1
        · by_cases h5 : b2 < a2
          · rw [if_pos h4, if_pos h4, if_pos h5, if_pos (by simp), Option.bind_some, if_pos h5, if_pos (by simp)]
            exact ⟨_, rfl, rfl⟩
          · rw [if_pos h4, if_pos h4, if_neg h5, if_pos (by simp), Option.bind_some, if_neg h5]
            exact ⟨_, rfl, rfl⟩
        · by_cases h5 : b2 < a2
          · rw [if_neg h4, if_neg h4, if_pos h5, if_pos h5, if_pos (by simp)]
            exact ⟨_, rfl, rfl⟩
          · rw [if_neg h4, if_neg h4, if_neg h5, if_neg h5]
            exact ⟨_, rfl, rfl⟩
  · rw [if_neg h1, if_pos (.inl h1), Pwithout.mute_without.j0, if_pos rfl]
    exact ⟨_, rfl, rfl⟩
theorem without_any (a b : S32) (w : World) : Calls Try.prog 26 #[.agg #[.int .i64 a.f0, .int .i64 a.f1, .int .i64 a.f2], .agg #[.int .i64 b.f0, .int .i64 b.f1, .int .i64 b.f2]] w fun e w' => ∃ v, e = .returned v ∧ RW w' w.heap.size v (wo a b) ∧ Below w.heap.size w w' := by
  obtain ⟨r, h1, h2⟩ := without_f a b
  refine (Pwithout.mute_without.calls 1 a.f0 a.f1 a.f2 b.f0 b.f1 b.f2 r w h1).mono ?_
  rintro e w' ⟨v, rfl, hr, hb⟩
  exact ⟨v, rfl, by rw [← h2]; exact rw_of_rW hr, hb⟩
end Go.Proofs.Ytpchbdpepgeibaa
