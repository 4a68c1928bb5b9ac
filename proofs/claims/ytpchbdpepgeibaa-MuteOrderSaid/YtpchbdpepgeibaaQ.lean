/- Contract of mute.joined. -/
import Derived.Test.YtpchbdpepgeibaaP
import Derived.BigRegion
namespace Go.Proofs.Ytpchbdpepgeibaa
open Go.RowKit Go.Shelf Go.Proofs Go.Proofs.YtpchbdpepgeibaaW.PrintWords Pturn

/-- An append of which the run's outcome is told. -/
theorem wpList_append_ex {P : Program} {ops : Array Oper} {Q : Exit → Act → World → Prop} {a : Act} {w : World} {rest : List Oper} {d : Option Tmp} {x y : Operand} {T ty : TypeId} {pos : String} {af : Array Edge} {V X : Value}
    (hx : a.eval x = V) (hy : a.eval y = X) {R : Value → World → Prop} (hrun : ∃ v w', (Builtin.append_ #[T, T] ty #[V, X]).run P w = .ok v w' ∧ R v w') (h : ∀ v w', R v w' → wpList P ops Q rest (a.put d v) w') :
    wpList P ops Q (⟨d, .call { callee := .builtin .append, args := #[x, y], argTypes := #[T, T] }, ty, pos, af, none⟩ :: rest) a w := by
  obtain ⟨v, w', h1, h2⟩ := hrun
  exact wpList_append_run V X hx hy h1 (h v w' h2)
theorem joinS_eq (o : List S32) (w : S32) : joinS o w = if 0 < o.length ∧ (o.getD (o.length - 1) z32).f0 = w.f0 ∧ w.f1 ≤ (o.getD (o.length - 1) z32).f2 then o.set (o.length - 1) ⟨(o.getD (o.length - 1) z32).f0, (o.getD (o.length - 1) z32).f1, max (o.getD (o.length - 1) z32).f2 w.f2⟩ else o ++ [w] := by
  rcases List.eq_nil_or_concat o with rfl | ⟨l, z, rfl⟩
  · simp [joinS]
  · simp only [List.concat_eq_append]
    rw [joinS_snoc]
    have e : (l ++ [z]).getD ((l ++ [z]).length - 1) z32 = z := by simp
    rw [e]
    by_cases h : z.f0 = w.f0 ∧ w.f1 ≤ z.f2
    · rw [if_pos h, if_pos ⟨by simp, h⟩]
      simp
    · rw [if_neg h, if_neg (fun hh => h hh.2)]
theorem joinS_len (o : List S32) (w : S32) : (joinS o w).length ≤ o.length + 1 := by rw [joinS_eq]; split <;> simp
theorem join_len : ∀ (l o : List S32), (l.foldl joinS o).length ≤ o.length + l.length
  | [], o => by simp
  | w :: l, o => by have h1 := join_len l (joinS o w); have h2 := joinS_len o w; simp; omega
theorem rw_store2 {W : World} {base g n cap : Nat} {l : List S32} (h : RW W base (.slice (some ⟨g, 0, none⟩) n cap) l) (hn : n = l.length) (q : Nat) (hq : q < n) (x : Int) :
    RW (W.setCell ⟨g, q * 3 + 2, none⟩ (.int .i64 x)) base (.slice (some ⟨g, 0, none⟩) n cap) (l.set q ⟨(l.getD q z32).f0, (l.getD q z32).f1, x⟩) ∧ W.grownBy (W.setCell ⟨g, q * 3 + 2, none⟩ (.int .i64 x)) (some g) := by
  subst hn
  have hs := World.ownsRow.stored h (q * 3 + 2) (.int .i64 x)
  rw [wcs_set2 l q x hq] at hs
  refine ⟨?_, hs.2⟩
  unfold RW
  rw [List.length_set]
  exact hs.1
theorem rw_store0 {W : World} {base g n cap : Nat} {l : List S32} (h : RW W base (.slice (some ⟨g, 0, none⟩) n cap) l) (hn : n = l.length) (q : Nat) (hq : q < n) (x : Int) :
    RW (W.setCell ⟨g, q * 3, none⟩ (.int .i64 x)) base (.slice (some ⟨g, 0, none⟩) n cap) (l.set q ⟨x, (l.getD q z32).f1, (l.getD q z32).f2⟩) ∧ W.grownBy (W.setCell ⟨g, q * 3, none⟩ (.int .i64 x)) (some g) := by
  subst hn
  have hs := World.ownsRow.stored h (q * 3) (.int .i64 x)
  rw [wcs_set0 l q x hq] at hs
  refine ⟨?_, hs.2⟩
  unfold RW
  rw [List.length_set]
  exact hs.1
theorem rw_form {W : World} {base : Nat} {v : Value} {l : List S32} (h : RW W base v l) (h0 : 0 < l.length) : ∃ g cap, v = .slice (some ⟨g, 0, none⟩) l.length cap ∧ base ≤ g ∧ g < W.heap.size ∧ (∀ i, W.frozen? ⟨g, i, none⟩ = false) := by
  rcases h.2 with ⟨_, h1⟩ | ⟨g, cap, cur, hv, hb, hh, _⟩
  · omega
  · exact ⟨g, cap, hv, hb, (Array.getElem?_eq_some_iff.1 hh).1, fun i => by simp [World.frozen?, hh]⟩

set_option maxHeartbeats 8000000 in
theorem joined_any (A : Option Addr) (c : Nat) (l : List S32) (w : World) (h : CW w A l) (hl : l.length ≤ 10000) :
    Calls Try.prog 22 #[.slice A l.length c] w fun e w' => ∃ (v : Value) (s : List S32), e = .returned v ∧ s.Perm l ∧ s.Pairwise le ∧ RW w' w.heap.size v (s.foldl joinS []) ∧ Below w.heap.size w w' := by
  have HV := Lib.hid ((callsIn_wide (n := 3)).1 (values_in 3 A l.length c w))
  have HS := Lib.hid (sorted_any w.heap.size A c l (by omega) (w.alloc (.cells #[.slice A l.length c] 22)) (by simp) (by simp) (h.grow (grow_alloc _ _)) (fun h0 b off e => by
    subst e
    obtain ⟨b', off', e, hb⟩ := h.has1 h0
    cases e
    simp; omega))
  have hB0 : Below w.heap.size w (w.alloc (.cells #[.slice A l.length c] 22)) := (Below.refl _ w).alloc (Nat.le_refl _) _
  obtain ⟨W0, hW0⟩ : ∃ W0, W0 = w.alloc (.cells #[.slice A l.length c] 22) := ⟨_, rfl⟩
  rw [← hW0] at HV HS hB0
  have hz0 : w.heap.size ≤ W0.heap.size := hB0.size
  have HB0 := Lib.hid hB0
  clear h hB0 hW0
  obtain ⟨m0, hm0⟩ : ∃ m0, m0 = l.length := ⟨_, rfl⟩
  rw [← hm0] at hl HV ⊢
  have HM0 := Lib.hid hm0
  clear hm0
  go_enter Try.func22, Try.ntmps22
  go_wp2_with fail
  refine HV.out.mono ?_
  rintro e w1 ⟨rfl, hw1⟩
  subst hw1
  go_wp2_with fail
  refine HS.out.mono ?_
  rintro e w2 ⟨v, s, rfl, hp, hpw, hr, hb⟩
  obtain ⟨A2, c2, rfl, _, hcs⟩ := hr.reads
  have hb2 := HB0.out.trans (hb.mono hz0)
  have HF := Lib.hid (And.intro hp (And.intro hpw hb2))
  have hsl : s.length ≤ 10000 := by have h1 := hp.length_eq; have h2 := HM0.out; omega
  have HC := Lib.hid (show ∀ W, Below w2.heap.size w2 W → ∀ k, k < s.length → _ from fun W hb k hk => (hcs.grow (grow_of_below hb)) k hk)
  have HT := Lib.hid (show ∀ k, k < s.length → (s.take (k + 1)).foldl joinS [] = joinS ((s.take k).foldl joinS []) (s.getD k z32) from fun k hk => by
    rw [List.take_succ_eq_append_getElem hk, List.foldl_append, ← getD_eq s z32 k hk]; rfl)
  have HE := Lib.hid (show (s.take s.length).foldl joinS [] = s.foldl joinS [] by rw [List.take_length])
  have HL := Lib.hid (show ∀ k, k ≤ s.length → ((s.take k).foldl joinS []).length ≤ k from fun k hk => by have := join_len (s.take k) []; rw [List.length_take] at this; simp at this; omega)
  obtain ⟨m, hm⟩ : ∃ m, m = s.length := ⟨_, rfl⟩
  rw [← hm] at HC HT HE HL hsl ⊢
  have HM := Lib.hid hm
  clear hp hpw hr hb hcs hb2 hm HV HS HB0
  go_wp2_with fail
  go_loopw [3, 12] (fun v i wr => ∃ k : Nat, k ≤ m ∧ i = .int .i64 k ∧ RW wr w2.heap.size v ((s.take k).foldl joinS []) ∧ Below w2.heap.size w2 wr) (fun _ i _ => m - (intOf i).toNat)
  case atStart => exact ⟨0, by omega, rfl, RW.nil _ _, Below.refl _ _⟩
  case round =>
    obtain ⟨k, hk, rfl, hr, hb⟩ := hrel
    by_cases hlt : k < m
    · obtain ⟨b, off, rfl, hbs, a0, a1, a2⟩ := HC.out wr hb k hlt
      have HTk := Lib.hid (HT.out k hlt)
      have hol := HL.out k hk
      generalize (s.take k).foldl joinS [] = o at *
      generalize s.getD k z32 = z at *
      obtain ⟨z0, z1, z2⟩ := z
      dsimp only at a0 a1 a2
      have hk0 : (0 : Int) ≤ (k : Int) := by omega
      have hkm : (k : Int) < (m : Int) := by omega
      have HB := Lib.hid hb
      clear HC HT HE HL HF
      obtain ⟨A3, c3, rfl, _, hco⟩ := hr.reads
      have hrB : RW (wr.alloc (.cells #[.int .i64 z0, .int .i64 z1, .int .i64 z2] 32)) w2.heap.size (.slice A3 o.length c3) o := hr.grow (grow_alloc _ _)
      have HAP := Lib.hid (show ∀ j, ∃ v' w3, (Builtin.append_ #[22, 22] 22 #[.slice A3 o.length c3, .slice (some ⟨wr.heap.size + 1, 0, none⟩) 1 1]).run Try.prog (((wr.alloc (.cells #[.int .i64 z0, .int .i64 z1, .int .i64 z2] 32)).drewN j).alloc (.cells #[.int .i64 z0, .int .i64 z1, .int .i64 z2] 32)) = .ok v' w3 ∧ RW w3 w2.heap.size v' (o ++ [⟨z0, z1, z2⟩]) ∧ Below w2.heap.size w2 w3 from fun j => by
        have h1 : RW (((wr.alloc (.cells #[.int .i64 z0, .int .i64 z1, .int .i64 z2] 32)).drewN j).alloc (.cells #[.int .i64 z0, .int .i64 z1, .int .i64 z2] 32)) w2.heap.size (.slice A3 o.length c3) o := (hrB.grow (grow_drewN _ _)).grow (grow_alloc _ _)
        have h2 : Below w2.heap.size w2 (((wr.alloc (.cells #[.int .i64 z0, .int .i64 z1, .int .i64 z2] 32)).drewN j).alloc (.cells #[.int .i64 z0, .int .i64 z1, .int .i64 z2] 32)) := below_alloc (pw_below_drewN (below_alloc hb _) _) _
        have h3 := cw_new ((wr.alloc (.cells #[.int .i64 z0, .int .i64 z1, .int .i64 z2] 32)).drewN j) ⟨z0, z1, z2⟩
        have e : ((wr.alloc (.cells #[.int .i64 z0, .int .i64 z1, .int .i64 z2] 32)).drewN j).heap.size = wr.heap.size + 1 := by simp
        rw [e] at h3
        obtain ⟨v', w3, h4, h5, h6⟩ := append_cw _ w2.heap.size _ o h1 (some ⟨wr.heap.size + 1, 0, none⟩) 1 [⟨z0, z1, z2⟩] h3 (by simp; omega) h2.size
        exact ⟨v', w3, h4, h5, h2.grown h6 h2.size (fun q hq => own_base h1 q hq)⟩)
      by_cases ho : o.length = 0
      · have : o = [] := List.eq_nil_of_length_eq_zero ho
        subst this
        have HJ := Lib.hid (show joinS [] ⟨z0, z1, z2⟩ = [⟨z0, z1, z2⟩] from rfl)
        rw [List.length_nil] at *
        clear hr hrB hco hol ho
        go_wp2_with fail
        go_quiet (fail)
        go_wp2_with (refine wpList_append_ex (d := some 59) (by rfl) (by rfl) (HAP.out _) ?_)
        rintro v' w3 ⟨hr3, hb3⟩
        have HF2 := Lib.hid (And.intro hr3 hb3)
        clear hr3 hb3
        go_wp2_with fail
        go_roundw
        case rel => exact ⟨k + 1, by omega, by go_num, by rw [HTk.out, HJ.out]; exact HF2.out.1, HF2.out.2⟩
        case measure => simp [intOf]; omega
      · obtain ⟨g, cap, hv, hgb, hgl, hfr⟩ := rw_form hr (by omega)
        injection hv with hv1 hv2 hv3
        subst hv1
        subst hv3
        obtain ⟨q, hq⟩ : ∃ q, q = o.length - 1 := ⟨_, rfl⟩
        obtain ⟨g', off', eA, _, d0, d1, d2⟩ := hco q (by omega)
        cases eA
        have HJ := Lib.hid (joinS_eq o ⟨z0, z1, z2⟩)
        rw [← hq] at HJ
        have HST := Lib.hid (fun W (h : RW W w2.heap.size (.slice (some ⟨g, 0, none⟩) o.length c3) o) x => rw_store2 h rfl q (by omega) x)
        obtain ⟨n, hn⟩ : ∃ n, n = o.length := ⟨_, rfl⟩
        have hqn : q + 1 = n := by omega
        rw [← hn] at HAP HJ HST hr hrB hol ⊢
        have HN := Lib.hid hn
        clear hn hq ho
        generalize o.getD q z32 = y at *
        obtain ⟨y0, y1, y2⟩ := y
        dsimp only at d0 d1 d2
        rw [Nat.zero_add] at d0 d2
        have hn0 : decide (0 < (n : Int)) = true := by simp; omega
        have hn1 : 0 < n := by omega
        have e1 : IntKind.i64.wrap ((n : Int) - 1) = (q : Int) := by rw [IntKind.wrap_i64]; omega
        have hq0 : (0 : Int) ≤ (q : Int) := by omega
        have hq1 : (q : Int) < (n : Int) := by omega
        cases c0 : (y0 == z0)
        · have hne : y0 ≠ z0 := by simpa using c0
          have HJ2 := Lib.hid (show joinS o ⟨z0, z1, z2⟩ = o ++ [⟨z0, z1, z2⟩] by rw [HJ.out, if_neg (fun hh => hne hh.2.1)])
          clear HJ hne hr hrB hco hqn HST
          go_wp2_with fail
          go_quiet (fail)
          go_wp2_with (refine wpList_append_ex (d := some 59) (by rfl) (by rfl) (HAP.out _) ?_)
          rintro v' w3 ⟨hr3, hb3⟩
          have HF2 := Lib.hid (And.intro hr3 hb3)
          clear hr3 hb3
          go_wp2_with fail
          go_roundw
          case rel => exact ⟨k + 1, by omega, by go_num, by rw [HTk.out, HJ2.out]; exact HF2.out.1, HF2.out.2⟩
          case measure => simp [intOf]; omega
        · have heq : y0 = z0 := by simpa using c0
          by_cases c1 : z1 ≤ y2
          · have HJ2 := Lib.hid (show joinS o ⟨z0, z1, z2⟩ = o.set q ⟨y0, y1, max y2 z2⟩ by rw [HJ.out, if_pos ⟨by have := HN.out; omega, heq, c1⟩])
            have hfq := fun i => hfr i
            have HR := Lib.hid hr
            clear HJ heq hco hqn HAP hr hrB
            go_wp2_with fail
            go_quiet (fail)
            go_wp2_with fail
            go_region
            all_goals
              go_wp2_with fail
              go_roundw
              case rel =>
                refine ⟨k + 1, by omega, by go_num, ?_, ?_⟩
                · rw [HTk.out, HJ2.out]
                  exact (HST.out _ ((HR.out.grow (grow_alloc _ _)).grow (grow_drewN _ _)) _).1
                · exact ((below_alloc hb _).trans (pw_below_drewN (Below.refl _ _) _)).setCell hgb _
              case measure => simp [intOf]; omega
          · have c1' : decide (z1 ≤ y2) = false := by simp; omega
            have HJ2 := Lib.hid (show joinS o ⟨z0, z1, z2⟩ = o ++ [⟨z0, z1, z2⟩] by rw [HJ.out, if_neg (fun hh => c1 hh.2.2)])
            clear HJ heq hr hrB hco hqn HST c1
            go_wp2_with fail
            go_quiet (fail)
            go_wp2_with (refine wpList_append_ex (d := some 59) (by rfl) (by rfl) (HAP.out _) ?_)
            rintro v' w3 ⟨hr3, hb3⟩
            have HF2 := Lib.hid (And.intro hr3 hb3)
            clear hr3 hb3
            go_wp2_with fail
            go_roundw
            case rel => exact ⟨k + 1, by omega, by go_num, by rw [HTk.out, HJ2.out]; exact HF2.out.1, HF2.out.2⟩
            case measure => simp [intOf]; omega
    · have e : k = m := by omega
      subst e
      rw [HE.out] at hr
      have HR := Lib.hid (And.intro hr hb)
      clear hr hb HC HT HE HL
      go_wp2_with fail
      go_ret
      have hsz : w.heap.size ≤ w2.heap.size := HF.out.2.2.size
      exact ⟨_, s, rfl, HF.out.1, HF.out.2.1, own_less HR.out.1 hsz, HF.out.2.2.trans (HR.out.2.mono hsz)⟩
end Go.Proofs.Ytpchbdpepgeibaa
