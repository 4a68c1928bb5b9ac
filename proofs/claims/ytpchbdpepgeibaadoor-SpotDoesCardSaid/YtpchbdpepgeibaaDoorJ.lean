/- Contract of spot.Beds. -/
import Derived.Test.YtpchbdpepgeibaaDoorI
namespace Go.Proofs.YtpchbdpepgeibaaDoor
open Go.RowKit Go.Proofs.YtpchbdpepgeibaaDoorW.PrintWords Go.Lib Go.Sort

theorem outs_succ (l : List S23) (k : Nat) (h : k < l.length) : outs (l.take (k + 1)) = outs (l.take k) ++ (if isS (l.getD k z23).f0 (l.getD k z23).f1 = true then [(l.getD k z23).f0] else []) := by
  have e : l.take (k + 1) = l.take k ++ [l.getD k z23] := by
    rw [List.take_succ_eq_append_getElem h]; simp [h]
  unfold outs
  rw [e, List.filter_append, List.map_append]
  congr 1
  by_cases h2 : isS (l.getD k z23).f0 (l.getD k z23).f1 = true
  · rw [if_pos h2, List.filter_cons, if_pos h2]; rfl
  · rw [if_neg h2, List.filter_cons, if_neg h2]; rfl
theorem outs_len (l : List S23) : (outs l).length ≤ l.length := by unfold outs; rw [List.length_map]; exact List.length_filter_le _ _

/-- Sorted and compacted: what is read. -/
theorem compact_q (base g cap n : Nat) (zs : List Int) (w : World) (h : w.ownsRow base 3 1 (.slice (some ⟨g, 0, none⟩) n cap) n (ints zs)) (hn : n = zs.length) (hb : n ≤ 1000000) :
    Calls Tryd.prog 33 #[.slice (some ⟨g, 0, none⟩) n cap] w fun e w' => e = .returned (.slice (some ⟨g, 0, none⟩) (compact zs).length cap) ∧ CI w' (some ⟨g, 0, none⟩) (compact zs) ∧ w.grownBy w' (some g) := by
  subst hn
  rcases h.2 with ⟨e, _⟩ | ⟨g', cap', cur, e, hg, hh, hnc, hcm, hcs, ht⟩
  · cases e
  · cases e
    refine (Tryd.slices_Compact_int g 0 cap zs w (holds_of_blockI hh (by simpa [ints] using ht)) (by omega) hnc).mono ?_
    rintro e w' ⟨rfl, q, rfl⟩
    have hle := compact_length_le zs
    have hgr : ∀ d : Array Int, w.grownBy (putRow (Value.int .i64) (Sort.ahead w q) g 0 d) (some g) := by
      intro d
      refine ⟨rfl, rfl, rfl, by simp, fun k hk hne => ?_⟩
      have : g ≠ k := fun e => hne (by rw [e])
      simp [putRow, mapBlock, Sort.ahead, Array.getElem?_modify, this]
    have hblk : ∀ d : Array Int, (putRow (Value.int .i64) (Sort.ahead w q) g 0 d).heap[g]? = some (.cells (putCells (Value.int .i64) 0 d cur) 3 (0, 0)) := by
      intro d
      simp [putRow, mapBlock, Sort.ahead, Array.getElem?_modify, hh, onCells]
    refine ⟨rfl, fun j hj => ⟨g, 0, rfl, ?_, ?_⟩, hgr _⟩
    · exact blk_lt (hblk _)
    · rw [Nat.zero_add, blk_cell (hblk _)]
      have hjc : j < cur.size := by omega
      simp [putCells, hjc, show j < zs.length by omega, List.getD, hj, List.getElem?_append_left hj]
      intro hh; omega

set_option maxRecDepth 100000 in
set_option maxHeartbeats 4000000 in
theorem beds_any (A : Option Addr) (c : Nat) (l : List S23) (w : World) (h : CW w A l) (hl : l.length ≤ 1000) :
    Calls Tryd.prog 23 #[.slice A l.length c] w fun e w' => ∃ A' c', e = .returned (.slice A' (bedsV l).length c') ∧ CI w' A' (bedsV l) ∧ Below w.heap.size w w' := by
  have HC := Lib.hid (fun W (hb : Below w.heap.size w W) k hk => (h.grow (grow_of_below hb)) k hk)
  have HL := Lib.hid (fun k => outs_len (l.take k))
  have HS := Lib.hid (outs_succ l)
  have HE := Lib.hid (show compact ((outs (l.take l.length)).mergeSort fun x y => decide (x ≤ y)) = bedsV l by rw [List.take_length]; exact beds_eq l)
  have HT := Lib.hid (fun k => (show (l.take k).length ≤ l.length by simp; omega))
  generalize bedsV l = R at *
  obtain ⟨m, hm⟩ : ∃ m, m = l.length := ⟨_, rfl⟩
  rw [← hm] at HC HS HE HT hl ⊢
  clear h hm
  go_enter Tryd.func23, Tryd.ntmps23
  go_wp2_with fail
  go_loopw [3, 8] (fun v i wr => ∃ k : Nat, k ≤ m ∧ i = .int .i64 k ∧ Hid (wr.ownsRow w.heap.size 3 1 v (outs (l.take k)).length (ints (outs (l.take k)))) ∧ Below w.heap.size w wr) (fun _ i _ => m - (intOf i).toNat)
  case atStart => exact ⟨0, Nat.zero_le _, rfl, World.ownsRow_nil _ _ _ _, Below.refl _ _⟩
  case round =>
    obtain ⟨k, hk, rfl, hown, hb⟩ := hrel
    by_cases hlt : k < m
    · obtain ⟨b, off, rfl, hbs, a0, a1⟩ := HC.out _ hb k hlt
      have HS2 := Lib.hid (HS.out k hlt)
      have HL2 := Lib.hid (show (outs (l.take k)).length ≤ 1000 by have h1 := HL.out k; have h2 := HT.out k; omega)
      generalize l.getD k z23 = z at *
      obtain ⟨z0, z1⟩ := z
      dsimp only at a0 a1 HS2
      have hk0 : (0 : Int) ≤ (k : Int) := by omega
      have hkm : (k : Int) < (m : Int) := by omega
      have HI := Lib.hid (fun W => is_any z0 z1 W)
      have HB := Lib.hid hb
      clear hb
      cases hs : isS z0 z1
      · rw [hs] at HI HS2
        clear hs
        go_wp2_with fail
        refine (HI.out _).mono ?_
        rintro e w2 ⟨rfl, hb2⟩
        have HO := Lib.hid (own_none hown.out (grow_trans (grow_alloc _ _) (grow_of_below hb2)))
        have HB2 := Lib.hid (below_step (HB.out.alloc HB.out.size _) hb2)
        clear hb2
        go_wp2_with fail
        go_roundw
        case rel => exact ⟨k + 1, by omega, by go_num, by have := HS2.out; rw [if_neg (by simp), List.append_nil] at this; rw [this]; exact HO, HB2.out⟩
        case measure => simp [intOf]; omega
      · rw [hs] at HI HS2
        clear hs
        go_wp2_with fail
        refine (HI.out _).mono ?_
        rintro e w2 ⟨rfl, hb2⟩
        obtain ⟨p0, p1⟩ := ((Two.new _ z0 z1 23 _ rfl).below hb2).cells
        have hb3 := below_step (HB.out.alloc HB.out.size (.cells #[.int .i64 z0, .int .i64 z1] 23)) hb2
        have ho := own_none (own_none hown.out (grow_trans (grow_alloc _ _) (grow_of_below hb2))) (grow_alloc w2 (.cells #[.int .i64 z0] 3))
        obtain ⟨v', w3, hrun, ho3, hg3⟩ := append_ci (w2.alloc (.cells #[.int .i64 z0] 3)) w.heap.size _ (outs (l.take k)) ho (some ⟨w2.heap.size, 0, none⟩) 1 [z0] (ci_new w2 [z0] _ rfl) (by have := HL2.out; simp; omega) (by have := hb3.size; simp; omega)
        have hb4 : Below w.heap.size w w3 := (hb3.alloc hb3.size _).grown hg3 (by have := hb3.size; simp; omega) (fun q hq => own_base ho q hq)
        have HF := Lib.hid (And.intro ho3 hb4)
        clear hb2 hb3 ho hb4 ho3 hg3
        go_wp2_with (refine wpList_append_run (d := some 18) _ _ (by rfl) (by rfl) hrun ?_)
        clear hrun p0 p1 a0 a1
        have hk1 : k + 1 ≤ m := by omega
        go_roundw
        case rel => exact ⟨k + 1, hk1, by go_num, by have := HS2.out; rw [if_pos trivial] at this; rw [this]; exact HF.out.1, HF.out.2⟩
        case measure => simp [intOf]; omega
    · obtain rfl : k = m := by omega
      have HL2 := Lib.hid (show (outs (l.take k)).length ≤ 1000 by have h1 := HL.out k; have h2 := HT.out k; omega)
      generalize outs (l.take k) = o at *
      have HB := Lib.hid hb
      clear hb HC HS HL HT
      by_cases h0 : o.length = 0
      · obtain rfl : o = [] := List.eq_nil_of_length_eq_zero h0
        obtain ⟨A1, c1, rfl, _⟩ := ci_of_own hown.out rfl
        have hR : R = [] := by rw [← HE.out]; simp [compact, compactUpTo]
        subst hR
        clear HE HL2 h0 hown
        rw [List.length_nil] at *
        go_wp2_with fail
        refine (Tryd.slices_Sort_int_none _ _ _).mono ?_
        rintro e w2 ⟨rfl, hw⟩
        subst hw
        go_wp2_with fail
        refine (Tryd.slices_Compact_int_empty _ _ _).mono ?_
        rintro e w3 ⟨rfl, hw⟩
        subst hw
        go_wp2_with fail
        go_ret
        exact ⟨_, _, rfl, fun j hj => by simp at hj, HB.out⟩
      · have hown2 := hown.out
        rcases hown2.2 with ⟨_, h1⟩ | ⟨g, cap, cur, hv, hbase, _⟩
        · omega
        subst hv
        have HG := Lib.hid hbase
        have hs := Lib.hid (sort_q w.heap.size g cap o.length o wr hown.out rfl (by have := HL2.out; omega))
        have HN := Lib.hid (show o.length = (o.mergeSort fun x y => decide (x ≤ y)).length by simp)
        generalize (o.mergeSort fun x y => decide (x ≤ y)) = s at *
        have HL3 := Lib.hid HL2.out
        generalize o.length = n at *
        clear hown hown2 hbase HL2 h0
        go_wp2_with fail
        refine hs.out.mono ?_
        rintro e w2 ⟨rfl, ho2, hg2⟩
        have hq := Lib.hid (compact_q w.heap.size g cap n s w2 ho2 HN.out (by have := HL3.out; omega))
        rw [HE.out] at hq
        have HB2 := Lib.hid (HB.out.grown hg2 HB.out.size (fun k e => by cases e; exact HG.out))
        clear ho2 hg2 hs HB
        go_wp2_with fail
        refine hq.out.mono ?_
        rintro e w3 ⟨rfl, hci, hg3⟩
        have HF := Lib.hid (And.intro hci (HB2.out.grown hg3 HB2.out.size (fun k e => by cases e; exact HG.out)))
        clear hci hg3
        go_wp2_with fail
        go_ret
        exact ⟨_, _, rfl, HF.out.1, HF.out.2⟩
end Go.Proofs.YtpchbdpepgeibaaDoor
