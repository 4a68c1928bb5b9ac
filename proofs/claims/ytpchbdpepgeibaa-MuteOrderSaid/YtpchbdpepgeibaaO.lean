/- slices.SortFunc, SortedFunc at windows, by bed and begin. -/
import Derived.Test.YtpchbdpepgeibaaN
import Derived.Shelf.SlSortCmp.NoneTotal
namespace Go.Proofs.Ytpchbdpepgeibaa
open Go.RowKit Go.Shelf Go.Sort Go.Proofs Go.Proofs.YtpchbdpepgeibaaW.PrintWords Pturn

theorem flat_wcs (l : List S32) : flatK wc 3 l.toArray = (wcs l).toArray := by
  apply Array.ext
  · rw [size_flatK]; simp [wcs_length]
  · intro i h1 h2
    have h3 : i < l.length * 3 := by rw [size_flatK] at h1; simpa using h1
    have e := get_flatK wc 3 l.toArray i (by simpa using h3)
    rw [getElem!_pos _ i h1] at e
    rw [e]
    have hj : i / 3 < l.length := by omega
    have h4 := wcs_get l (i / 3) hj (i % 3) (by omega)
    rw [show i / 3 * 3 + i % 3 = i by omega] at h4
    have h5 : l.toArray[i / 3]! = l.getD (i / 3) z32 := by
      rw [← bang_getD]; simp
    rw [h5]
    have h6 : (wcs l)[i]? = some (wcs l).toArray[i] := by simp [List.getElem?_eq_getElem (show i < (wcs l).length by rw [wcs_length]; exact h3)]
    rw [h6] at h4
    rw [List.getElem!_eq_getElem?_getD, ← h4]
    rfl
theorem holds_of_blockV {w : World} {g : Nat} {cur : Array Value} {e : TypeId} {ss : List Value} (hb : w.heap[g]? = some (.cells cur e (0, 0))) (ht : cur.toList.take ss.length = ss) : Holds id w g 0 ss.toArray := by
  intro j hj
  have hj' : j < ss.length := by simpa using hj
  refine ⟨?_, by simp [World.frozen?, hb]⟩
  have h1 : (cur.toList.take ss.length)[j]? = ss[j]? := by rw [ht]
  rw [List.getElem?_take_of_lt hj'] at h1
  simp only [World.cell?, hb, Nat.zero_add]
  simp only [Option.isSome_none, Bool.false_eq_true, if_false]
  rw [← Array.getElem?_toList, h1]
  simp [hj']
theorem heap_sortedV {w : World} {g n : Nat} {os : Array Obj} {cur : Array Value} {e : TypeId} {fr : Nat × Nat} (d : Array Value) (hb : w.heap[g]? = some (.cells cur e fr)) :
    (grow (putRow id (Sort.ahead w n) g 0 d) os).heap[g]? = some (.cells (putCells id 0 d cur) e fr) := by
  have hg : g < w.heap.size := (Array.getElem?_eq_some_iff.1 hb).1
  rw [heap_grow_old _ _ (by simpa using hg)]
  simp [putRow, mapBlock, Sort.ahead, Array.getElem?_modify, hb, onCells]
theorem grownBy_sortedV {w : World} {g n : Nat} {os : Array Obj} (d : Array Value) : w.grownBy (grow (putRow id (Sort.ahead w n) g 0 d) os) (some g) := by
  refine ⟨rfl, rfl, rfl, by simp, fun k hk hne => ?_⟩
  rw [heap_grow_old _ _ (by simpa using hk)]
  have : g ≠ k := fun e => hne (by rw [e])
  simp [putRow, mapBlock, Sort.ahead, Array.getElem?_modify, this]
theorem take_putCellsV (cur : Array Value) (ts : List Value) (h : ts.length ≤ cur.size) : (putCells id 0 ts.toArray cur).toList.take ts.length = ts := by
  apply List.ext_getElem?
  intro j
  by_cases hj : j < ts.length
  · rw [List.getElem?_take_of_lt hj, Array.getElem?_toList]
    simp [putCells, hj, show j < cur.size by omega]
  · rw [List.getElem?_take_eq_none (by omega), List.getElem?_eq_none (by omega)]
theorem ownsRow_sortedV {w : World} {base g cap n k size : Nat} {e : TypeId} {os : Array Obj} {cur : Array Value} {ts : List Value} (hl : ts.length = k * size) (hbase : base ≤ g) (hb : w.heap[g]? = some (.cells cur e (0, 0)))
    (h1 : k ≤ cap) (h2 : cap ≤ maxLen) (h3 : cur.size = cap * size) :
    (grow (putRow id (Sort.ahead w n) g 0 ts.toArray) os).ownsRow base e size (.slice (some ⟨g, 0, none⟩) k cap) k ts :=
  ⟨hl, .inr ⟨g, cap, _, rfl, hbase, heap_sortedV _ hb, h1, h2, by simp [putCells, h3], by rw [← hl]; exact take_putCellsV cur ts (by rw [hl, h3]; exact Nat.mul_le_mul_right _ h1)⟩⟩

def cfW (x y : S32) : Int := orI (cmpI x.f0 y.f0) (cmpI x.f1 y.f1)
theorem ltW (x y : S32) : ltOf cfW x y = decide (x.f0 < y.f0 ∨ (x.f0 = y.f0 ∧ x.f1 < y.f1)) := by
  unfold ltOf cfW orI cmpI
  rw [Bool.eq_iff_iff]
  simp only [decide_eq_true_eq]
  split <;> split <;> (try split) <;> omega
theorem swoW : SWO (ltOf cfW) where
  irrefl x := by rw [ltW]; simp
  trans x y z h1 h2 := by rw [ltW] at *; simp at *; omega
  ntrans x y z h1 h2 := by rw [ltW] at *; simp at *; omega

theorem sort_any (g cap : Nat) (l : List S32) (base : Nat) (w : World) (h : RW w base (.slice (some ⟨g, 0, none⟩) l.length cap) l) (hl : l.length ≤ 100000) :
    Calls Try.prog 43 #[.slice (some ⟨g, 0, none⟩) l.length cap, .func (.func 34) #[] #[]] w fun e w' => e = .returned (.tuple #[]) ∧ ∃ s : List S32, s.Perm l ∧ s.Pairwise le ∧ RW w' base (.slice (some ⟨g, 0, none⟩) l.length cap) s ∧ w.grownBy w' (some g) := by
  rcases h.2 with ⟨hv, _⟩ | ⟨g', cap', cur, hv, hbase, hb, hc1, hc2, hcs, hct⟩
  · cases hv
  · cases hv
    have hH : HoldsK wc 3 w g 0 l.toArray := by
      unfold HoldsK
      rw [flat_wcs]
      exact holds_of_blockV hb (by rw [wcs_length]; exact hct)
    have hcon := AnyQ.slices_SortFunc Try.sortW 3 Try.isAgg32 Try.sizeOf32 wc (fun _ => rfl) (fun x v hv => by simp [wc] at hv; rcases hv with rfl | rfl | rfl <;> rfl) cfW swoW 34 #[] g 0 cap l.toArray w
      (enters_of Try.func34 (by kernel_rfl) rfl) (fun m os dk _ x y => cmp_any x.f0 x.f1 x.f2 y.f0 y.f1 y.f2 _) hH (Array.getElem?_eq_some_iff.1 hb).1 (by simp; omega)
    rw [List.size_toArray] at hcon
    refine hcon.mono ?_
    rintro e w' ⟨rfl, d', n, os, hp, hs, rfl⟩
    obtain ⟨hp1, _, hp3⟩ := hp
    obtain ⟨s, rfl⟩ : ∃ s : List S32, d' = s.toArray := ⟨d'.toList, by simp⟩
    have hsl : s.length = l.length := by simpa using hp1
    have hperm : s.Perm l := by
      have e1 : (s.toArray.extract 0 l.length).toList = s := by simp [← hsl]
      have e2 : (l.toArray.extract 0 l.length).toList = l := by simp
      rw [e1, e2] at hp3
      exact hp3
    refine ⟨rfl, s, hperm, ?_, ?_, ?_⟩
    · rw [List.pairwise_iff_getElem]
      intro i j hi hj hij
      have := hs i j (Nat.zero_le _) hij (by rw [hsl] at hj; exact hj)
      rw [ltW] at this
      simp only [decide_eq_false_iff_not] at this
      have e1 : s.toArray[i]! = s[i] := by simp [hi]
      have e2 : s.toArray[j]! = s[j] := by simp [hj]
      rw [e1, e2] at this
      unfold le
      omega
    · show (sortWorldK wc 3 w g 0 n s.toArray os).ownsRow base 32 3 _ s.length (wcs s)
      unfold sortWorldK putRowK
      rw [flat_wcs, hsl]
      exact ownsRow_sortedV (by rw [wcs_length, hsl]) hbase hb hc1 hc2 hcs
    · unfold sortWorldK putRowK
      exact grownBy_sortedV _
theorem sort_none (A : Option Addr) (c : Nat) (w : World) :
    Calls Try.prog 43 #[.slice A 0 c, .func (.func 34) #[] #[]] w fun e w' => e = .returned (.tuple #[]) ∧ w' = w := by
  exact AnyF.slices_SortFunc_none Try.sortW A c _ w
set_option maxHeartbeats 1000000 in
theorem sorted_any (Bn : Nat) (A : Option Addr) (c : Nat) (l : List S32) (hl : l.length ≤ 100000) (w : World) (hBn : Bn < w.heap.size)
    (hc : w.cell? ⟨Bn, 0, none⟩ = some (.slice A l.length c)) (hC : CW w A l) (hA : 0 < l.length → ∀ b off, A = some ⟨b, off, none⟩ → b < w.heap.size) :
    Calls Try.prog 32 #[.func (.func 44) #[] #[.pointer (some ⟨Bn, 0, none⟩)], .func (.func 34) #[] #[]] w fun e w' => ∃ v s, e = .returned v ∧ s.Perm l ∧ s.Pairwise le ∧ RW w' w.heap.size v s ∧ Below w.heap.size w w' := by
  have H := Lib.hid ((callsIn_wide (n := 6)).1 (collect_in 6 (by omega) Bn A c l hl w hBn hc hC hA))
  clear hc hC hA
  have HS := Lib.hid (fun g cap W base (h : RW W base (.slice (some ⟨g, 0, none⟩) l.length cap) l) => sort_any g cap l base W h hl)
  by_cases h0 : l.length = 0
  · have : l = [] := List.eq_nil_of_length_eq_zero h0
    subst this
    clear HS
    go_enter Try.func32, Try.ntmps32
    go_wp2_with fail
    refine H.out.mono ?_
    rintro e w1 ⟨v, rfl, hrow, hb⟩
    obtain ⟨A1, c1, rfl, _, _⟩ := hrow.reads
    have HR := Lib.hid hrow
    clear hrow
    rw [List.length_nil] at *
    go_wp2_with fail
    refine (sort_none _ _ _).mono ?_
    rintro e w2 ⟨rfl, hw2⟩
    subst hw2
    go_wp2_with fail
    go_ret
    exact ⟨_, [], rfl, .refl _, List.Pairwise.nil, HR.out, hb⟩
  · obtain ⟨m, hm⟩ : ∃ m, m = l.length := ⟨_, rfl⟩
    have hm0 : 0 < m := by omega
    rw [← hm] at HS hl
    have HM := Lib.hid hm
    clear hm h0
    go_enter Try.func32, Try.ntmps32
    go_wp2_with fail
    refine H.out.mono ?_
    rintro e w1 ⟨v, rfl, hrow, hb⟩
    have hrow' : w1.ownsRow w.heap.size 32 3 v l.length (wcs l) := hrow
    obtain ⟨g, cap, rfl, hge⟩ : ∃ g cap, v = .slice (some ⟨g, 0, none⟩) m cap ∧ w.heap.size ≤ g := by
      rcases hrow'.2 with ⟨_, h0⟩ | ⟨g, cap, cur, h, hge, _⟩
      · have := HM.out; omega
      · exact ⟨g, cap, by rw [HM.out]; exact h, hge⟩
    have hs := HS.out g cap w1 w.heap.size (by rw [HM.out]; rw [HM.out] at hrow; exact hrow)
    have HB := Lib.hid hb
    have HG := Lib.hid hge
    clear hrow hrow' hb hge
    go_wp2_with fail
    refine hs.mono ?_
    rintro e w2 ⟨rfl, s, hp, hpw, hr2, hg2⟩
    have HF := Lib.hid (And.intro hp (And.intro hpw (And.intro hr2 (HB.out.grown hg2 HB.out.size (fun k e => by cases e; exact HG.out)))))
    clear hp hpw hr2 hg2
    go_wp2_with fail
    go_ret
    exact ⟨_, s, rfl, HF.out.1, HF.out.2.1, HF.out.2.2.1, HF.out.2.2.2⟩
end Go.Proofs.Ytpchbdpepgeibaa
