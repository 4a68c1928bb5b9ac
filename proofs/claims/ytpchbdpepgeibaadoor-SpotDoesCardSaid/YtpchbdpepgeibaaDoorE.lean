/- What the prints of spots come to. -/
import Derived.Laws.Strings
import Derived.Test.YtpchbdpepgeibaaDoorV
import Derived.Test.YtpchbdpepgeibaaDoorRParse1
import Derived.Test.YtpchbdpepgeibaaDoorPBedsx1
import Derived.Test.YtpchbdpepgeibaaDoorRSame2
import Derived.Test.YtpchbdpepgeibaaDoorGAt1
import Derived.Test.YtpchbdpepgeibaaDoorGIs1
import Derived.Test.YtpchbdpepgeibaaDoorGLess1
import Derived.Test.YtpchbdpepgeibaaDoorGNumber1
import Derived.Test.YtpchbdpepgeibaaDoorRAt1
import Derived.Test.YtpchbdpepgeibaaDoorRLess1
import Derived.Test.YtpchbdpepgeibaaDoorRNumber1
namespace Go.Proofs.YtpchbdpepgeibaaDoor
open Go.RowKit Go.Proofs.YtpchbdpepgeibaaDoorW.PrintWords Go.Lib
abbrev S23 := PBeds.S23
abbrev z23 := PBeds.z23

theorem wr_in (n : Int) (h : -9000000000000000000 ≤ n ∧ n ≤ 9000000000000000000) : wrap64 n = n := by unfold wrap64; omega
theorem wr_s (i : Nat) (h : i ≤ 1000000000) : wrap64 ((i : Int) + 1) = ((i + 1 : Nat) : Int) := by rw [wr_in _ (by omega)]; omega
theorem toL_inj {a b : ByteArray} : a.toList = b.toList ↔ a = b := by
  rw [ByteArray.toList_eq, ByteArray.toList_eq]
  exact ⟨ba_ext, fun h => by rw [h]⟩

theorem rpis (b c : Int) : RParse.watchmanref04_Is.f b c = some (isS b c) := by
  by_cases h1 : 1 ≤ b <;> by_cases h2 : b ≤ 99 <;> by_cases h3 : 0 ≤ c <;> simp [RParse.watchmanref04_Is.f, isS, h1, h2, h3]
theorem rbis (b c : Int) : PBeds.watchmanref04_Is.f b c = some (isS b c) := by
  by_cases h1 : 1 ≤ b <;> by_cases h2 : b ≤ 99 <;> by_cases h3 : 0 ≤ c <;> simp [PBeds.watchmanref04_Is.f, isS, h1, h2, h3]
theorem rnis (b c : Int) : RNumber.watchmanref04_Is.f b c = some (isS b c) := by
  by_cases h1 : 1 ≤ b <;> by_cases h2 : b ≤ 99 <;> by_cases h3 : 0 ≤ c <;> simp [RNumber.watchmanref04_Is.f, isS, h1, h2, h3]
theorem gmay (b c : Int) : GNumber.spot_place_may.f b c = some (isS b c) := by
  by_cases h1 : 1 ≤ b <;> by_cases h2 : b ≤ 99 <;> by_cases h3 : 0 ≤ c <;> simp [GNumber.spot_place_may.f, isS, h1, h2, h3] <;> omega
theorem gimay (b c : Int) : GIs.spot_place_may.f b c = some (isS b c) := by
  by_cases h1 : 1 ≤ b <;> by_cases h2 : b ≤ 99 <;> by_cases h3 : 0 ≤ c <;> simp [GIs.spot_place_may.f, isS, h1, h2, h3] <;> omega
theorem gis (b c : Int) : GIs.spot_Is.f b c = some (isS b c) := by
  unfold GIs.spot_Is.f; rw [gimay]; rfl
theorem gnum (b c : Int) : GNumber.spot_Number.f b c = some (numV b c) := by
  unfold GNumber.spot_Number.f numV; rw [gmay, Option.bind_some]
  by_cases h : isS b c = true
  · have h2 := (isS_iff b c).1 h
    rw [if_pos h, if_pos h]
    unfold GNumber.spot_place_number.f
    rw [Option.bind_some, wr_in (b - 1) (by omega), wr_in (8 * (b - 1)) (by omega), wr_in _ (by omega)]
  · rw [if_neg h, if_neg h]
theorem rnum (b c : Int) : RNumber.watchmanref04_Number.f b c = some (numV b c) := by
  unfold RNumber.watchmanref04_Number.f numV; rw [rnis, Option.bind_some]
  by_cases h : isS b c = true
  · have h2 := (isS_iff b c).1 h
    rw [if_pos h, if_pos h, wr_in (b - 1) (by omega), wr_in (8 * (b - 1)) (by omega), wr_in _ (by omega)]
  · rw [if_neg h, if_neg h]
theorem gat (n : Int) : GAt.spot_At.f n = some (atV n) := by
  unfold GAt.spot_At.f atV
  by_cases h1 : n < 0
  · rw [if_pos h1, if_neg (by omega)]
  · by_cases h2 : n ≥ 792
    · rw [if_neg h1, if_pos h2, if_neg (by omega)]
    · rw [if_neg h1, if_neg h2, if_pos (by omega), Int.tdiv_eq_ediv_of_nonneg (by omega), Int.tmod_eq_emod_of_nonneg (by omega), wr_in (n / 8) (by omega), wr_in _ (by omega)]
theorem rat (n : Int) : RAt.watchmanref04_At.f n = some (atV n) := by
  unfold RAt.watchmanref04_At.f atV
  by_cases h1 : n < 0
  · rw [if_pos h1, if_neg (by omega)]
  · by_cases h2 : n > 791
    · rw [if_neg h1, if_pos h2, if_neg (by omega)]
    · rw [if_neg h1, if_neg h2, if_pos (by omega), Int.tdiv_eq_ediv_of_nonneg (by omega), Int.tmod_eq_emod_of_nonneg (by omega), wr_in (n / 8) (by omega), wr_in _ (by omega)]
theorem gless (a b x y : Int) : GLess.spot_Less.f a b x y = some (lessS a b x y) := by
  by_cases h1 : a < x <;> by_cases h2 : a = x <;> simp [GLess.spot_Less.f, lessS, h1, h2]
theorem rless (a b x y : Int) : RLess.watchmanref04_Less.f a b x y = some (lessS a b x y) := by
  by_cases h1 : a < x <;> by_cases h2 : a = x <;> simp [RLess.watchmanref04_Less.f, lessS, h1, h2]

/-! ### print and parse -/
theorem print_all : ∀ b : Fin 100, ∀ c : Fin 8, (b.val = 0 ∨ RParse.watchmanref04_Print.f 2 (b.val : Int) (c.val : Int) = some (tx b.val c.val, 0)) := by decide +kernel
theorem rprint (b c : Int) (k : Nat) (hk : 2 ≤ k) : RParse.watchmanref04_Print.f k b c = some (prV b c) := by
  unfold prV
  by_cases h : isS b c = true
  · rw [if_pos h]
    have h2 := (isS_iff b c).1 h
    obtain ⟨x, rfl⟩ : ∃ x : Nat, b = x := ⟨b.toNat, by omega⟩
    obtain ⟨y, rfl⟩ : ∃ y : Nat, c = y := ⟨c.toNat, by omega⟩
    rcases print_all ⟨x, by omega⟩ ⟨y, by omega⟩ with h3 | h3
    · exfalso; simp at h3; omega
    · exact at_rounds (RParse.watchmanref04_Print.mono _ _) hk h3
  · rw [if_neg h]
    unfold RParse.watchmanref04_Print.f
    rw [rpis, Option.bind_some, if_neg h]
theorem parse_l (t : ByteArray) : ∀ n : Nat,
    (∀ b : Nat, 1 ≤ b → b ≤ 100 → (100 - b) * 10 + 9 < n → (∀ x y : Int, isS x y = true → tx x y = t → (b : Int) ≤ x) → Ev (fun k => RParse.watchmanref04_Parse.l0 k t (b : Int)) (pV t)) ∧
    (∀ b c : Nat, 1 ≤ b → b ≤ 99 → c ≤ 8 → (100 - b) * 10 + (8 - c) < n → (∀ x y : Int, isS x y = true → tx x y = t → (b : Int) < x ∨ ((b : Int) = x ∧ (c : Int) ≤ y)) → Ev (fun k => RParse.watchmanref04_Parse.l1 k t (b : Int) (c : Int)) (pV t))
  | 0 => ⟨fun _ _ _ h => by omega, fun _ _ _ _ _ h => by omega⟩
  | n + 1 => by
    obtain ⟨ih0, ih1⟩ := parse_l t n
    refine ⟨fun b h1 h2 hn hx => ?_, fun b c h1 h2 h3 hn hx => ?_⟩
    · by_cases hb : b ≤ 99
      · refine Ev.step (f := fun k => RParse.watchmanref04_Parse.l1 k t (b : Int) ((0 : Nat) : Int)) (fun k => ?_) (ih1 b 0 h1 hb (by omega) (by omega) fun x y h h' => ?_)
        · rw [RParse.watchmanref04_Parse.l0, if_pos (by omega)]; rfl
        · have := hx x y h h'
          have := (isS_iff x y).1 h
          omega
      · refine Ev.step (f := fun _ => some (pV t)) (fun k => ?_) (Ev.now _)
        rw [RParse.watchmanref04_Parse.l0, if_neg (by omega)]
        rcases pV_cases t with ⟨x, y, h, h', _⟩ | ⟨_, h⟩
        · have := hx x y h h'
          have := (isS_iff x y).1 h
          omega
        · rw [h]
    · by_cases hc : c ≤ 7
      · have hs : isS (b : Int) (c : Int) = true := (isS_iff _ _).2 (by omega)
        have hp : ∀ k, 2 ≤ k → RParse.watchmanref04_Print.f k (b : Int) (c : Int) = some (tx b c, 0) := fun k hk => by
          rw [rprint _ _ k hk]; unfold prV; rw [if_pos hs]
        by_cases he : tx (b : Int) (c : Int) = t
        · refine ⟨3, fun k hk => ?_⟩
          obtain ⟨m, rfl⟩ : ∃ m, k = m + 1 := ⟨k - 1, by omega⟩
          dsimp only
          rw [RParse.watchmanref04_Parse.l1, if_pos (by omega), hp m (by omega), Option.bind_some, if_pos (toL_inj.2 he), ← he, pV_tx _ _ hs]
        · obtain ⟨K, hK⟩ := ih1 b (c + 1) h1 h2 (by omega) (by omega) (fun x y h h' => by
            have := hx x y h h'
            by_cases e : (b : Int) = x ∧ (c : Int) = y
            · rw [← e.1, ← e.2] at h'; exact absurd h' he
            · omega)
          refine ⟨K + 3, fun k hk => ?_⟩
          obtain ⟨m, rfl⟩ : ∃ m, k = m + 1 := ⟨k - 1, by omega⟩
          dsimp only
          rw [RParse.watchmanref04_Parse.l1, if_pos (by omega), hp m (by omega), Option.bind_some, if_neg (fun h => he (toL_inj.1 h)), wr_s c (by omega)]
          exact hK m (by omega)
      · refine Ev.step (f := fun k => RParse.watchmanref04_Parse.l0 k t ((b + 1 : Nat) : Int)) (fun k => ?_) (ih0 (b + 1) (by omega) (by omega) (by omega) fun x y h h' => ?_)
        · rw [RParse.watchmanref04_Parse.l1, if_neg (by omega), wr_s b (by omega)]
        · have := hx x y h h'
          have := (isS_iff x y).1 h
          omega
theorem rparse (t : ByteArray) : Ev (fun k => RParse.watchmanref04_Parse.f k t) (pV t) := by
  by_cases h : (t.size : Int) > 4
  · refine Ev.congr (f := fun _ => some (pV t)) (fun k => ?_) (Ev.now _)
    unfold RParse.watchmanref04_Parse.f
    rw [if_pos h]
    rcases pV_cases t with ⟨x, y, h1, h', _⟩ | ⟨_, h1⟩
    · have := tx_size x y h1
      rw [h'] at this
      omega
    · rw [h1]
  · refine Ev.congr (f := fun k => RParse.watchmanref04_Parse.l0 k t ((1 : Nat) : Int)) (fun k => ?_) ((parse_l t 1000).1 1 (by omega) (by omega) (by omega) fun x y h1 _ => ?_)
    · unfold RParse.watchmanref04_Parse.f; rw [if_neg h]; rfl
    · have := (isS_iff x y).1 h1
      omega

/-! ### beds -/
def hasBed (l : List S23) (b : Int) : Bool := l.any fun s => isS s.f0 s.f1 && s.f0 == b
def bedsTo (l : List S23) (n : Nat) : List Int := ((List.range n).map fun i => ((i + 1 : Nat) : Int)).filter (hasBed l)
def bedsV (l : List S23) : List Int := bedsTo l 99
def outs (l : List S23) : List Int := (l.filter fun s => isS s.f0 s.f1).map (·.f0)
theorem bedsTo_succ (l : List S23) (n : Nat) : bedsTo l (n + 1) = bedsTo l n ++ (if hasBed l ((n + 1 : Nat) : Int) = true then [((n + 1 : Nat) : Int)] else []) := by
  unfold bedsTo
  rw [List.range_succ, List.map_append, List.filter_append]
  congr 1
  by_cases h : hasBed l ((n + 1 : Nat) : Int) = true
  · rw [if_pos h]
    show List.filter _ [((n + 1 : Nat) : Int)] = _
    rw [List.filter_cons, if_pos h]
    rfl
  · rw [if_neg h]
    show List.filter _ [((n + 1 : Nat) : Int)] = _
    rw [List.filter_cons, if_neg h]
    rfl
theorem bedsTo_len (l : List S23) (n : Nat) : (bedsTo l n).length ≤ n := by
  unfold bedsTo
  refine Nat.le_trans (List.length_filter_le _ _) ?_
  simp
theorem hasBed_iff (l : List S23) (b : Int) : hasBed l b = true ↔ ∃ s ∈ l, isS s.f0 s.f1 = true ∧ s.f0 = b := by
  simp [hasBed]
theorem mem_beds (l : List S23) (x : Int) : x ∈ bedsV l ↔ ∃ s ∈ l, isS s.f0 s.f1 = true ∧ s.f0 = x := by
  unfold bedsV bedsTo
  rw [List.mem_filter, hasBed_iff]
  constructor
  · rintro ⟨_, h⟩; exact h
  · intro h
    refine ⟨?_, h⟩
    obtain ⟨s, _, hs, rfl⟩ := h
    have := (isS_iff _ _).1 hs
    rw [List.mem_map]
    exact ⟨s.f0.toNat - 1, List.mem_range.2 (by omega), by omega⟩
theorem beds_rise (l : List S23) : (bedsV l).Pairwise (· < ·) := by
  unfold bedsV bedsTo
  refine List.Pairwise.filter _ ?_
  rw [List.pairwise_map]
  exact List.pairwise_lt_range.imp (fun h => by omega)
theorem beds_eq (l : List S23) : compact ((outs l).mergeSort fun x y => decide (x ≤ y)) = bedsV l := by
  obtain ⟨h1, h2⟩ := compact_sorted _ (sort_rises (outs l))
  refine rise_ext h1 (beds_rise l) fun x => ?_
  rw [h2, List.mem_mergeSort, mem_beds]
  unfold outs
  rw [List.mem_map]
  constructor
  · rintro ⟨s, hs, rfl⟩
    rw [List.mem_filter] at hs
    exact ⟨s, hs.1, hs.2, rfl⟩
  · rintro ⟨s, h, h', rfl⟩
    exact ⟨s, List.mem_filter.2 ⟨h, h'⟩, rfl⟩
theorem rd_get (l : List S23) (i : Nat) : PBeds.rd_T23 l (i : Int) = l.getD i z23 := rfl
theorem any_step (l : List S23) (p : S23 → Bool) (i : Nat) (h : i < l.length) : (l.take (i + 1)).any p = ((l.take i).any p || p (l.getD i z23)) := by
  rw [List.take_succ_eq_append_getElem h, List.any_append]
  simp [h]
theorem beds_l1 (l : List S23) (hl : l.length ≤ 100000) (out : List Int) (b : Nat) (hb : b ≤ 99) (ho : out.length ≤ 1000) (R : List Int)
    (hR : Ev (fun k => PBeds.watchmanref04_Beds.l0 k l (out ++ (if hasBed l (b : Int) = true then [(b : Int)] else [])) ((b + 1 : Nat) : Int)) R) :
    ∀ (d i : Nat), i + d = l.length → Ev (fun k => PBeds.watchmanref04_Beds.l1 k l out (b : Int) ((l.take i).any fun s => isS s.f0 s.f1 && s.f0 == (b : Int)) (i : Int)) R
  | 0, i, hd => by
    have hi : l.take i = l := List.take_of_length_le (by omega)
    rw [hi]
    refine Ev.step (fun k => ?_) hR
    rw [PBeds.watchmanref04_Beds.l1, if_neg (by omega)]
    change (if hasBed l (b : Int) = true then _ else _) = _
    by_cases h : hasBed l (b : Int) = true
    · rw [if_pos h, if_pos (by omega), if_pos h, wr_s b (by omega)]
    · rw [if_neg h, if_neg h, wr_s b (by omega), List.append_nil]
  | d + 1, i, hd => by
    have hi : i < l.length := by omega
    have ih := beds_l1 l hl out b hb ho R hR d (i + 1) (by omega)
    rw [any_step l _ i hi] at ih
    refine Ev.step (fun k => ?_) ih
    rw [PBeds.watchmanref04_Beds.l1, if_pos (by omega), wr_s i (by omega)]
    cases h1 : (l.take i).any fun s => isS s.f0 s.f1 && s.f0 == (b : Int)
    · rw [if_neg (show ¬ (false = true) by decide), if_pos (by omega), rd_get, rbis, Option.bind_some]
      cases h2 : isS (l.getD i z23).f0 (l.getD i z23).f1
      · rw [if_neg (show ¬ (false = true) by decide)]; rfl
      · rw [if_pos rfl]; rfl
    · rw [if_pos rfl]; rfl
theorem beds_l0 (l : List S23) (hl : l.length ≤ 100000) : ∀ (d n : Nat), n + d = 99 → Ev (fun k => PBeds.watchmanref04_Beds.l0 k l (bedsTo l n) ((n + 1 : Nat) : Int)) (bedsV l)
  | 0, n, hd => by
    obtain rfl : n = 99 := by omega
    refine Ev.step (f := fun _ => some (bedsV l)) (fun k => ?_) (Ev.now _)
    rw [PBeds.watchmanref04_Beds.l0, if_neg (by omega)]
    rfl
  | d + 1, n, hd => by
    have ih := beds_l0 l hl d (n + 1) (by omega)
    rw [bedsTo_succ] at ih
    have h := beds_l1 l hl (bedsTo l n) (n + 1) (by omega) (by have := bedsTo_len l n; omega) _ ih l.length 0 (by omega)
    refine Ev.step (fun k => ?_) h
    rw [PBeds.watchmanref04_Beds.l0, if_pos (by omega)]
    rfl
theorem rbeds (l : List S23) (hl : l.length ≤ 100000) : Ev (fun k => PBeds.watchmanref04_Beds.f k l) (bedsV l) :=
  Ev.congr (fun k => rfl) (beds_l0 l hl 99 0 rfl)
theorem rsame_l0 (l : List S23) (hl : l.length ≤ 1000000) : ∀ (d i : Nat), i + d = l.length → Ev (fun k => RSame.watchmanref04_Same.l0 k l l (i : Int)) true
  | 0, i, hd => by
    refine ⟨1, fun k hk => ?_⟩
    obtain ⟨m, rfl⟩ : ∃ m, k = m + 1 := ⟨k - 1, by omega⟩
    dsimp only
    rw [RSame.watchmanref04_Same.l0, if_neg (by omega)]
  | d + 1, i, hd => by
    refine Ev.step (fun k => ?_) (rsame_l0 l hl d (i + 1) (by omega))
    rw [RSame.watchmanref04_Same.l0, if_pos (by omega), if_pos (by omega), if_pos (by omega), if_neg (by simp), wr_s i (by omega)]
end Go.Proofs.YtpchbdpepgeibaaDoor
