/- Contracts of spot's functions and the document's. -/
import Derived.BigGuardPart
import Derived.BigCall
import Derived.Deep.RegionHeld3
import Derived.Deep.QuietTactic
import Derived.BigQuiet
import Derived.Test.YtpchbdpepgeibaaDoorW
import Derived.Test.YtpchbdpepgeibaaDoorK2
namespace Go.Proofs.YtpchbdpepgeibaaDoor
open Go.RowKit Go.Proofs.YtpchbdpepgeibaaDoorW.PrintWords Go.Lib

/-- What the library's variables hold, as far as it matters. -/
structure GW (w : World) : Prop where
  c0 : ∃ m, w.cell? ⟨0, 0, none⟩ = some (.int .i64 m)
  c1 : ∃ ev, w.cell? ⟨1, 0, none⟩ = some ev ∧ (ev = .nilIface ∨ ∃ te pe, ev = .iface te pe)
  c2 : ∃ ev, w.cell? ⟨2, 0, none⟩ = some ev ∧ (ev = .nilIface ∨ ∃ te pe, ev = .iface te pe)
theorem GW.grow {w w' : World} (h : GW w) (g : w.grownBy w' none) : GW w' := by
  obtain ⟨⟨m, h0⟩, ⟨e1, h1, p1⟩, ⟨e2, h2, p2⟩⟩ := h
  exact ⟨⟨m, by rw [grow_cell g (block_lt_of_cell h0)]; exact h0⟩, ⟨e1, by rw [grow_cell g (block_lt_of_cell h1)]; exact h1, p1⟩, ⟨e2, by rw [grow_cell g (block_lt_of_cell h2)]; exact h2, p2⟩⟩
theorem GW.below {w w' : World} (h : GW w) (b : Below w.heap.size w w') : GW w' := h.grow (grow_of_below b)

theorem is_any (b c : Int) (w : World) : Calls Tryd.prog 18 #[.agg #[.int .i64 b, .int .i64 c]] w fun e w' => e = .returned (.bool (isS b c)) ∧ Below w.heap.size w w' := GIs.spot_Is.calls b c _ w (gis b c)
theorem may_any (b c : Int) (w : World) : Calls Tryd.prog 26 #[.agg #[.int .i64 b, .int .i64 c]] w fun e w' => e = .returned (.bool (isS b c)) ∧ Below w.heap.size w w' := GNumber.spot_place_may.calls b c _ w (gmay b c)
theorem less_any (a b x y : Int) (w : World) : Calls Tryd.prog 20 #[.agg #[.int .i64 a, .int .i64 b], .agg #[.int .i64 x, .int .i64 y]] w fun e w' => e = .returned (.bool (lessS a b x y)) ∧ Below w.heap.size w w' := GLess.spot_Less.calls a b x y _ w (gless a b x y)
theorem num_any (b c : Int) (w : World) : Calls Tryd.prog 9 #[.agg #[.int .i64 b, .int .i64 c]] w fun e w' => e = .returned (.tuple #[.int .i64 (numV b c).1, .int .i64 (numV b c).2]) ∧ Below w.heap.size w w' := GNumber.spot_Number.calls b c _ _ w (gnum b c)
theorem at_any (n : Int) (w : World) : Calls Tryd.prog 11 #[.int .i64 n] w fun e w' => e = .returned (.tuple #[.agg #[.int .i64 (atV n).1, .int .i64 (atV n).2.1], .int .i64 (atV n).2.2]) ∧ Below w.heap.size w w' := GAt.spot_At.calls n _ _ _ w (gat n)
theorem ris_any (b c : Int) (w : World) : Calls Tryd.prog 19 #[.agg #[.int .i64 b, .int .i64 c]] w fun e w' => e = .returned (.bool (isS b c)) ∧ Below w.heap.size w w' := RParse.watchmanref04_Is.calls b c _ w (rpis b c)
theorem rless_any (a b x y : Int) (w : World) : Calls Tryd.prog 21 #[.agg #[.int .i64 a, .int .i64 b], .agg #[.int .i64 x, .int .i64 y]] w fun e w' => e = .returned (.bool (lessS a b x y)) ∧ Below w.heap.size w w' := RLess.watchmanref04_Less.calls a b x y _ w (rless a b x y)
theorem rnum_any (b c : Int) (w : World) : Calls Tryd.prog 10 #[.agg #[.int .i64 b, .int .i64 c]] w fun e w' => e = .returned (.tuple #[.int .i64 (numV b c).1, .int .i64 (numV b c).2]) ∧ Below w.heap.size w w' := RNumber.watchmanref04_Number.calls b c _ _ w (rnum b c)
theorem rat_any (n : Int) (w : World) : Calls Tryd.prog 12 #[.int .i64 n] w fun e w' => e = .returned (.tuple #[.agg #[.int .i64 (atV n).1, .int .i64 (atV n).2.1], .int .i64 (atV n).2.2]) ∧ Below w.heap.size w w' := RAt.watchmanref04_At.calls n _ _ _ w (rat n)
theorem rprint_any (b c : Int) (w : World) : Calls Tryd.prog 14 #[.agg #[.int .i64 b, .int .i64 c]] w fun e w' => e = .returned (.tuple #[.string (prV b c).1, .int .i64 (prV b c).2]) ∧ Below w.heap.size w w' := RParse.watchmanref04_Print.calls 2 b c _ _ w (rprint b c 2 (Nat.le_refl _))
theorem rparse_any (t : ByteArray) (w : World) : Calls Tryd.prog 16 #[.string t] w fun e w' => e = .returned (.tuple #[.agg #[.int .i64 (pV t).1, .int .i64 (pV t).2.1], .int .i64 (pV t).2.2]) ∧ Below w.heap.size w w' := by
  obtain ⟨K, hK⟩ := (rparse t).rounds
  exact RParse.watchmanref04_Parse.calls K t _ _ _ w hK
theorem rbeds_any (A : Option Addr) (c : Nat) (l : List S23) (w : World) (h : CW w A l) (hl : l.length ≤ 10000) (hc : l.length ≤ c) :
    Calls Tryd.prog 24 #[.slice A l.length c] w fun e w' => ∃ A' c', e = .returned (.slice A' (bedsV l).length c') ∧ CI w' A' (bedsV l) ∧ Below w.heap.size w w' := by
  obtain ⟨K, hK⟩ := (rbeds l (by omega)).rounds
  refine (PBeds.watchmanref04_Beds.calls K A c l (bedsV l) w (cw_to_c h (by omega)) hc hK).mono ?_
  rintro e w' ⟨v, rfl, hr, hb⟩
  obtain ⟨A', c', rfl, hci⟩ := ci_of_own (show w'.ownsRow w.heap.size 3 1 v (bedsV l).length (ints (bedsV l)) from Kd.own_of_R hr) rfl
  exact ⟨A', c', rfl, hci, hb⟩
theorem rsame_any (A B : Option Addr) (c d : Nat) (l : List S23) (w : World) (h1 : CW w A l) (h2 : CW w B l) (hl : l.length ≤ 10000) (hc : l.length ≤ c) (hd : l.length ≤ d) :
    Calls Tryd.prog 25 #[.slice A l.length c, .slice B l.length d] w fun e w' => e = .returned (.bool true) ∧ ∃ k, w' = w.drewN k := by
  obtain ⟨K, hK⟩ := (rsame_l0 l (by omega) l.length 0 (by omega)).rounds
  have h := RSame.watchmanref04_Same.calls K A c l B d l true w (cw_to_c h1 (by omega)) hc (cw_to_c h2 (by omega)) hd (by unfold RSame.watchmanref04_Same.f; rw [if_pos rfl]; exact hK)
  exact h.mono fun e w' ⟨he, hd⟩ => ⟨he, hd.out⟩
theorem own_any (A : Option Addr) (c : Nat) (l : List S23) (w : World) (h : CW w A l) (hl : l.length ≤ 10000) :
    Calls Tryd.prog 8 #[.slice A l.length c] w fun e w' => ∃ v, e = .returned v ∧ RW w' w.heap.size v l ∧ Below w.heap.size w w' := by
  obtain ⟨v', w2, hrun, hr2, hg2⟩ := append_cw w w.heap.size _ [] (RW.nil _ _) A c l h (by simp; omega) (Nat.le_refl _)
  have hb2 := (Below.refl w.heap.size w).grown hg2 (Nat.le_refl _) (fun k hk => by cases hk)
  have HF := Lib.hid (And.intro hr2 hb2)
  generalize l.length = n at *
  clear h hr2 hg2 hb2
  go_enter Tryd.func8, Tryd.ntmps8
  go_wp2_with (refine wpList_append_run (d := some 6) _ _ (by rfl) (by rfl) hrun ?_)
  go_ret
  exact ⟨_, rfl, HF.out.1, HF.out.2⟩

/-- A block of two cells. -/
def Two (w : World) (n : Nat) (b c : Int) (t : TypeId) : Prop := w.heap[n]? = some (.cells #[.int .i64 b, .int .i64 c] t (0, 0))
theorem Two.new (w : World) (b c : Int) (t : TypeId) (n : Nat) (hn : n = w.heap.size) : Two (w.alloc (.cells #[.int .i64 b, .int .i64 c] t)) n b c t := by
  subst hn
  exact blk_new w _
theorem Two.grow {w w' : World} {n : Nat} {b c : Int} {t : TypeId} (h : Two w n b c t) (g : w.grownBy w' none) : Two w' n b c t := blk_grown h g (by simp)
theorem Two.below {w w' : World} {n : Nat} {b c : Int} {t : TypeId} (h : Two w n b c t) (g : Below w.heap.size w w') : Two w' n b c t := h.grow (grow_of_below g)
theorem Two.alloc {w : World} {n : Nat} {b c : Int} {t : TypeId} (h : Two w n b c t) (o : Obj) : Two (w.alloc o) n b c t := h.grow (grow_alloc _ _)
theorem Two.cells {w : World} {n : Nat} {b c : Int} {t : TypeId} (h : Two w n b c t) : w.cell? ⟨n, 0, none⟩ = some (.int .i64 b) ∧ w.cell? ⟨n, 1, none⟩ = some (.int .i64 c) := ⟨(blk_cell h 0).trans rfl, (blk_cell h 1).trans rfl⟩
theorem Two.all {w : World} {n : Nat} {b c : Int} {t : TypeId} (h : Two w n b c t) : w.cell? ⟨n, 0, none⟩ = some (.int .i64 b) ∧ w.cell? ⟨n, 1, none⟩ = some (.int .i64 c) ∧ w.frozen? ⟨n, 0, none⟩ = false ∧ w.frozen? ⟨n, 1, none⟩ = false ∧ n < w.heap.size := ⟨(blk_cell h 0).trans rfl, (blk_cell h 1).trans rfl, blk_frozen h 0, blk_frozen h 1, blk_lt h⟩
theorem Two.put {w : World} {n : Nat} {b c b' c' : Int} {t : TypeId} (h : Two w n b c t) : Two ((w.setCell ⟨n, 0, none⟩ (.int .i64 b')).setCell ⟨n, 1, none⟩ (.int .i64 c')) n b' c' t :=
  blk_put (cs := #[.int .i64 b', .int .i64 c]) (blk_put (cs := #[.int .i64 b, .int .i64 c]) h 0 _ rfl) 1 _ rfl
theorem Two.put0 {w : World} {n : Nat} {b c b' : Int} {t : TypeId} (h : Two w n b c t) : Two (w.setCell ⟨n, 0, none⟩ (.int .i64 b')) n b' c t := blk_put (cs := #[.int .i64 b, .int .i64 c]) h 0 _ rfl
theorem Two.put1 {w : World} {n : Nat} {b c c' : Int} {t : TypeId} (h : Two w n b c t) : Two (w.setCell ⟨n, 1, none⟩ (.int .i64 c')) n b c' t := blk_put (cs := #[.int .i64 b, .int .i64 c]) h 1 _ rfl
theorem GW.alloc {w : World} (h : GW w) (o : Obj) : GW (w.alloc o) := h.grow (grow_alloc _ _)

/-- The text of a spot. -/
theorem text_any (b c : Int) (h : isS b c = true) (w : World) :
    Calls Tryd.prog 28 #[.agg #[.int .i64 b, .int .i64 c]] w fun e w' => e = .returned (.string (tx b c)) ∧ Below w.heap.size w w' := by
  have h2 := (isS_iff b c).1 h
  obtain ⟨x, rfl⟩ : ∃ x : Nat, b = x := ⟨b.toNat, by omega⟩
  obtain ⟨y, rfl⟩ : ∃ y : Nat, c = y := ⟨c.toNat, by omega⟩
  have HX := Lib.hid (fun W => Tryd.strconv_Itoa_small x (by omega) W)
  have HY := Lib.hid (fun W => Tryd.strconv_Itoa_small y (by omega) W)
  have e1 : tx (x : Int) (y : Int) = (⟨(decDigits x).toArray⟩ : ByteArray) ++ ⟨#[47]⟩ ++ ⟨(decDigits y).toArray⟩ := by
    apply ba_ext
    rw [tx_list]
    unfold txL
    rw [dd_ds x (by omega), dd_ds y (by omega)]
    simp
  have s1 : (⟨(decDigits x).toArray⟩ : ByteArray).size ≤ 2 := by
    show (decDigits x).toArray.size ≤ 2
    rw [dd_ds x (by omega)]
    have := ds_len x
    simp
    omega
  have s2 : (⟨(decDigits y).toArray⟩ : ByteArray).size ≤ 2 := by
    show (decDigits y).toArray.size ≤ 2
    rw [dd_ds y (by omega)]
    have := ds_len y
    simp
    omega
  have HE := Lib.hid e1
  clear e1 h h2
  generalize (⟨(decDigits x).toArray⟩ : ByteArray) = sx at *
  generalize (⟨(decDigits y).toArray⟩ : ByteArray) = sy at *
  have q1 : (9223372036854775807 < sx.size + 1) = False := eq_false (by omega)
  have q2 : (9223372036854775807 < sx.size + 1 + sy.size) = False := eq_false (by omega)
  go_enter Tryd.func28, Tryd.ntmps28
  go_wp2_with fail
  go_quiet (first | (go_at_call_of 34 (Value.int IntKind.i64 x); exact Calls.quiet_of_same (HX.out _)) | (go_at_call_of 34 (Value.int IntKind.i64 y); exact Calls.quiet_of_same (HY.out _)))
  go_wp2_with fail
  go_ret
  exact ⟨by rw [HE.out]; rfl, grow_below ((Below.refl _ _).alloc (Nat.le_refl _) _) (grow_drewN _ _) (by simp)⟩
theorem print_any (b c : Int) (w : World) :
    Calls Tryd.prog 13 #[.agg #[.int .i64 b, .int .i64 c]] w fun e w' => e = .returned (.tuple #[.string (prV b c).1, .int .i64 (prV b c).2]) ∧ Below w.heap.size w w' := by
  have HM := Lib.hid (fun W => may_any b c W)
  cases h : isS b c
  · have HP := Lib.hid (show prV b c = (⟨#[]⟩, 1) by unfold prV; rw [if_neg (by rw [h]; simp)])
    rw [h] at HM
    clear h
    go_enter Tryd.func13, Tryd.ntmps13
    go_wp2_with fail
    refine (HM.out _).mono ?_
    rintro e w1 ⟨rfl, hb⟩
    have HB := Lib.hid hb
    clear hb
    go_wp2_with fail
    go_ret2
    exact ⟨by rw [HP.out]; rfl, below_step ((((Below.refl _ _).alloc (Nat.le_refl _) _)).alloc (by simp) _) HB.out⟩
  · have HT := Lib.hid (fun W => text_any b c h W)
    have HP := Lib.hid (show prV b c = (tx b c, 0) by unfold prV; rw [if_pos h])
    rw [h] at HM
    clear h
    go_enter Tryd.func13, Tryd.ntmps13
    go_wp2_with fail
    refine (HM.out _).mono ?_
    rintro e w1 ⟨rfl, hb⟩
    obtain ⟨t0, t1⟩ := (Two.new (w.alloc (.cells #[.int .i64 b, .int .i64 c] 23)) b c 48 (w.heap.size + 1) (by simp)).below hb |>.cells
    have HB := Lib.hid (below_step ((((Below.refl w.heap.size w).alloc (Nat.le_refl _) _)).alloc (by simp) _) hb)
    clear hb
    go_wp2_with fail
    refine (HT.out _).mono ?_
    rintro e w2 ⟨rfl, hb⟩
    have HB2 := Lib.hid (below_step HB.out hb)
    clear hb t0 t1
    go_wp2_with fail
    go_ret2
    exact ⟨by rw [HP.out]; rfl, HB2.out⟩
end Go.Proofs.YtpchbdpepgeibaaDoor
