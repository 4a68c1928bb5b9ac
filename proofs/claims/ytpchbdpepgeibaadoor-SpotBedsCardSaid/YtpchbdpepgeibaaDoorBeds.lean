/- SpotBeds: for every input the law returns true; nothing that was there is written. Conditions: the row's own cells. -/
import Derived.Test.YtpchbdpepgeibaaDoorL
import Derived.Test.YtpchbdpepgeibaaDoorG
import Derived.Test.YtpchbdpepgeibaaDoorTie
import Derived.Test.YtpchbdpepgeibaaDoorCards
import Derived.WalkKit
import Derived.ProofKit
import Derived.OpenShut
import Derived.ShutString
import Derived.ChangeOld
import Derived.Below
namespace Go.Proofs.YtpchbdpepgeibaaDoor.spotBeds
open Go.ChangeShapes Go.WideShapes Go.ChangeAt Go.RowKit
open Go.ChangeMaps (open_string shut_string)
set_option linter.unusedVariables false

set_option maxHeartbeats 4000000 in
theorem walk (a0 : Option Addr) (len0 cap0 : Nat) (z0 : List S23) (w : World) (hG : GW w) (w0 : Slices.Spots w a0 len0 cap0 z0) :
    Calls Tryd.prog 6 #[.slice a0 len0 cap0] w fun e w' => e = .returned (.bool true) ∧ Below w.heap.size w w' := by
  obtain ⟨hn0, hc0, hm0, hcw0⟩ := w0
  unfold maxLen at hm0
  by_cases hl : len0 ≤ 100
  · have h := bl_any a0 cap0 z0 w hG hcw0 (by omega)
    rw [hn0] at h
    exact h
  · exact (bl_big a0 len0 cap0 w (by omega) (by omega)).mono fun e w' ⟨he, hw⟩ => ⟨he, by subst hw; exact .refl _ _⟩

/-! ### THE ROW's STEP: WRITTEN OUT: LEAVE IT -/
set_option maxRecDepth 100000 in
theorem lifted (os : Os) (started : os.Started) (H : Type) (enc : TypeId × Value → H) :
    ReturnsInHanded {} Tryd.checked os 6 .any (fun w args => (Rows.spotBedsSpec.pre enc Tryd.prog Tryd.f6 Rows.spotBedsRow.domain false w args ∧ laidMetH Tryd.prog laidL w) ∧ sizedMet enc Tryd.prog Tryd.f6 (OpenSpec.ofChange Rows.spotBedsSpec) false w args) (Rows.spotBedsSpec.post enc Tryd.prog Tryd.f6 false true false false) := by
  refine returnsInHanded_of_calls own0 started (by kernel_rfl)
    (ChangeSpec.witness_shaped (enc := enc) (C := Tryd.checked) (os := os) (X := fun w _ => laidMetH Tryd.prog laidL w) false (World.doorLaid Tryd.prog 62 os) #[.slice none 0 0] 8 rfl
      (World.shaped_of_RefB (by kernel_rfl) (by kernel_rfl)) (by kernel_rfl) (by kernel_rfl) (by kernel_rfl) (door_met os _)) ?_
  intro w0 tape i _ hsh _ hok hpre _
  obtain ⟨_, _, _, fn', hfn', _, _, _, _, hval0⟩ := hok
  have e : fn' = Tryd.f6 := Option.some.inj (hfn'.symm.trans Tryd.func6)
  subst e
  obtain ⟨⟨⟨ds, gs, before, hw, hcnd⟩, hx⟩, _⟩ := hpre
  have hW : DataW.Whole enc Tryd.prog Tryd.f6.params.toList Rows.spotBedsSpec.vars false (w0.forCall tape i) i.args.toList ds gs before := DataW.Whole.of_heap (w' := w0.forCall tape i) (by rfl) hw
  have hG : GW (w0.forCall tape i) := gw_laid hsh (hx.of_heap (by rfl))
  clear hsh hx hw hcnd
  refine Calls.mono (R := fun e W' => ∃ v, e = .returned v ∧ Rows.spotBedsSpec.post enc Tryd.prog Tryd.f6 false true false false (w0.forCall tape i) i.args v W') ?_ (fun e W' ⟨v, he, hp⟩ => by subst he; exact ChangeSpec.post_blind hp)
  generalize w0.forCall tape i = W at *
  generalize w0.heap.size = base at *
  generalize i.args = args at *
  have hval : ∀ (j : Nat) t v, Tryd.f6.params[j]? = some t → args[j]? = some v → Value.okWide Tryd.prog W .any base t v := hval0
  have hW' := hW
  obtain ⟨p, q, hA0, hV, rfl, hfz, hnd⟩ := hW
  have hA : DataW.TrodAll enc Tryd.prog W 0 (fun _ => true) true Tryd.f6.params.toList args.toList ds p := hA0
  rw [Tryd.params6] at hA hval
  obtain ⟨v0, vs0, d0, ds0, p0, q0, hargs, rfl, rfl, h0, r0⟩ := trodAll_cons hA
  obtain ⟨rfl, rfl, rfl⟩ := trodAll_nil r0
  obtain rfl : args = #[v0] := by cases args; simp_all
  obtain ⟨rfl, rfl⟩ := trodVars_none hV
  obtain ⟨a0, len0, cap0, rfl⟩ := okWide_slice Tryd.underlying24 (hval 0 24 v0 rfl rfl)
  have k0 := h0
  have lt0 : ∀ x ∈ p0, x.block < W.heap.size := by obtain ⟨m, hm⟩ := k0; exact DataW.trod_lt m _ _ _ hm
  obtain ⟨z0, w0⟩ := Slices.open_spots h0
  clear hA0 hval0
  refine (walk a0 len0 cap0 z0 W hG w0).mono fun e W' ⟨he, bel⟩ => ?_
  subst he
  exact ⟨_, rfl, _, _, _, [], _, [], hW', trodAll_mk1 (shut_bool Tryd.underlying4 _), (trodAll_cons_mk (Below.trod laidOut (by kernel_rfl) (of_decide_eq_true (by kernel_rfl)) k0 bel lt0) trodAll_mk0), rfl, bel.frame _, fun h => by cases h⟩

theorem over : Rows.spotBedsRow.holds Tryd.pinned (OpenSpec.ofChange Rows.spotBedsSpec) :=
  OpenClaim.holds_of_wide 6 Tryd.f6 rfl rfl rfl rfl rfl rfl rfl ⟨rfl, rfl, rfl, rfl, rfl⟩ rfl rfl rfl rfl rfl (by kernel_rfl) Tryd.func6 (by kernel_rfl)
    (of_decide_eq_true (by kernel_rfl)) (by unfold Func.isWrapper; first | (rw [if_pos (by decide +kernel)]; kernel_rfl) | (rw [if_neg (by decide +kernel)]; exact ⟨rfl, rfl⟩))
    (fun os started H enc _ => lifted os started H enc)

/-- ████ THE STATEMENT: THE TIED CARD ████ -/
theorem proved : Rows.SpotBedsCardSaid :=
  Claim7.holds_tied_plain_at .later [] [.data, .data, .data, .sentinel, .sentinel] true (true, "aa1a7c8b72539d9806dd74ac05224b80fe0098fddb2653d0e0c6883ffa92bcb1") true
    over (fun _ h => by cases h) (by kernel_rfl) (fun _ h => by cases h) spotBeds_row_tie rfl ⟨rfl, rfl⟩ (by kernel_rfl) rfl
    (fun f fn hf hfn => by
      obtain rfl : f = 6 := Option.some.inj ((show Tryd.prog.funcNamed "watchman/watchmanlaw04.SpotBeds" = some 6 by kernel_rfl).symm.trans hf) |>.symm
      obtain rfl : fn = Tryd.f6 := (Option.some.inj (Tryd.func6.symm.trans hfn)).symm
      exact ⟨by kernel_rfl, fun j t ht => by
        rw [Tryd.params6] at ht
        have hm : t ∈ Tryd.f6.params.toList := by rw [Tryd.params6]; exact Array.mem_toList_iff.2 (Array.mem_of_getElem? ht)
        have hall : (Tryd.f6.params.toList.all fun u => !Tryd.prog.wantsStandIn u) = true := by kernel_rfl
        exact (show Tryd.prog.wantsStandIn t = false by simpa using List.all_eq_true.1 hall t hm)⟩)
    (by kernel_rfl)
#print axioms proved
end Go.Proofs.YtpchbdpepgeibaaDoor.spotBeds
