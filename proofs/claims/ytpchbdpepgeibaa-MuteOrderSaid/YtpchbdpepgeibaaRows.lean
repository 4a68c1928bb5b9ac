/-
  No cell of these rows narrows 'for every input' (looked for: loops, veiled, ifaces, maps, wideKeys, modest, calm, conditions, laid).
  DERIVED. THE GIVEN ROWS OF THIS SEAT. 2 by the template 'for every input the law returns true; each argument reads behind the call as it read before'; 0 by the template 'total and deterministic' (their statements: YtpchbdpepgeibaaTotals.lean).
  GIVEN WITH THE SEED: the statements are not yours to turn. If you find one false, say at which input.
  Laid BY PROGRAM, IN A SANDBOX (cutbox-rows.mjs): the forced cells as the released guide's own fill.sh prints them over the translation e008b92f31c75c75… (all of the seat's roots in one cut). By AI agents, Wed Nov 11 2026. No macro, syntax, notation, axiom, sorry.
-/
import Derived.Test.YtpchbdpepgeibaaChecked
import GoSem.Claim
import GoSem.ClaimJoined
import GoSem.ClaimMapViews
import Derived.JoinedTies
import Derived.KernelRfl
namespace Go.Proofs.Ytpchbdpepgeibaa
/- THE CELL 'sum', in the pinned program and in every row, IS THE sha256 OF THE DUMP (.gsa) THAT YtpchbdpepgeibaaProg.lean LOADS. Nothing in Lean hashes anything: it is a label: what it is worth is what the hold of that sum in a sandbox is worth. -/
noncomputable def Try.pinned : Pinned := { name := "ytpchbdpepgeibaa", sum := "e008b92f31c75c752231cbdd1086cda68a0a88f687cb79510bdec46cdd29db9b", checked := Try.checked }
namespace Rows
def none {H : Type} : Left H := { results := [], args := [] }

/-- 'watchmanlaw10.MuteDoes': WHATEVER THE INPUT: true; the input reads as it did. -/
def muteDoesSpec : ChangeSpec := { name := "muteDoes", fn := fun _ => fun
  | [d1, d2, d3, d4] => { results := [.lit (.bool true)], args := [d1, d2, d3, d4] }
  | _ => none }
def muteDoesRow : OpenClaim := { program := "ytpchbdpepgeibaa", sum := "e008b92f31c75c752231cbdd1086cda68a0a88f687cb79510bdec46cdd29db9b", func := "watchman/watchmanlaw10.MuteDoes", spec := "muteDoes", unfollowed := true, recurses := true, apart := false }
def MuteDoesSaid : Prop := muteDoesRow.holds Try.pinned (OpenSpec.ofChange muteDoesSpec)

/-- ITS FALSE NEIGHBOUR: 'it returns false'. Refute it at one input. -/
def muteDoesWrong : ChangeSpec := { name := "muteDoes", fn := fun _ => fun
  | [d1, d2, d3, d4] => { results := [.lit (.bool false)], args := [d1, d2, d3, d4] }
  | _ => none }
def MuteDoesWrongFalsely : Prop := muteDoesRow.holds Try.pinned (OpenSpec.ofChange muteDoesWrong)

/-- 'watchmanlaw10.MuteOrder': WHATEVER THE INPUT: true; the input reads as it did. -/
def muteOrderSpec : ChangeSpec := { name := "muteOrder", fn := fun _ => fun
  | [d1, d2] => { results := [.lit (.bool true)], args := [d1, d2] }
  | _ => none }
def muteOrderRow : OpenClaim := { program := "ytpchbdpepgeibaa", sum := "e008b92f31c75c752231cbdd1086cda68a0a88f687cb79510bdec46cdd29db9b", func := "watchman/watchmanlaw10.MuteOrder", spec := "muteOrder", unfollowed := true, recurses := true, apart := false }
def MuteOrderSaid : Prop := muteOrderRow.holds Try.pinned (OpenSpec.ofChange muteOrderSpec)

/-- ITS FALSE NEIGHBOUR: 'it returns false'. Refute it at one input. -/
def muteOrderWrong : ChangeSpec := { name := "muteOrder", fn := fun _ => fun
  | [d1, d2] => { results := [.lit (.bool false)], args := [d1, d2] }
  | _ => none }
def MuteOrderWrongFalsely : Prop := muteOrderRow.holds Try.pinned (OpenSpec.ofChange muteOrderWrong)

/- THE SECOND FORM. 'bulk': how many values and letters a reading holds, each counted each time it is reached (what is shared counts as often as it is met; a slice's spare places count too). A statement '..UptoSaid' is the law's where the arguments, and the package variables that the reading takes, are together of bulk at most 1048576: NARROWER than '..Said'. Prove '..Said' where nothing that the law and all that it calls make is longer than what came in: it says more and counts as full. Else prove '..UptoSaid'. A law counts once. -/
mutual
def uptoBulk {H : Type} : DataW H → Nat
  | .lit (.string bytes) => bytes.length + 1
  | .lit _ => 1
  | .nil => 1
  | .ptr d => uptoBulk d + 1
  | .slice elems spare => uptoBulkAll elems + uptoBulkAll spare + 1
  | .agg parts => uptoBulkAll parts + 1
  | .iface _ d => uptoBulk d + 1
  | .map entries => uptoBulkEntries entries + 1
  | .held _ => 1
def uptoBulkAll {H : Type} : List (DataW H) → Nat
  | [] => 0
  | d :: r => uptoBulk d + uptoBulkAll r
def uptoBulkEntries {H : Type} : List (Lit × DataW H) → Nat
  | [] => 0
  | x :: r => uptoBulkEntry x + uptoBulkEntries r
def uptoBulkEntry {H : Type} : Lit × DataW H → Nat
  | (.string bytes, d) => bytes.length + uptoBulk d + 1
  | (_, d) => uptoBulk d + 1
 end
def uptoSmall : (H : Type) → List (DataW H) → Bool := fun _ ds => decide (uptoBulkAll ds ≤ 1048576)
def OpenSpec.upto (s : _root_.Go.ChangeSpec) : _root_.Go.OpenSpec := { _root_.Go.OpenSpec.ofChange s with cond := some uptoSmall }

/-- 'watchmanlaw10.MuteDoes', WHERE WHAT IT READS IS OF BULK AT MOST 1048576: true; the input reads as it did. -/
def muteDoesUptoRow : OpenClaim := { program := "ytpchbdpepgeibaa", sum := "e008b92f31c75c752231cbdd1086cda68a0a88f687cb79510bdec46cdd29db9b", func := "watchman/watchmanlaw10.MuteDoes", spec := "muteDoes", unfollowed := true, recurses := true, apart := false, narrowed := true }
def MuteDoesUptoSaid : Prop := muteDoesUptoRow.holds Try.pinned (OpenSpec.upto muteDoesSpec)

/-- 'watchmanlaw10.MuteOrder', WHERE WHAT IT READS IS OF BULK AT MOST 1048576: true; the input reads as it did. -/
def muteOrderUptoRow : OpenClaim := { program := "ytpchbdpepgeibaa", sum := "e008b92f31c75c752231cbdd1086cda68a0a88f687cb79510bdec46cdd29db9b", func := "watchman/watchmanlaw10.MuteOrder", spec := "muteOrder", unfollowed := true, recurses := true, apart := false, narrowed := true }
def MuteOrderUptoSaid : Prop := muteOrderUptoRow.holds Try.pinned (OpenSpec.upto muteOrderSpec)

end Rows
end Go.Proofs.Ytpchbdpepgeibaa
