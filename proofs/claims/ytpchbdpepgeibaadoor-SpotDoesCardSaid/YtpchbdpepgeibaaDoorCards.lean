/-
  DERIVED. GIVEN WITH THE SEED: THE CARDS: each row of YtpchbdpepgeibaaDoorRows.lean that lists a variable, with what it lists TIED to the program's text (the seventh form; the later family's looks); each row that meets fmt, with fmt's text TOLD by the authors' own Lean function (tested against real Go, not proved from fmt's source: count such statements apart). THE CARD IS WHAT COUNTS. Prove the row's statement (the work); the ties are given (YtpchbdpepgeibaaDoorTie.lean); close each card by the builder's one call (the guide's Derived/Test/ToyasCard.lean, 'card_holds'). Laid BY PROGRAM, IN A SANDBOX (cutbox-door.mjs). By AI agents, Wed Nov 11 2026. No macro, syntax, notation, axiom, sorry.
-/
import Derived.Test.YtpchbdpepgeibaaDoorRows
import GoSem.ClaimSeven
namespace Go.Proofs.YtpchbdpepgeibaaDoor
namespace Rows

/-- THE TIED CARD OF 'watchmanlaw04.SpotDoes'. -/
def spotDoesCard : Claim7 := { stood := { row := spotDoesRow, standIns := [], harness := (true, "aa1a7c8b72539d9806dd74ac05224b80fe0098fddb2653d0e0c6883ffa92bcb1"), looks := true }, kinds := [], alts := [], laidByText := true, laidKinds := [.data, .data, .data, .sentinel, .sentinel], laidTests := true, laidLooks := .later }
def SpotDoesCardSaid : Prop := Claim7.holds Tryd.pinned (.plain (OpenSpec.ofChange spotDoesSpec)) spotDoesCard

/-- THE TIED CARD OF 'watchmanlaw04.SpotBack'. -/
def spotBackCard : Claim7 := { stood := { row := spotBackRow, standIns := [], harness := (true, "aa1a7c8b72539d9806dd74ac05224b80fe0098fddb2653d0e0c6883ffa92bcb1"), looks := true }, kinds := [], alts := [], laidByText := true, laidKinds := [.data, .data, .data, .sentinel, .sentinel], laidTests := true, laidLooks := .later }
def SpotBackCardSaid : Prop := Claim7.holds Tryd.pinned (.plain (OpenSpec.ofChange spotBackSpec)) spotBackCard

/-- THE TIED CARD OF 'watchmanlaw04.SpotOrder'. -/
def spotOrderCard : Claim7 := { stood := { row := spotOrderRow, standIns := [], harness := (true, "aa1a7c8b72539d9806dd74ac05224b80fe0098fddb2653d0e0c6883ffa92bcb1"), looks := true }, kinds := [], alts := [], laidByText := true, laidKinds := [.data, .data, .data, .sentinel, .sentinel], laidTests := true, laidLooks := .later }
def SpotOrderCardSaid : Prop := Claim7.holds Tryd.pinned (.plain (OpenSpec.ofChange spotOrderSpec)) spotOrderCard

/-- THE TIED CARD OF 'watchmanlaw04.SpotBeds'. -/
def spotBedsCard : Claim7 := { stood := { row := spotBedsRow, standIns := [], harness := (true, "aa1a7c8b72539d9806dd74ac05224b80fe0098fddb2653d0e0c6883ffa92bcb1"), looks := true }, kinds := [], alts := [], laidByText := true, laidKinds := [.data, .data, .data, .sentinel, .sentinel], laidTests := true, laidLooks := .later }
def SpotBedsCardSaid : Prop := Claim7.holds Tryd.pinned (.plain (OpenSpec.ofChange spotBedsSpec)) spotBedsCard

/-- THE TIED CARD OF 'watchmanlaw04.SpotRow'. -/
def spotRowCard : Claim7 := { stood := { row := spotRowRow, standIns := [], harness := (true, "aa1a7c8b72539d9806dd74ac05224b80fe0098fddb2653d0e0c6883ffa92bcb1"), looks := true }, kinds := [], alts := [], laidByText := true, laidKinds := [.data, .data, .data, .sentinel, .sentinel], laidTests := true, laidLooks := .later }
def SpotRowCardSaid : Prop := Claim7.holds Tryd.pinned (.plain (OpenSpec.ofChange spotRowSpec)) spotRowCard

/-- THE SECOND FORM's CARD OF 'watchmanlaw04.SpotDoes'. -/
def spotDoesUptoCard : Claim7 := { stood := { row := spotDoesUptoRow, standIns := [], harness := (true, "aa1a7c8b72539d9806dd74ac05224b80fe0098fddb2653d0e0c6883ffa92bcb1"), looks := true }, kinds := [], alts := [], laidByText := true, laidKinds := [.data, .data, .data, .sentinel, .sentinel], laidTests := true, laidLooks := .later }
def SpotDoesUptoCardSaid : Prop := Claim7.holds Tryd.pinned (.plain (OpenSpec.upto spotDoesSpec)) spotDoesUptoCard

/-- THE SECOND FORM's CARD OF 'watchmanlaw04.SpotBack'. -/
def spotBackUptoCard : Claim7 := { stood := { row := spotBackUptoRow, standIns := [], harness := (true, "aa1a7c8b72539d9806dd74ac05224b80fe0098fddb2653d0e0c6883ffa92bcb1"), looks := true }, kinds := [], alts := [], laidByText := true, laidKinds := [.data, .data, .data, .sentinel, .sentinel], laidTests := true, laidLooks := .later }
def SpotBackUptoCardSaid : Prop := Claim7.holds Tryd.pinned (.plain (OpenSpec.upto spotBackSpec)) spotBackUptoCard

/-- THE SECOND FORM's CARD OF 'watchmanlaw04.SpotOrder'. -/
def spotOrderUptoCard : Claim7 := { stood := { row := spotOrderUptoRow, standIns := [], harness := (true, "aa1a7c8b72539d9806dd74ac05224b80fe0098fddb2653d0e0c6883ffa92bcb1"), looks := true }, kinds := [], alts := [], laidByText := true, laidKinds := [.data, .data, .data, .sentinel, .sentinel], laidTests := true, laidLooks := .later }
def SpotOrderUptoCardSaid : Prop := Claim7.holds Tryd.pinned (.plain (OpenSpec.upto spotOrderSpec)) spotOrderUptoCard

/-- THE SECOND FORM's CARD OF 'watchmanlaw04.SpotBeds'. -/
def spotBedsUptoCard : Claim7 := { stood := { row := spotBedsUptoRow, standIns := [], harness := (true, "aa1a7c8b72539d9806dd74ac05224b80fe0098fddb2653d0e0c6883ffa92bcb1"), looks := true }, kinds := [], alts := [], laidByText := true, laidKinds := [.data, .data, .data, .sentinel, .sentinel], laidTests := true, laidLooks := .later }
def SpotBedsUptoCardSaid : Prop := Claim7.holds Tryd.pinned (.plain (OpenSpec.upto spotBedsSpec)) spotBedsUptoCard

/-- THE SECOND FORM's CARD OF 'watchmanlaw04.SpotRow'. -/
def spotRowUptoCard : Claim7 := { stood := { row := spotRowUptoRow, standIns := [], harness := (true, "aa1a7c8b72539d9806dd74ac05224b80fe0098fddb2653d0e0c6883ffa92bcb1"), looks := true }, kinds := [], alts := [], laidByText := true, laidKinds := [.data, .data, .data, .sentinel, .sentinel], laidTests := true, laidLooks := .later }
def SpotRowUptoCardSaid : Prop := Claim7.holds Tryd.pinned (.plain (OpenSpec.upto spotRowSpec)) spotRowUptoCard
end Rows
end Go.Proofs.YtpchbdpepgeibaaDoor
