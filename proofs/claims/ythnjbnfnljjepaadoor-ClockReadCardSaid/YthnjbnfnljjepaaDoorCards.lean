/-
  DERIVED. GIVEN WITH THE SEED: THE CARDS: each row of YthnjbnfnljjepaaDoorRows.lean that lists a variable, with what it lists TIED to the program's text (the seventh form; the later family's looks); each row that meets fmt, with fmt's text TOLD by the authors' own Lean function (tested against real Go, not proved from fmt's source: count such statements apart). THE CARD IS WHAT COUNTS. Prove the row's statement (the work); the ties are given (YthnjbnfnljjepaaDoorTie.lean); close each card by the builder's one call (the guide's Derived/Test/ToyasCard.lean, 'card_holds'). Laid BY PROGRAM, IN A SANDBOX (cutbox-door.mjs). By AI agents, Wed Nov 11 2026. No macro, syntax, notation, axiom, sorry.
-/
import Derived.Test.YthnjbnfnljjepaaDoorRows
import GoSem.ClaimSeven
namespace Go.Proofs.YthnjbnfnljjepaaDoor
namespace Rows

/-- THE TIED CARD OF 'interleavelaw32.ClockMeetGreatest'. -/
def clockMeetGreatestCard : Claim7 := { stood := { row := clockMeetGreatestRow, standIns := [], harness := (true, "7b3ae8ffd23f6a6d3422cef37143f1a102d6f9c8e089b6fbda19d650e3a3ef03"), looks := true }, kinds := [], alts := [], laidByText := true, laidKinds := [.data, .data, .data, .data, .sentinel, .sentinel, .listed, .data, .pinned], laidTests := true, laidLooks := .later }
def ClockMeetGreatestCardSaid : Prop := Claim7.holds Tryd.pinned (.plain (OpenSpec.ofChange clockMeetGreatestSpec)) clockMeetGreatestCard

/-- THE TIED CARD OF 'interleavelaw32.ClockLattice'. -/
def clockLatticeCard : Claim7 := { stood := { row := clockLatticeRow, standIns := [], harness := (true, "7b3ae8ffd23f6a6d3422cef37143f1a102d6f9c8e089b6fbda19d650e3a3ef03"), looks := true }, kinds := [], alts := [], laidByText := true, laidKinds := [.data, .data, .data, .data, .sentinel, .sentinel, .listed, .data, .pinned], laidTests := true, laidLooks := .later }
def ClockLatticeCardSaid : Prop := Claim7.holds Tryd.pinned (.plain (OpenSpec.ofChange clockLatticeSpec)) clockLatticeCard

/-- THE TIED CARD OF 'interleavelaw32.ClockOrder'. -/
def clockOrderCard : Claim7 := { stood := { row := clockOrderRow, standIns := [], harness := (true, "7b3ae8ffd23f6a6d3422cef37143f1a102d6f9c8e089b6fbda19d650e3a3ef03"), looks := true }, kinds := [], alts := [], laidByText := true, laidKinds := [.data, .data, .data, .data, .sentinel, .sentinel, .listed, .data, .pinned], laidTests := true, laidLooks := .later }
def ClockOrderCardSaid : Prop := Claim7.holds Tryd.pinned (.plain (OpenSpec.ofChange clockOrderSpec)) clockOrderCard

/-- THE TIED CARD OF 'interleavelaw32.ClockPartialOrder'. -/
def clockPartialOrderCard : Claim7 := { stood := { row := clockPartialOrderRow, standIns := [], harness := (true, "7b3ae8ffd23f6a6d3422cef37143f1a102d6f9c8e089b6fbda19d650e3a3ef03"), looks := true }, kinds := [], alts := [], laidByText := true, laidKinds := [.data, .data, .data, .data, .sentinel, .sentinel, .listed, .data, .pinned], laidTests := true, laidLooks := .later }
def ClockPartialOrderCardSaid : Prop := Claim7.holds Tryd.pinned (.plain (OpenSpec.ofChange clockPartialOrderSpec)) clockPartialOrderCard

/-- THE TIED CARD OF 'interleavelaw32.ClockJoinLeast'. -/
def clockJoinLeastCard : Claim7 := { stood := { row := clockJoinLeastRow, standIns := [], harness := (true, "7b3ae8ffd23f6a6d3422cef37143f1a102d6f9c8e089b6fbda19d650e3a3ef03"), looks := true }, kinds := [], alts := [], laidByText := true, laidKinds := [.data, .data, .data, .data, .sentinel, .sentinel, .listed, .data, .pinned], laidTests := true, laidLooks := .later }
def ClockJoinLeastCardSaid : Prop := Claim7.holds Tryd.pinned (.plain (OpenSpec.ofChange clockJoinLeastSpec)) clockJoinLeastCard

/-- THE TIED CARD OF 'interleavelaw32.ClockTick'. -/
def clockTickCard : Claim7 := { stood := { row := clockTickRow, standIns := [], harness := (true, "7b3ae8ffd23f6a6d3422cef37143f1a102d6f9c8e089b6fbda19d650e3a3ef03"), looks := true }, kinds := [], alts := [], laidByText := true, laidKinds := [.data, .data, .data, .data, .sentinel, .sentinel, .listed, .data, .pinned], laidTests := true, laidLooks := .later }
def ClockTickCardSaid : Prop := Claim7.holds Tryd.pinned (.plain (OpenSpec.ofChange clockTickSpec)) clockTickCard

/-- THE TIED CARD OF 'interleavelaw32.ClockText'. -/
def clockTextCard : Claim7 := { stood := { row := clockTextRow, standIns := [], harness := (true, "7b3ae8ffd23f6a6d3422cef37143f1a102d6f9c8e089b6fbda19d650e3a3ef03"), looks := true }, kinds := [], alts := [], laidByText := true, laidKinds := [.data, .data, .data, .data, .sentinel, .sentinel, .listed, .data, .pinned], laidTests := true, laidLooks := .later }
def ClockTextCardSaid : Prop := Claim7.holds Tryd.pinned (.plain (OpenSpec.ofChange clockTextSpec)) clockTextCard

/-- THE TIED CARD OF 'interleavelaw32.ClockRead'. -/
def clockReadCard : Claim7 := { stood := { row := clockReadRow, standIns := [], harness := (true, "7b3ae8ffd23f6a6d3422cef37143f1a102d6f9c8e089b6fbda19d650e3a3ef03"), looks := true }, kinds := [], alts := [], laidByText := true, laidKinds := [.data, .data, .data, .data, .sentinel, .sentinel, .listed, .data, .pinned], laidTests := true, laidLooks := .later }
def ClockReadCardSaid : Prop := Claim7.holds Tryd.pinned (.plain (OpenSpec.ofChange clockReadSpec)) clockReadCard

/-- THE SECOND FORM's CARD OF 'interleavelaw32.ClockMeetGreatest'. -/
def clockMeetGreatestUptoCard : Claim7 := { stood := { row := clockMeetGreatestUptoRow, standIns := [], harness := (true, "7b3ae8ffd23f6a6d3422cef37143f1a102d6f9c8e089b6fbda19d650e3a3ef03"), looks := true }, kinds := [], alts := [], laidByText := true, laidKinds := [.data, .data, .data, .data, .sentinel, .sentinel, .listed, .data, .pinned], laidTests := true, laidLooks := .later }
def ClockMeetGreatestUptoCardSaid : Prop := Claim7.holds Tryd.pinned (.plain (OpenSpec.upto clockMeetGreatestSpec)) clockMeetGreatestUptoCard

/-- THE SECOND FORM's CARD OF 'interleavelaw32.ClockLattice'. -/
def clockLatticeUptoCard : Claim7 := { stood := { row := clockLatticeUptoRow, standIns := [], harness := (true, "7b3ae8ffd23f6a6d3422cef37143f1a102d6f9c8e089b6fbda19d650e3a3ef03"), looks := true }, kinds := [], alts := [], laidByText := true, laidKinds := [.data, .data, .data, .data, .sentinel, .sentinel, .listed, .data, .pinned], laidTests := true, laidLooks := .later }
def ClockLatticeUptoCardSaid : Prop := Claim7.holds Tryd.pinned (.plain (OpenSpec.upto clockLatticeSpec)) clockLatticeUptoCard

/-- THE SECOND FORM's CARD OF 'interleavelaw32.ClockOrder'. -/
def clockOrderUptoCard : Claim7 := { stood := { row := clockOrderUptoRow, standIns := [], harness := (true, "7b3ae8ffd23f6a6d3422cef37143f1a102d6f9c8e089b6fbda19d650e3a3ef03"), looks := true }, kinds := [], alts := [], laidByText := true, laidKinds := [.data, .data, .data, .data, .sentinel, .sentinel, .listed, .data, .pinned], laidTests := true, laidLooks := .later }
def ClockOrderUptoCardSaid : Prop := Claim7.holds Tryd.pinned (.plain (OpenSpec.upto clockOrderSpec)) clockOrderUptoCard

/-- THE SECOND FORM's CARD OF 'interleavelaw32.ClockPartialOrder'. -/
def clockPartialOrderUptoCard : Claim7 := { stood := { row := clockPartialOrderUptoRow, standIns := [], harness := (true, "7b3ae8ffd23f6a6d3422cef37143f1a102d6f9c8e089b6fbda19d650e3a3ef03"), looks := true }, kinds := [], alts := [], laidByText := true, laidKinds := [.data, .data, .data, .data, .sentinel, .sentinel, .listed, .data, .pinned], laidTests := true, laidLooks := .later }
def ClockPartialOrderUptoCardSaid : Prop := Claim7.holds Tryd.pinned (.plain (OpenSpec.upto clockPartialOrderSpec)) clockPartialOrderUptoCard

/-- THE SECOND FORM's CARD OF 'interleavelaw32.ClockJoinLeast'. -/
def clockJoinLeastUptoCard : Claim7 := { stood := { row := clockJoinLeastUptoRow, standIns := [], harness := (true, "7b3ae8ffd23f6a6d3422cef37143f1a102d6f9c8e089b6fbda19d650e3a3ef03"), looks := true }, kinds := [], alts := [], laidByText := true, laidKinds := [.data, .data, .data, .data, .sentinel, .sentinel, .listed, .data, .pinned], laidTests := true, laidLooks := .later }
def ClockJoinLeastUptoCardSaid : Prop := Claim7.holds Tryd.pinned (.plain (OpenSpec.upto clockJoinLeastSpec)) clockJoinLeastUptoCard

/-- THE SECOND FORM's CARD OF 'interleavelaw32.ClockTick'. -/
def clockTickUptoCard : Claim7 := { stood := { row := clockTickUptoRow, standIns := [], harness := (true, "7b3ae8ffd23f6a6d3422cef37143f1a102d6f9c8e089b6fbda19d650e3a3ef03"), looks := true }, kinds := [], alts := [], laidByText := true, laidKinds := [.data, .data, .data, .data, .sentinel, .sentinel, .listed, .data, .pinned], laidTests := true, laidLooks := .later }
def ClockTickUptoCardSaid : Prop := Claim7.holds Tryd.pinned (.plain (OpenSpec.upto clockTickSpec)) clockTickUptoCard

/-- THE SECOND FORM's CARD OF 'interleavelaw32.ClockText'. -/
def clockTextUptoCard : Claim7 := { stood := { row := clockTextUptoRow, standIns := [], harness := (true, "7b3ae8ffd23f6a6d3422cef37143f1a102d6f9c8e089b6fbda19d650e3a3ef03"), looks := true }, kinds := [], alts := [], laidByText := true, laidKinds := [.data, .data, .data, .data, .sentinel, .sentinel, .listed, .data, .pinned], laidTests := true, laidLooks := .later }
def ClockTextUptoCardSaid : Prop := Claim7.holds Tryd.pinned (.plain (OpenSpec.upto clockTextSpec)) clockTextUptoCard

/-- THE SECOND FORM's CARD OF 'interleavelaw32.ClockRead'. -/
def clockReadUptoCard : Claim7 := { stood := { row := clockReadUptoRow, standIns := [], harness := (true, "7b3ae8ffd23f6a6d3422cef37143f1a102d6f9c8e089b6fbda19d650e3a3ef03"), looks := true }, kinds := [], alts := [], laidByText := true, laidKinds := [.data, .data, .data, .data, .sentinel, .sentinel, .listed, .data, .pinned], laidTests := true, laidLooks := .later }
def ClockReadUptoCardSaid : Prop := Claim7.holds Tryd.pinned (.plain (OpenSpec.upto clockReadSpec)) clockReadUptoCard
end Rows
end Go.Proofs.YthnjbnfnljjepaaDoor
