/-
  DERIVED. GIVEN WITH THE SEED: THE CARDS: each row of YthnjbnfnljjepabDoorRows.lean that lists a variable, with what it lists TIED to the program's text (the seventh form; the later family's looks); each row that meets fmt, with fmt's text TOLD by the authors' own Lean function (tested against real Go, not proved from fmt's source: count such statements apart). THE CARD IS WHAT COUNTS. Prove the row's statement (the work); the ties are given (YthnjbnfnljjepabDoorTie.lean); close each card by the builder's one call (the guide's Derived/Test/ToyasCard.lean, 'card_holds'). Laid BY PROGRAM, IN A SANDBOX (cutbox-door.mjs). By AI agents, Wed Nov 11 2026. No macro, syntax, notation, axiom, sorry.
-/
import Derived.Test.YthnjbnfnljjepabDoorRows
import GoSem.ClaimSeven
namespace Go.Proofs.YthnjbnfnljjepabDoor
namespace Rows

/-- THE TIED CARD OF 'interleavelaw20.EventValid'. -/
def eventValidCard : Claim7 := { stood := { row := eventValidRow, standIns := [], harness := (true, "00d022f50ed2ba35b5a968617504a3a5e13c3ad0fe77063c0b9ae55d93aecc4c"), looks := true }, kinds := [], alts := [], laidByText := true, laidKinds := [.data, .data, .data, .data, .sentinel, .sentinel, .data, .pinned], laidTests := true, laidLooks := .later }
def EventValidCardSaid : Prop := Claim7.holds Tryd.pinned (.plain (OpenSpec.ofChange eventValidSpec)) eventValidCard

/-- THE TIED CARD OF 'interleavelaw20.EventText'. -/
def eventTextCard : Claim7 := { stood := { row := eventTextRow, standIns := [], harness := (true, "00d022f50ed2ba35b5a968617504a3a5e13c3ad0fe77063c0b9ae55d93aecc4c"), looks := true }, kinds := [], alts := [], laidByText := true, laidKinds := [.data, .data, .data, .data, .sentinel, .sentinel, .data, .pinned], laidTests := true, laidLooks := .later }
def EventTextCardSaid : Prop := Claim7.holds Tryd.pinned (.plain (OpenSpec.ofChange eventTextSpec)) eventTextCard

/-- THE TIED CARD OF 'interleavelaw20.EventReadInvertsText'. -/
def eventReadInvertsTextCard : Claim7 := { stood := { row := eventReadInvertsTextRow, standIns := [], harness := (true, "00d022f50ed2ba35b5a968617504a3a5e13c3ad0fe77063c0b9ae55d93aecc4c"), looks := true }, kinds := [], alts := [], laidByText := true, laidKinds := [.data, .data, .data, .data, .sentinel, .sentinel, .data, .pinned], laidTests := true, laidLooks := .later }
def EventReadInvertsTextCardSaid : Prop := Claim7.holds Tryd.pinned (.plain (OpenSpec.ofChange eventReadInvertsTextSpec)) eventReadInvertsTextCard

/-- THE TIED CARD OF 'interleavelaw20.EventReadAccepts'. -/
def eventReadAcceptsCard : Claim7 := { stood := { row := eventReadAcceptsRow, standIns := [], harness := (true, "00d022f50ed2ba35b5a968617504a3a5e13c3ad0fe77063c0b9ae55d93aecc4c"), looks := true }, kinds := [], alts := [], laidByText := true, laidKinds := [.data, .data, .data, .data, .sentinel, .sentinel, .data, .pinned], laidTests := true, laidLooks := .later }
def EventReadAcceptsCardSaid : Prop := Claim7.holds Tryd.pinned (.plain (OpenSpec.ofChange eventReadAcceptsSpec)) eventReadAcceptsCard

/-- THE TIED CARD OF 'interleavelaw20.EventConflict'. -/
def eventConflictCard : Claim7 := { stood := { row := eventConflictRow, standIns := [], harness := (true, "00d022f50ed2ba35b5a968617504a3a5e13c3ad0fe77063c0b9ae55d93aecc4c"), looks := true }, kinds := [], alts := [], laidByText := true, laidKinds := [.data, .data, .data, .data, .sentinel, .sentinel, .data, .pinned], laidTests := true, laidLooks := .later }
def EventConflictCardSaid : Prop := Claim7.holds Tryd.pinned (.plain (OpenSpec.ofChange eventConflictSpec)) eventConflictCard

/-- THE TIED CARD OF 'interleavelaw20.EventKinds'. -/
def eventKindsCard : Claim7 := { stood := { row := eventKindsRow, standIns := [], harness := (true, "00d022f50ed2ba35b5a968617504a3a5e13c3ad0fe77063c0b9ae55d93aecc4c"), looks := true }, kinds := [], alts := [], laidByText := true, laidKinds := [.data, .data, .data, .data, .sentinel, .sentinel, .data, .pinned], laidTests := true, laidLooks := .later }
def EventKindsCardSaid : Prop := Claim7.holds Tryd.pinned (.plain (OpenSpec.ofChange eventKindsSpec)) eventKindsCard

/-- THE TIED CARD OF 'interleavelaw20.EventMemoryApart'. -/
def eventMemoryApartCard : Claim7 := { stood := { row := eventMemoryApartRow, standIns := [], harness := (true, "00d022f50ed2ba35b5a968617504a3a5e13c3ad0fe77063c0b9ae55d93aecc4c"), looks := true }, kinds := [], alts := [], laidByText := true, laidKinds := [.data, .data, .data, .data, .sentinel, .sentinel, .data, .pinned], laidTests := true, laidLooks := .later }
def EventMemoryApartCardSaid : Prop := Claim7.holds Tryd.pinned (.plain (OpenSpec.ofChange eventMemoryApartSpec)) eventMemoryApartCard

/-- THE SECOND FORM's CARD OF 'interleavelaw20.EventValid'. -/
def eventValidUptoCard : Claim7 := { stood := { row := eventValidUptoRow, standIns := [], harness := (true, "00d022f50ed2ba35b5a968617504a3a5e13c3ad0fe77063c0b9ae55d93aecc4c"), looks := true }, kinds := [], alts := [], laidByText := true, laidKinds := [.data, .data, .data, .data, .sentinel, .sentinel, .data, .pinned], laidTests := true, laidLooks := .later }
def EventValidUptoCardSaid : Prop := Claim7.holds Tryd.pinned (.plain (OpenSpec.upto eventValidSpec)) eventValidUptoCard

/-- THE SECOND FORM's CARD OF 'interleavelaw20.EventText'. -/
def eventTextUptoCard : Claim7 := { stood := { row := eventTextUptoRow, standIns := [], harness := (true, "00d022f50ed2ba35b5a968617504a3a5e13c3ad0fe77063c0b9ae55d93aecc4c"), looks := true }, kinds := [], alts := [], laidByText := true, laidKinds := [.data, .data, .data, .data, .sentinel, .sentinel, .data, .pinned], laidTests := true, laidLooks := .later }
def EventTextUptoCardSaid : Prop := Claim7.holds Tryd.pinned (.plain (OpenSpec.upto eventTextSpec)) eventTextUptoCard

/-- THE SECOND FORM's CARD OF 'interleavelaw20.EventReadInvertsText'. -/
def eventReadInvertsTextUptoCard : Claim7 := { stood := { row := eventReadInvertsTextUptoRow, standIns := [], harness := (true, "00d022f50ed2ba35b5a968617504a3a5e13c3ad0fe77063c0b9ae55d93aecc4c"), looks := true }, kinds := [], alts := [], laidByText := true, laidKinds := [.data, .data, .data, .data, .sentinel, .sentinel, .data, .pinned], laidTests := true, laidLooks := .later }
def EventReadInvertsTextUptoCardSaid : Prop := Claim7.holds Tryd.pinned (.plain (OpenSpec.upto eventReadInvertsTextSpec)) eventReadInvertsTextUptoCard

/-- THE SECOND FORM's CARD OF 'interleavelaw20.EventReadAccepts'. -/
def eventReadAcceptsUptoCard : Claim7 := { stood := { row := eventReadAcceptsUptoRow, standIns := [], harness := (true, "00d022f50ed2ba35b5a968617504a3a5e13c3ad0fe77063c0b9ae55d93aecc4c"), looks := true }, kinds := [], alts := [], laidByText := true, laidKinds := [.data, .data, .data, .data, .sentinel, .sentinel, .data, .pinned], laidTests := true, laidLooks := .later }
def EventReadAcceptsUptoCardSaid : Prop := Claim7.holds Tryd.pinned (.plain (OpenSpec.upto eventReadAcceptsSpec)) eventReadAcceptsUptoCard

/-- THE SECOND FORM's CARD OF 'interleavelaw20.EventConflict'. -/
def eventConflictUptoCard : Claim7 := { stood := { row := eventConflictUptoRow, standIns := [], harness := (true, "00d022f50ed2ba35b5a968617504a3a5e13c3ad0fe77063c0b9ae55d93aecc4c"), looks := true }, kinds := [], alts := [], laidByText := true, laidKinds := [.data, .data, .data, .data, .sentinel, .sentinel, .data, .pinned], laidTests := true, laidLooks := .later }
def EventConflictUptoCardSaid : Prop := Claim7.holds Tryd.pinned (.plain (OpenSpec.upto eventConflictSpec)) eventConflictUptoCard

/-- THE SECOND FORM's CARD OF 'interleavelaw20.EventKinds'. -/
def eventKindsUptoCard : Claim7 := { stood := { row := eventKindsUptoRow, standIns := [], harness := (true, "00d022f50ed2ba35b5a968617504a3a5e13c3ad0fe77063c0b9ae55d93aecc4c"), looks := true }, kinds := [], alts := [], laidByText := true, laidKinds := [.data, .data, .data, .data, .sentinel, .sentinel, .data, .pinned], laidTests := true, laidLooks := .later }
def EventKindsUptoCardSaid : Prop := Claim7.holds Tryd.pinned (.plain (OpenSpec.upto eventKindsSpec)) eventKindsUptoCard

/-- THE SECOND FORM's CARD OF 'interleavelaw20.EventMemoryApart'. -/
def eventMemoryApartUptoCard : Claim7 := { stood := { row := eventMemoryApartUptoRow, standIns := [], harness := (true, "00d022f50ed2ba35b5a968617504a3a5e13c3ad0fe77063c0b9ae55d93aecc4c"), looks := true }, kinds := [], alts := [], laidByText := true, laidKinds := [.data, .data, .data, .data, .sentinel, .sentinel, .data, .pinned], laidTests := true, laidLooks := .later }
def EventMemoryApartUptoCardSaid : Prop := Claim7.holds Tryd.pinned (.plain (OpenSpec.upto eventMemoryApartSpec)) eventMemoryApartUptoCard
end Rows
end Go.Proofs.YthnjbnfnljjepabDoor
