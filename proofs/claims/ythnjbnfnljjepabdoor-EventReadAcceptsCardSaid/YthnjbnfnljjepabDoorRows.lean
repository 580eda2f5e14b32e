/-
  NARROWER THAN 'FOR EVERY INPUT', by the rows' own cells (each row's printed sentence says how): EventValid: laid · EventText: laid · EventReadInvertsText: laid · EventReadAccepts: laid · EventConflict: laid · EventKinds: laid · EventMemoryApart: laid.
  DERIVED. THE GIVEN ROWS OF THIS SEAT. 7 by the template 'for every input the law returns true; each argument reads behind the call as it read before'; 0 by the template 'total and deterministic' (their statements: YthnjbnfnljjepabDoorTotals.lean).
  GIVEN WITH THE SEED: the statements are not yours to turn. If you find one false, say at which input.
  Laid BY PROGRAM, IN A SANDBOX (cutbox-rows.mjs): the forced cells as the released guide's own fill.sh prints them over the translation 0ecd07c3f6e2465a… (all of the seat's roots in one cut). By AI agents, Wed Nov 11 2026. No macro, syntax, notation, axiom, sorry.
-/
import Derived.Test.YthnjbnfnljjepabDoorChecked
import GoSem.PinnedTables
import GoSem.Claim
import GoSem.ClaimJoined
import GoSem.ClaimMapViews
import Derived.JoinedTies
import Derived.KernelRfl
namespace Go.Proofs.YthnjbnfnljjepabDoor
/- THE CELL 'sum', in the pinned program and in every row, IS THE sha256 OF THE DUMP (.gsa) THAT YthnjbnfnljjepabDoorProg.lean LOADS. Nothing in Lean hashes anything: it is a label: what it is worth is what the hold of that sum in a sandbox is worth. -/
noncomputable def Tryd.pinned : Pinned := { name := "ythnjbnfnljjepabdoor", sum := "0ecd07c3f6e2465ab24def048924988252c8d8f8a2b9717678911d5ca6086cd4", checked := Tryd.checked }
namespace Rows
def none {H : Type} : Left H := { results := [], args := [] }

/- WHAT THE LISTED PACKAGE-LEVEL VARIABLES READ AS WHEN THE CALL BEGINS. Each datum BY PROGRAM (the guide's laid-datum.mjs) off the statement by which the dump's own 'gosem.cut.vars' lays the variable. In a bare row this is a premise. The card (YthnjbnfnljjepabDoorCards.lean) ties it to the program's text. -/
def laid_math_bits_deBruijn32tab {H : Type} : DataW H := .agg [.lit (.int .u8 0), .lit (.int .u8 1), .lit (.int .u8 28), .lit (.int .u8 2), .lit (.int .u8 29), .lit (.int .u8 14), .lit (.int .u8 24), .lit (.int .u8 3), .lit (.int .u8 30), .lit (.int .u8 22), .lit (.int .u8 20), .lit (.int .u8 15), .lit (.int .u8 25), .lit (.int .u8 17), .lit (.int .u8 4), .lit (.int .u8 8), .lit (.int .u8 31), .lit (.int .u8 27), .lit (.int .u8 13), .lit (.int .u8 23), .lit (.int .u8 21), .lit (.int .u8 19), .lit (.int .u8 16), .lit (.int .u8 7), .lit (.int .u8 26), .lit (.int .u8 12), .lit (.int .u8 18), .lit (.int .u8 6), .lit (.int .u8 11), .lit (.int .u8 5), .lit (.int .u8 10), .lit (.int .u8 9)]
def laid_math_bits_deBruijn64tab {H : Type} : DataW H := .agg [.lit (.int .u8 0), .lit (.int .u8 1), .lit (.int .u8 56), .lit (.int .u8 2), .lit (.int .u8 57), .lit (.int .u8 49), .lit (.int .u8 28), .lit (.int .u8 3), .lit (.int .u8 61), .lit (.int .u8 58), .lit (.int .u8 42), .lit (.int .u8 50), .lit (.int .u8 38), .lit (.int .u8 29), .lit (.int .u8 17), .lit (.int .u8 4), .lit (.int .u8 62), .lit (.int .u8 47), .lit (.int .u8 59), .lit (.int .u8 36), .lit (.int .u8 45), .lit (.int .u8 43), .lit (.int .u8 51), .lit (.int .u8 22), .lit (.int .u8 53), .lit (.int .u8 39), .lit (.int .u8 33), .lit (.int .u8 30), .lit (.int .u8 24), .lit (.int .u8 18), .lit (.int .u8 12), .lit (.int .u8 5), .lit (.int .u8 63), .lit (.int .u8 55), .lit (.int .u8 48), .lit (.int .u8 27), .lit (.int .u8 60), .lit (.int .u8 41), .lit (.int .u8 37), .lit (.int .u8 16), .lit (.int .u8 46), .lit (.int .u8 35), .lit (.int .u8 44), .lit (.int .u8 21), .lit (.int .u8 52), .lit (.int .u8 32), .lit (.int .u8 23), .lit (.int .u8 11), .lit (.int .u8 54), .lit (.int .u8 26), .lit (.int .u8 40), .lit (.int .u8 15), .lit (.int .u8 34), .lit (.int .u8 20), .lit (.int .u8 31), .lit (.int .u8 10), .lit (.int .u8 25), .lit (.int .u8 14), .lit (.int .u8 19), .lit (.int .u8 9), .lit (.int .u8 13), .lit (.int .u8 8), .lit (.int .u8 7), .lit (.int .u8 6)]
def laid_internal_strconv_uint64pow10 {H : Type} : DataW H := .agg [.lit (.int .u64 1), .lit (.int .u64 10), .lit (.int .u64 100), .lit (.int .u64 1000), .lit (.int .u64 10000), .lit (.int .u64 100000), .lit (.int .u64 1000000), .lit (.int .u64 10000000), .lit (.int .u64 100000000), .lit (.int .u64 1000000000), .lit (.int .u64 10000000000), .lit (.int .u64 100000000000), .lit (.int .u64 1000000000000), .lit (.int .u64 10000000000000), .lit (.int .u64 100000000000000), .lit (.int .u64 1000000000000000), .lit (.int .u64 10000000000000000), .lit (.int .u64 100000000000000000), .lit (.int .u64 1000000000000000000), .lit (.int .u64 10000000000000000000)]
def laid_unicode_utf8_acceptRanges {H : Type} : DataW H := .agg [.agg [.lit (.int .u8 128), .lit (.int .u8 191)], .agg [.lit (.int .u8 160), .lit (.int .u8 191)], .agg [.lit (.int .u8 128), .lit (.int .u8 159)], .agg [.lit (.int .u8 144), .lit (.int .u8 191)], .agg [.lit (.int .u8 128), .lit (.int .u8 143)], .agg [.lit (.int .u8 0), .lit (.int .u8 0)], .agg [.lit (.int .u8 0), .lit (.int .u8 0)], .agg [.lit (.int .u8 0), .lit (.int .u8 0)], .agg [.lit (.int .u8 0), .lit (.int .u8 0)], .agg [.lit (.int .u8 0), .lit (.int .u8 0)], .agg [.lit (.int .u8 0), .lit (.int .u8 0)], .agg [.lit (.int .u8 0), .lit (.int .u8 0)], .agg [.lit (.int .u8 0), .lit (.int .u8 0)], .agg [.lit (.int .u8 0), .lit (.int .u8 0)], .agg [.lit (.int .u8 0), .lit (.int .u8 0)], .agg [.lit (.int .u8 0), .lit (.int .u8 0)]]
def laid_strconv_ErrRange {H : Type} : DataW H := .iface "*errors.errorString" (.ptr (.agg [.lit (.string [118, 97, 108, 117, 101, 32, 111, 117, 116, 32, 111, 102, 32, 114, 97, 110, 103, 101])]))
def laid_strconv_ErrSyntax {H : Type} : DataW H := .iface "*errors.errorString" (.ptr (.agg [.lit (.string [105, 110, 118, 97, 108, 105, 100, 32, 115, 121, 110, 116, 97, 120])]))
def laid_interleave_event_names {H : Type} : DataW H := .agg [.lit (.string []), .lit (.string [114, 101, 97, 100]), .lit (.string [119, 114, 105, 116, 101]), .lit (.string [97, 116, 111, 109, 105, 99, 45, 114, 101, 97, 100]), .lit (.string [97, 116, 111, 109, 105, 99, 45, 119, 114, 105, 116, 101]), .lit (.string [97, 116, 111, 109, 105, 99, 45, 98, 111, 116, 104]), .lit (.string [108, 111, 99, 107]), .lit (.string [117, 110, 108, 111, 99, 107]), .lit (.string [114, 108, 111, 99, 107]), .lit (.string [114, 117, 110, 108, 111, 99, 107]), .lit (.string [100, 111, 110, 101]), .lit (.string [119, 97, 105, 116]), .lit (.string [111, 110, 99, 101, 45, 101, 110, 100]), .lit (.string [111, 110, 99, 101, 45, 115, 101, 101, 110]), .lit (.string [103, 111]), .lit (.string [115, 101, 110, 100, 45, 115, 116, 97, 114, 116]), .lit (.string [115, 101, 110, 100, 45, 101, 110, 100]), .lit (.string [114, 101, 99, 118, 45, 115, 116, 97, 114, 116]), .lit (.string [114, 101, 99, 118, 45, 101, 110, 100]), .lit (.string [99, 108, 111, 115, 101]), .lit (.string [114, 101, 99, 118, 45, 99, 108, 111, 115, 101, 100])]
/-- One of Go's own tables, pinned by name: the form's constant. -/
def laid_unicode_utf8_first : DataW Unit := Go.Pinned.utf8First

/-- 'interleavelaw20.EventValid': WHATEVER THE INPUT: true; the input reads as it did. -/
def eventValidSpec : ChangeSpec := { name := "eventValid", fn := fun _ => fun
  | [d] => { results := [.lit (.bool true)], args := [d] }
  | _ => none }
def eventValidRow : OpenClaim := { program := "ythnjbnfnljjepabdoor", sum := "0ecd07c3f6e2465ab24def048924988252c8d8f8a2b9717678911d5ca6086cd4", func := "interleave/interleavelaw20.EventValid", spec := "eventValid", inPlace := ["internal/bytealg.CountString", "internal/bytealg.IndexByteString", "internal/bytealg.IndexString", "internal/abi.NoEscape", "internal/bytealg.MakeNoZero"], unfollowed := true, recurses := true, named := ["unicode/utf8.first", "unicode/utf8.acceptRanges", "internal/bytealg.MaxLen", "strconv.ErrSyntax", "strconv.ErrRange", "internal/strconv.uint64pow10", "math/bits.deBruijn32tab", "math/bits.deBruijn64tab", "interleave/event.names"], apart := false, laid := [("math/bits.deBruijn32tab", laid_math_bits_deBruijn32tab), ("math/bits.deBruijn64tab", laid_math_bits_deBruijn64tab), ("internal/strconv.uint64pow10", laid_internal_strconv_uint64pow10), ("unicode/utf8.acceptRanges", laid_unicode_utf8_acceptRanges), ("strconv.ErrRange", laid_strconv_ErrRange), ("strconv.ErrSyntax", laid_strconv_ErrSyntax), ("interleave/event.names", laid_interleave_event_names), ("unicode/utf8.first", laid_unicode_utf8_first)] }
def EventValidSaid : Prop := eventValidRow.holds Tryd.pinned (OpenSpec.ofChange eventValidSpec)

/-- ITS FALSE NEIGHBOUR: 'it returns false'. Refute it at one input. -/
def eventValidWrong : ChangeSpec := { name := "eventValid", fn := fun _ => fun
  | [d] => { results := [.lit (.bool false)], args := [d] }
  | _ => none }
def EventValidWrongFalsely : Prop := eventValidRow.holds Tryd.pinned (OpenSpec.ofChange eventValidWrong)

/-- 'interleavelaw20.EventText': WHATEVER THE INPUT: true; the input reads as it did. -/
def eventTextSpec : ChangeSpec := { name := "eventText", fn := fun _ => fun
  | [d] => { results := [.lit (.bool true)], args := [d] }
  | _ => none }
def eventTextRow : OpenClaim := { program := "ythnjbnfnljjepabdoor", sum := "0ecd07c3f6e2465ab24def048924988252c8d8f8a2b9717678911d5ca6086cd4", func := "interleave/interleavelaw20.EventText", spec := "eventText", inPlace := ["internal/bytealg.CountString", "internal/bytealg.IndexByteString", "internal/bytealg.IndexString", "internal/abi.NoEscape", "internal/bytealg.MakeNoZero"], unfollowed := true, recurses := true, named := ["unicode/utf8.first", "unicode/utf8.acceptRanges", "internal/bytealg.MaxLen", "strconv.ErrSyntax", "strconv.ErrRange", "internal/strconv.uint64pow10", "math/bits.deBruijn32tab", "math/bits.deBruijn64tab", "interleave/event.names"], apart := false, laid := [("math/bits.deBruijn32tab", laid_math_bits_deBruijn32tab), ("math/bits.deBruijn64tab", laid_math_bits_deBruijn64tab), ("internal/strconv.uint64pow10", laid_internal_strconv_uint64pow10), ("unicode/utf8.acceptRanges", laid_unicode_utf8_acceptRanges), ("strconv.ErrRange", laid_strconv_ErrRange), ("strconv.ErrSyntax", laid_strconv_ErrSyntax), ("interleave/event.names", laid_interleave_event_names), ("unicode/utf8.first", laid_unicode_utf8_first)] }
def EventTextSaid : Prop := eventTextRow.holds Tryd.pinned (OpenSpec.ofChange eventTextSpec)

/-- ITS FALSE NEIGHBOUR: 'it returns false'. Refute it at one input. -/
def eventTextWrong : ChangeSpec := { name := "eventText", fn := fun _ => fun
  | [d] => { results := [.lit (.bool false)], args := [d] }
  | _ => none }
def EventTextWrongFalsely : Prop := eventTextRow.holds Tryd.pinned (OpenSpec.ofChange eventTextWrong)

/-- 'interleavelaw20.EventReadInvertsText': WHATEVER THE INPUT: true; the input reads as it did. -/
def eventReadInvertsTextSpec : ChangeSpec := { name := "eventReadInvertsText", fn := fun _ => fun
  | [d] => { results := [.lit (.bool true)], args := [d] }
  | _ => none }
def eventReadInvertsTextRow : OpenClaim := { program := "ythnjbnfnljjepabdoor", sum := "0ecd07c3f6e2465ab24def048924988252c8d8f8a2b9717678911d5ca6086cd4", func := "interleave/interleavelaw20.EventReadInvertsText", spec := "eventReadInvertsText", inPlace := ["internal/bytealg.CountString", "internal/bytealg.IndexByteString", "internal/bytealg.IndexString", "internal/abi.NoEscape", "internal/bytealg.MakeNoZero"], unfollowed := true, recurses := true, named := ["unicode/utf8.first", "unicode/utf8.acceptRanges", "internal/bytealg.MaxLen", "strconv.ErrSyntax", "strconv.ErrRange", "internal/strconv.uint64pow10", "math/bits.deBruijn32tab", "math/bits.deBruijn64tab", "interleave/event.names"], apart := false, laid := [("math/bits.deBruijn32tab", laid_math_bits_deBruijn32tab), ("math/bits.deBruijn64tab", laid_math_bits_deBruijn64tab), ("internal/strconv.uint64pow10", laid_internal_strconv_uint64pow10), ("unicode/utf8.acceptRanges", laid_unicode_utf8_acceptRanges), ("strconv.ErrRange", laid_strconv_ErrRange), ("strconv.ErrSyntax", laid_strconv_ErrSyntax), ("interleave/event.names", laid_interleave_event_names), ("unicode/utf8.first", laid_unicode_utf8_first)] }
def EventReadInvertsTextSaid : Prop := eventReadInvertsTextRow.holds Tryd.pinned (OpenSpec.ofChange eventReadInvertsTextSpec)

/-- ITS FALSE NEIGHBOUR: 'it returns false'. Refute it at one input. -/
def eventReadInvertsTextWrong : ChangeSpec := { name := "eventReadInvertsText", fn := fun _ => fun
  | [d] => { results := [.lit (.bool false)], args := [d] }
  | _ => none }
def EventReadInvertsTextWrongFalsely : Prop := eventReadInvertsTextRow.holds Tryd.pinned (OpenSpec.ofChange eventReadInvertsTextWrong)

/-- 'interleavelaw20.EventReadAccepts': WHATEVER THE INPUT: true; the input reads as it did. -/
def eventReadAcceptsSpec : ChangeSpec := { name := "eventReadAccepts", fn := fun _ => fun
  | [d] => { results := [.lit (.bool true)], args := [d] }
  | _ => none }
def eventReadAcceptsRow : OpenClaim := { program := "ythnjbnfnljjepabdoor", sum := "0ecd07c3f6e2465ab24def048924988252c8d8f8a2b9717678911d5ca6086cd4", func := "interleave/interleavelaw20.EventReadAccepts", spec := "eventReadAccepts", inPlace := ["internal/bytealg.CountString", "internal/bytealg.IndexByteString", "internal/bytealg.IndexString", "internal/abi.NoEscape", "internal/bytealg.MakeNoZero"], unfollowed := true, recurses := true, named := ["unicode/utf8.first", "unicode/utf8.acceptRanges", "internal/bytealg.MaxLen", "strconv.ErrSyntax", "strconv.ErrRange", "internal/strconv.uint64pow10", "math/bits.deBruijn32tab", "math/bits.deBruijn64tab", "interleave/event.names"], apart := false, laid := [("math/bits.deBruijn32tab", laid_math_bits_deBruijn32tab), ("math/bits.deBruijn64tab", laid_math_bits_deBruijn64tab), ("internal/strconv.uint64pow10", laid_internal_strconv_uint64pow10), ("unicode/utf8.acceptRanges", laid_unicode_utf8_acceptRanges), ("strconv.ErrRange", laid_strconv_ErrRange), ("strconv.ErrSyntax", laid_strconv_ErrSyntax), ("interleave/event.names", laid_interleave_event_names), ("unicode/utf8.first", laid_unicode_utf8_first)] }
def EventReadAcceptsSaid : Prop := eventReadAcceptsRow.holds Tryd.pinned (OpenSpec.ofChange eventReadAcceptsSpec)

/-- ITS FALSE NEIGHBOUR: 'it returns false'. Refute it at one input. -/
def eventReadAcceptsWrong : ChangeSpec := { name := "eventReadAccepts", fn := fun _ => fun
  | [d] => { results := [.lit (.bool false)], args := [d] }
  | _ => none }
def EventReadAcceptsWrongFalsely : Prop := eventReadAcceptsRow.holds Tryd.pinned (OpenSpec.ofChange eventReadAcceptsWrong)

/-- 'interleavelaw20.EventConflict': WHATEVER THE INPUT: true; the input reads as it did. -/
def eventConflictSpec : ChangeSpec := { name := "eventConflict", fn := fun _ => fun
  | [d1, d2] => { results := [.lit (.bool true)], args := [d1, d2] }
  | _ => none }
def eventConflictRow : OpenClaim := { program := "ythnjbnfnljjepabdoor", sum := "0ecd07c3f6e2465ab24def048924988252c8d8f8a2b9717678911d5ca6086cd4", func := "interleave/interleavelaw20.EventConflict", spec := "eventConflict", inPlace := ["internal/bytealg.CountString", "internal/bytealg.IndexByteString", "internal/bytealg.IndexString", "internal/abi.NoEscape", "internal/bytealg.MakeNoZero"], unfollowed := true, recurses := true, named := ["unicode/utf8.first", "unicode/utf8.acceptRanges", "internal/bytealg.MaxLen", "strconv.ErrSyntax", "strconv.ErrRange", "internal/strconv.uint64pow10", "math/bits.deBruijn32tab", "math/bits.deBruijn64tab", "interleave/event.names"], apart := false, laid := [("math/bits.deBruijn32tab", laid_math_bits_deBruijn32tab), ("math/bits.deBruijn64tab", laid_math_bits_deBruijn64tab), ("internal/strconv.uint64pow10", laid_internal_strconv_uint64pow10), ("unicode/utf8.acceptRanges", laid_unicode_utf8_acceptRanges), ("strconv.ErrRange", laid_strconv_ErrRange), ("strconv.ErrSyntax", laid_strconv_ErrSyntax), ("interleave/event.names", laid_interleave_event_names), ("unicode/utf8.first", laid_unicode_utf8_first)] }
def EventConflictSaid : Prop := eventConflictRow.holds Tryd.pinned (OpenSpec.ofChange eventConflictSpec)

/-- ITS FALSE NEIGHBOUR: 'it returns false'. Refute it at one input. -/
def eventConflictWrong : ChangeSpec := { name := "eventConflict", fn := fun _ => fun
  | [d1, d2] => { results := [.lit (.bool false)], args := [d1, d2] }
  | _ => none }
def EventConflictWrongFalsely : Prop := eventConflictRow.holds Tryd.pinned (OpenSpec.ofChange eventConflictWrong)

/-- 'interleavelaw20.EventKinds': WHATEVER THE INPUT: true; the input reads as it did. -/
def eventKindsSpec : ChangeSpec := { name := "eventKinds", fn := fun _ => fun
  | [d] => { results := [.lit (.bool true)], args := [d] }
  | _ => none }
def eventKindsRow : OpenClaim := { program := "ythnjbnfnljjepabdoor", sum := "0ecd07c3f6e2465ab24def048924988252c8d8f8a2b9717678911d5ca6086cd4", func := "interleave/interleavelaw20.EventKinds", spec := "eventKinds", inPlace := ["internal/bytealg.CountString", "internal/bytealg.IndexByteString", "internal/bytealg.IndexString", "internal/abi.NoEscape", "internal/bytealg.MakeNoZero"], unfollowed := true, recurses := true, named := ["unicode/utf8.first", "unicode/utf8.acceptRanges", "internal/bytealg.MaxLen", "strconv.ErrSyntax", "strconv.ErrRange", "internal/strconv.uint64pow10", "math/bits.deBruijn32tab", "math/bits.deBruijn64tab", "interleave/event.names"], apart := false, laid := [("math/bits.deBruijn32tab", laid_math_bits_deBruijn32tab), ("math/bits.deBruijn64tab", laid_math_bits_deBruijn64tab), ("internal/strconv.uint64pow10", laid_internal_strconv_uint64pow10), ("unicode/utf8.acceptRanges", laid_unicode_utf8_acceptRanges), ("strconv.ErrRange", laid_strconv_ErrRange), ("strconv.ErrSyntax", laid_strconv_ErrSyntax), ("interleave/event.names", laid_interleave_event_names), ("unicode/utf8.first", laid_unicode_utf8_first)] }
def EventKindsSaid : Prop := eventKindsRow.holds Tryd.pinned (OpenSpec.ofChange eventKindsSpec)

/-- ITS FALSE NEIGHBOUR: 'it returns false'. Refute it at one input. -/
def eventKindsWrong : ChangeSpec := { name := "eventKinds", fn := fun _ => fun
  | [d] => { results := [.lit (.bool false)], args := [d] }
  | _ => none }
def EventKindsWrongFalsely : Prop := eventKindsRow.holds Tryd.pinned (OpenSpec.ofChange eventKindsWrong)

/-- 'interleavelaw20.EventMemoryApart': WHATEVER THE INPUT: true; the input reads as it did. -/
def eventMemoryApartSpec : ChangeSpec := { name := "eventMemoryApart", fn := fun _ => fun
  | [d] => { results := [.lit (.bool true)], args := [d] }
  | _ => none }
def eventMemoryApartRow : OpenClaim := { program := "ythnjbnfnljjepabdoor", sum := "0ecd07c3f6e2465ab24def048924988252c8d8f8a2b9717678911d5ca6086cd4", func := "interleave/interleavelaw20.EventMemoryApart", spec := "eventMemoryApart", inPlace := ["internal/bytealg.CountString", "internal/bytealg.IndexByteString", "internal/bytealg.IndexString", "internal/abi.NoEscape", "internal/bytealg.MakeNoZero"], unfollowed := true, recurses := true, named := ["unicode/utf8.first", "unicode/utf8.acceptRanges", "internal/bytealg.MaxLen", "strconv.ErrSyntax", "strconv.ErrRange", "internal/strconv.uint64pow10", "math/bits.deBruijn32tab", "math/bits.deBruijn64tab", "interleave/event.names"], apart := false, laid := [("math/bits.deBruijn32tab", laid_math_bits_deBruijn32tab), ("math/bits.deBruijn64tab", laid_math_bits_deBruijn64tab), ("internal/strconv.uint64pow10", laid_internal_strconv_uint64pow10), ("unicode/utf8.acceptRanges", laid_unicode_utf8_acceptRanges), ("strconv.ErrRange", laid_strconv_ErrRange), ("strconv.ErrSyntax", laid_strconv_ErrSyntax), ("interleave/event.names", laid_interleave_event_names), ("unicode/utf8.first", laid_unicode_utf8_first)] }
def EventMemoryApartSaid : Prop := eventMemoryApartRow.holds Tryd.pinned (OpenSpec.ofChange eventMemoryApartSpec)

/-- ITS FALSE NEIGHBOUR: 'it returns false'. Refute it at one input. -/
def eventMemoryApartWrong : ChangeSpec := { name := "eventMemoryApart", fn := fun _ => fun
  | [d] => { results := [.lit (.bool false)], args := [d] }
  | _ => none }
def EventMemoryApartWrongFalsely : Prop := eventMemoryApartRow.holds Tryd.pinned (OpenSpec.ofChange eventMemoryApartWrong)

/- THE SECOND FORM. 'bulk': how many values and letters a reading holds, each counted each time it is reached (what is shared counts as often as it is met; a slice's spare places count too). A statement '..UptoSaid' is the law's where the arguments, and the package variables that the reading takes, are together of bulk at most 1048576: NARROWER than '..Said'. Prove '..Said' where nothing that the law and all that it calls make is longer than what came in: it says more and counts as full. Else prove '..UptoSaid'. A law counts once. -/
mutual
def uptoBulk {H : Type} : DataW H → Nat
  | .lit (.string bytes) => bytes.length + 1
  | .lit _ => 1
  | .nil => 1
  | .ptr d => uptoBulk d + 1
  | .slice elems spare => uptoBulkAll elems + uptoBulkAll spare + 1
  | .agg parts => uptoBulkAll parts + 1
  | .iface _ d => uptoBulk d + 1
  | .map entries => uptoBulkEntries entries + 1
  | .held _ => 1
def uptoBulkAll {H : Type} : List (DataW H) → Nat
  | [] => 0
  | d :: r => uptoBulk d + uptoBulkAll r
def uptoBulkEntries {H : Type} : List (Lit × DataW H) → Nat
  | [] => 0
  | x :: r => uptoBulkEntry x + uptoBulkEntries r
def uptoBulkEntry {H : Type} : Lit × DataW H → Nat
  | (.string bytes, d) => bytes.length + uptoBulk d + 1
  | (_, d) => uptoBulk d + 1
 end
def uptoSmall : (H : Type) → List (DataW H) → Bool := fun _ ds => decide (uptoBulkAll ds ≤ 1048576)
def OpenSpec.upto (s : _root_.Go.ChangeSpec) : _root_.Go.OpenSpec := { _root_.Go.OpenSpec.ofChange s with cond := some uptoSmall }

/-- 'interleavelaw20.EventValid', WHERE WHAT IT READS IS OF BULK AT MOST 1048576: true; the input reads as it did. -/
def eventValidUptoRow : OpenClaim := { program := "ythnjbnfnljjepabdoor", sum := "0ecd07c3f6e2465ab24def048924988252c8d8f8a2b9717678911d5ca6086cd4", func := "interleave/interleavelaw20.EventValid", spec := "eventValid", inPlace := ["internal/bytealg.CountString", "internal/bytealg.IndexByteString", "internal/bytealg.IndexString", "internal/abi.NoEscape", "internal/bytealg.MakeNoZero"], unfollowed := true, recurses := true, named := ["unicode/utf8.first", "unicode/utf8.acceptRanges", "internal/bytealg.MaxLen", "strconv.ErrSyntax", "strconv.ErrRange", "internal/strconv.uint64pow10", "math/bits.deBruijn32tab", "math/bits.deBruijn64tab", "interleave/event.names"], apart := false, laid := [("math/bits.deBruijn32tab", laid_math_bits_deBruijn32tab), ("math/bits.deBruijn64tab", laid_math_bits_deBruijn64tab), ("internal/strconv.uint64pow10", laid_internal_strconv_uint64pow10), ("unicode/utf8.acceptRanges", laid_unicode_utf8_acceptRanges), ("strconv.ErrRange", laid_strconv_ErrRange), ("strconv.ErrSyntax", laid_strconv_ErrSyntax), ("interleave/event.names", laid_interleave_event_names), ("unicode/utf8.first", laid_unicode_utf8_first)], narrowed := true }
def EventValidUptoSaid : Prop := eventValidUptoRow.holds Tryd.pinned (OpenSpec.upto eventValidSpec)

/-- 'interleavelaw20.EventText', WHERE WHAT IT READS IS OF BULK AT MOST 1048576: true; the input reads as it did. -/
def eventTextUptoRow : OpenClaim := { program := "ythnjbnfnljjepabdoor", sum := "0ecd07c3f6e2465ab24def048924988252c8d8f8a2b9717678911d5ca6086cd4", func := "interleave/interleavelaw20.EventText", spec := "eventText", inPlace := ["internal/bytealg.CountString", "internal/bytealg.IndexByteString", "internal/bytealg.IndexString", "internal/abi.NoEscape", "internal/bytealg.MakeNoZero"], unfollowed := true, recurses := true, named := ["unicode/utf8.first", "unicode/utf8.acceptRanges", "internal/bytealg.MaxLen", "strconv.ErrSyntax", "strconv.ErrRange", "internal/strconv.uint64pow10", "math/bits.deBruijn32tab", "math/bits.deBruijn64tab", "interleave/event.names"], apart := false, laid := [("math/bits.deBruijn32tab", laid_math_bits_deBruijn32tab), ("math/bits.deBruijn64tab", laid_math_bits_deBruijn64tab), ("internal/strconv.uint64pow10", laid_internal_strconv_uint64pow10), ("unicode/utf8.acceptRanges", laid_unicode_utf8_acceptRanges), ("strconv.ErrRange", laid_strconv_ErrRange), ("strconv.ErrSyntax", laid_strconv_ErrSyntax), ("interleave/event.names", laid_interleave_event_names), ("unicode/utf8.first", laid_unicode_utf8_first)], narrowed := true }
def EventTextUptoSaid : Prop := eventTextUptoRow.holds Tryd.pinned (OpenSpec.upto eventTextSpec)

/-- 'interleavelaw20.EventReadInvertsText', WHERE WHAT IT READS IS OF BULK AT MOST 1048576: true; the input reads as it did. -/
def eventReadInvertsTextUptoRow : OpenClaim := { program := "ythnjbnfnljjepabdoor", sum := "0ecd07c3f6e2465ab24def048924988252c8d8f8a2b9717678911d5ca6086cd4", func := "interleave/interleavelaw20.EventReadInvertsText", spec := "eventReadInvertsText", inPlace := ["internal/bytealg.CountString", "internal/bytealg.IndexByteString", "internal/bytealg.IndexString", "internal/abi.NoEscape", "internal/bytealg.MakeNoZero"], unfollowed := true, recurses := true, named := ["unicode/utf8.first", "unicode/utf8.acceptRanges", "internal/bytealg.MaxLen", "strconv.ErrSyntax", "strconv.ErrRange", "internal/strconv.uint64pow10", "math/bits.deBruijn32tab", "math/bits.deBruijn64tab", "interleave/event.names"], apart := false, laid := [("math/bits.deBruijn32tab", laid_math_bits_deBruijn32tab), ("math/bits.deBruijn64tab", laid_math_bits_deBruijn64tab), ("internal/strconv.uint64pow10", laid_internal_strconv_uint64pow10), ("unicode/utf8.acceptRanges", laid_unicode_utf8_acceptRanges), ("strconv.ErrRange", laid_strconv_ErrRange), ("strconv.ErrSyntax", laid_strconv_ErrSyntax), ("interleave/event.names", laid_interleave_event_names), ("unicode/utf8.first", laid_unicode_utf8_first)], narrowed := true }
def EventReadInvertsTextUptoSaid : Prop := eventReadInvertsTextUptoRow.holds Tryd.pinned (OpenSpec.upto eventReadInvertsTextSpec)

/-- 'interleavelaw20.EventReadAccepts', WHERE WHAT IT READS IS OF BULK AT MOST 1048576: true; the input reads as it did. -/
def eventReadAcceptsUptoRow : OpenClaim := { program := "ythnjbnfnljjepabdoor", sum := "0ecd07c3f6e2465ab24def048924988252c8d8f8a2b9717678911d5ca6086cd4", func := "interleave/interleavelaw20.EventReadAccepts", spec := "eventReadAccepts", inPlace := ["internal/bytealg.CountString", "internal/bytealg.IndexByteString", "internal/bytealg.IndexString", "internal/abi.NoEscape", "internal/bytealg.MakeNoZero"], unfollowed := true, recurses := true, named := ["unicode/utf8.first", "unicode/utf8.acceptRanges", "internal/bytealg.MaxLen", "strconv.ErrSyntax", "strconv.ErrRange", "internal/strconv.uint64pow10", "math/bits.deBruijn32tab", "math/bits.deBruijn64tab", "interleave/event.names"], apart := false, laid := [("math/bits.deBruijn32tab", laid_math_bits_deBruijn32tab), ("math/bits.deBruijn64tab", laid_math_bits_deBruijn64tab), ("internal/strconv.uint64pow10", laid_internal_strconv_uint64pow10), ("unicode/utf8.acceptRanges", laid_unicode_utf8_acceptRanges), ("strconv.ErrRange", laid_strconv_ErrRange), ("strconv.ErrSyntax", laid_strconv_ErrSyntax), ("interleave/event.names", laid_interleave_event_names), ("unicode/utf8.first", laid_unicode_utf8_first)], narrowed := true }
def EventReadAcceptsUptoSaid : Prop := eventReadAcceptsUptoRow.holds Tryd.pinned (OpenSpec.upto eventReadAcceptsSpec)

/-- 'interleavelaw20.EventConflict', WHERE WHAT IT READS IS OF BULK AT MOST 1048576: true; the input reads as it did. -/
def eventConflictUptoRow : OpenClaim := { program := "ythnjbnfnljjepabdoor", sum := "0ecd07c3f6e2465ab24def048924988252c8d8f8a2b9717678911d5ca6086cd4", func := "interleave/interleavelaw20.EventConflict", spec := "eventConflict", inPlace := ["internal/bytealg.CountString", "internal/bytealg.IndexByteString", "internal/bytealg.IndexString", "internal/abi.NoEscape", "internal/bytealg.MakeNoZero"], unfollowed := true, recurses := true, named := ["unicode/utf8.first", "unicode/utf8.acceptRanges", "internal/bytealg.MaxLen", "strconv.ErrSyntax", "strconv.ErrRange", "internal/strconv.uint64pow10", "math/bits.deBruijn32tab", "math/bits.deBruijn64tab", "interleave/event.names"], apart := false, laid := [("math/bits.deBruijn32tab", laid_math_bits_deBruijn32tab), ("math/bits.deBruijn64tab", laid_math_bits_deBruijn64tab), ("internal/strconv.uint64pow10", laid_internal_strconv_uint64pow10), ("unicode/utf8.acceptRanges", laid_unicode_utf8_acceptRanges), ("strconv.ErrRange", laid_strconv_ErrRange), ("strconv.ErrSyntax", laid_strconv_ErrSyntax), ("interleave/event.names", laid_interleave_event_names), ("unicode/utf8.first", laid_unicode_utf8_first)], narrowed := true }
def EventConflictUptoSaid : Prop := eventConflictUptoRow.holds Tryd.pinned (OpenSpec.upto eventConflictSpec)

/-- 'interleavelaw20.EventKinds', WHERE WHAT IT READS IS OF BULK AT MOST 1048576: true; the input reads as it did. -/
def eventKindsUptoRow : OpenClaim := { program := "ythnjbnfnljjepabdoor", sum := "0ecd07c3f6e2465ab24def048924988252c8d8f8a2b9717678911d5ca6086cd4", func := "interleave/interleavelaw20.EventKinds", spec := "eventKinds", inPlace := ["internal/bytealg.CountString", "internal/bytealg.IndexByteString", "internal/bytealg.IndexString", "internal/abi.NoEscape", "internal/bytealg.MakeNoZero"], unfollowed := true, recurses := true, named := ["unicode/utf8.first", "unicode/utf8.acceptRanges", "internal/bytealg.MaxLen", "strconv.ErrSyntax", "strconv.ErrRange", "internal/strconv.uint64pow10", "math/bits.deBruijn32tab", "math/bits.deBruijn64tab", "interleave/event.names"], apart := false, laid := [("math/bits.deBruijn32tab", laid_math_bits_deBruijn32tab), ("math/bits.deBruijn64tab", laid_math_bits_deBruijn64tab), ("internal/strconv.uint64pow10", laid_internal_strconv_uint64pow10), ("unicode/utf8.acceptRanges", laid_unicode_utf8_acceptRanges), ("strconv.ErrRange", laid_strconv_ErrRange), ("strconv.ErrSyntax", laid_strconv_ErrSyntax), ("interleave/event.names", laid_interleave_event_names), ("unicode/utf8.first", laid_unicode_utf8_first)], narrowed := true }
def EventKindsUptoSaid : Prop := eventKindsUptoRow.holds Tryd.pinned (OpenSpec.upto eventKindsSpec)

/-- 'interleavelaw20.EventMemoryApart', WHERE WHAT IT READS IS OF BULK AT MOST 1048576: true; the input reads as it did. -/
def eventMemoryApartUptoRow : OpenClaim := { program := "ythnjbnfnljjepabdoor", sum := "0ecd07c3f6e2465ab24def048924988252c8d8f8a2b9717678911d5ca6086cd4", func := "interleave/interleavelaw20.EventMemoryApart", spec := "eventMemoryApart", inPlace := ["internal/bytealg.CountString", "internal/bytealg.IndexByteString", "internal/bytealg.IndexString", "internal/abi.NoEscape", "internal/bytealg.MakeNoZero"], unfollowed := true, recurses := true, named := ["unicode/utf8.first", "unicode/utf8.acceptRanges", "internal/bytealg.MaxLen", "strconv.ErrSyntax", "strconv.ErrRange", "internal/strconv.uint64pow10", "math/bits.deBruijn32tab", "math/bits.deBruijn64tab", "interleave/event.names"], apart := false, laid := [("math/bits.deBruijn32tab", laid_math_bits_deBruijn32tab), ("math/bits.deBruijn64tab", laid_math_bits_deBruijn64tab), ("internal/strconv.uint64pow10", laid_internal_strconv_uint64pow10), ("unicode/utf8.acceptRanges", laid_unicode_utf8_acceptRanges), ("strconv.ErrRange", laid_strconv_ErrRange), ("strconv.ErrSyntax", laid_strconv_ErrSyntax), ("interleave/event.names", laid_interleave_event_names), ("unicode/utf8.first", laid_unicode_utf8_first)], narrowed := true }
def EventMemoryApartUptoSaid : Prop := eventMemoryApartUptoRow.holds Tryd.pinned (OpenSpec.upto eventMemoryApartSpec)

end Rows
end Go.Proofs.YthnjbnfnljjepabDoor
