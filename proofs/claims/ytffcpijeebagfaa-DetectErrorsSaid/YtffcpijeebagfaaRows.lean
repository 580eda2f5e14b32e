/-
  No cell of these rows narrows 'for every input' (looked for: loops, veiled, ifaces, maps, wideKeys, modest, calm, conditions, laid).
  DERIVED. THE GIVEN ROWS OF THIS SEAT. 15 by the template 'for every input the law returns true; each argument reads behind the call as it read before'; 0 by the template 'total and deterministic' (their statements: YtffcpijeebagfaaTotals.lean).
  GIVEN WITH THE SEED: the statements are not yours to turn. If you find one false, say at which input.
  Laid BY PROGRAM, IN A SANDBOX (cutbox-rows.mjs): the forced cells as the released guide's own fill.sh prints them over the translation 092e555cd141afef… (all of the seat's roots in one cut). By AI agents, Wed Nov 11 2026. No macro, syntax, notation, axiom, sorry.
-/
import Derived.Test.YtffcpijeebagfaaChecked
import GoSem.Claim
import GoSem.ClaimJoined
import GoSem.ClaimMapViews
import Derived.JoinedTies
import Derived.KernelRfl
namespace Go.Proofs.Ytffcpijeebagfaa
/- THE CELL 'sum', in the pinned program and in every row, IS THE sha256 OF THE DUMP (.gsa) THAT YtffcpijeebagfaaProg.lean LOADS. Nothing in Lean hashes anything: it is a label: what it is worth is what the hold of that sum in a sandbox is worth. -/
noncomputable def Try.pinned : Pinned := { name := "ytffcpijeebagfaa", sum := "092e555cd141afef4e25a562dc873f35bc6e7556e64a4978df9259ec8f510039", checked := Try.checked }
namespace Rows
def none {H : Type} : Left H := { results := [], args := [] }

/-- 'interleavelaw30.TraceClone': WHATEVER THE INPUT: true; the input reads as it did. -/
def traceCloneSpec : ChangeSpec := { name := "traceClone", fn := fun _ => fun
  | [d1, d2] => { results := [.lit (.bool true)], args := [d1, d2] }
  | _ => none }
def traceCloneRow : OpenClaim := { program := "ytffcpijeebagfaa", sum := "092e555cd141afef4e25a562dc873f35bc6e7556e64a4978df9259ec8f510039", func := "interleave/interleavelaw30.TraceClone", spec := "traceClone", inPlace := ["maps.clone"], plainKeys := false, apart := false }
def TraceCloneSaid : Prop := traceCloneRow.holds Try.pinned (OpenSpec.ofChange traceCloneSpec)

/-- ITS FALSE NEIGHBOUR: 'it returns false'. Refute it at one input. -/
def traceCloneWrong : ChangeSpec := { name := "traceClone", fn := fun _ => fun
  | [d1, d2] => { results := [.lit (.bool false)], args := [d1, d2] }
  | _ => none }
def TraceCloneWrongFalsely : Prop := traceCloneRow.holds Try.pinned (OpenSpec.ofChange traceCloneWrong)

/-- 'interleavelaw37.SyncsStamps': WHATEVER THE INPUT: true; the input reads as it did. -/
def syncsStampsSpec : ChangeSpec := { name := "syncsStamps", fn := fun _ => fun
  | [d] => { results := [.lit (.bool true)], args := [d] }
  | _ => none }
def syncsStampsRow : OpenClaim := { program := "ytffcpijeebagfaa", sum := "092e555cd141afef4e25a562dc873f35bc6e7556e64a4978df9259ec8f510039", func := "interleave/interleavelaw37.SyncsStamps", spec := "syncsStamps", unfollowed := true, recurses := true, plainKeys := false, apart := false }
def SyncsStampsSaid : Prop := syncsStampsRow.holds Try.pinned (OpenSpec.ofChange syncsStampsSpec)

/-- ITS FALSE NEIGHBOUR: 'it returns false'. Refute it at one input. -/
def syncsStampsWrong : ChangeSpec := { name := "syncsStamps", fn := fun _ => fun
  | [d] => { results := [.lit (.bool false)], args := [d] }
  | _ => none }
def SyncsStampsWrongFalsely : Prop := syncsStampsRow.holds Try.pinned (OpenSpec.ofChange syncsStampsWrong)

/-- 'interleavelaw37.SyncsBuffered': WHATEVER THE INPUT: true; the input reads as it did. -/
def syncsBufferedSpec : ChangeSpec := { name := "syncsBuffered", fn := fun _ => fun
  | [d] => { results := [.lit (.bool true)], args := [d] }
  | _ => none }
def syncsBufferedRow : OpenClaim := { program := "ytffcpijeebagfaa", sum := "092e555cd141afef4e25a562dc873f35bc6e7556e64a4978df9259ec8f510039", func := "interleave/interleavelaw37.SyncsBuffered", spec := "syncsBuffered", unfollowed := true, recurses := true, plainKeys := false, apart := false }
def SyncsBufferedSaid : Prop := syncsBufferedRow.holds Try.pinned (OpenSpec.ofChange syncsBufferedSpec)

/-- ITS FALSE NEIGHBOUR: 'it returns false'. Refute it at one input. -/
def syncsBufferedWrong : ChangeSpec := { name := "syncsBuffered", fn := fun _ => fun
  | [d] => { results := [.lit (.bool false)], args := [d] }
  | _ => none }
def SyncsBufferedWrongFalsely : Prop := syncsBufferedRow.holds Try.pinned (OpenSpec.ofChange syncsBufferedWrong)

/-- 'interleavelaw37.SyncsDecides': WHATEVER THE INPUT: true; the input reads as it did. -/
def syncsDecidesSpec : ChangeSpec := { name := "syncsDecides", fn := fun _ => fun
  | [d1, d2, d3] => { results := [.lit (.bool true)], args := [d1, d2, d3] }
  | _ => none }
def syncsDecidesRow : OpenClaim := { program := "ytffcpijeebagfaa", sum := "092e555cd141afef4e25a562dc873f35bc6e7556e64a4978df9259ec8f510039", func := "interleave/interleavelaw37.SyncsDecides", spec := "syncsDecides", unfollowed := true, recurses := true, plainKeys := false, apart := false }
def SyncsDecidesSaid : Prop := syncsDecidesRow.holds Try.pinned (OpenSpec.ofChange syncsDecidesSpec)

/-- ITS FALSE NEIGHBOUR: 'it returns false'. Refute it at one input. -/
def syncsDecidesWrong : ChangeSpec := { name := "syncsDecides", fn := fun _ => fun
  | [d1, d2, d3] => { results := [.lit (.bool false)], args := [d1, d2, d3] }
  | _ => none }
def SyncsDecidesWrongFalsely : Prop := syncsDecidesRow.holds Try.pinned (OpenSpec.ofChange syncsDecidesWrong)

/-- 'interleavelaw37.SyncsGrow': WHATEVER THE INPUT: true; the input reads as it did. -/
def syncsGrowSpec : ChangeSpec := { name := "syncsGrow", fn := fun _ => fun
  | [d1, d2] => { results := [.lit (.bool true)], args := [d1, d2] }
  | _ => none }
def syncsGrowRow : OpenClaim := { program := "ytffcpijeebagfaa", sum := "092e555cd141afef4e25a562dc873f35bc6e7556e64a4978df9259ec8f510039", func := "interleave/interleavelaw37.SyncsGrow", spec := "syncsGrow", unfollowed := true, recurses := true, plainKeys := false, apart := false }
def SyncsGrowSaid : Prop := syncsGrowRow.holds Try.pinned (OpenSpec.ofChange syncsGrowSpec)

/-- ITS FALSE NEIGHBOUR: 'it returns false'. Refute it at one input. -/
def syncsGrowWrong : ChangeSpec := { name := "syncsGrow", fn := fun _ => fun
  | [d1, d2] => { results := [.lit (.bool false)], args := [d1, d2] }
  | _ => none }
def SyncsGrowWrongFalsely : Prop := syncsGrowRow.holds Try.pinned (OpenSpec.ofChange syncsGrowWrong)

/-- 'interleavelaw37.SyncsErrors': WHATEVER THE INPUT: true; the input reads as it did. -/
def syncsErrorsSpec : ChangeSpec := { name := "syncsErrors", fn := fun _ => fun
  | [d1, d2] => { results := [.lit (.bool true)], args := [d1, d2] }
  | _ => none }
def syncsErrorsRow : OpenClaim := { program := "ytffcpijeebagfaa", sum := "092e555cd141afef4e25a562dc873f35bc6e7556e64a4978df9259ec8f510039", func := "interleave/interleavelaw37.SyncsErrors", spec := "syncsErrors", unfollowed := true, recurses := true, plainKeys := false, apart := false }
def SyncsErrorsSaid : Prop := syncsErrorsRow.holds Try.pinned (OpenSpec.ofChange syncsErrorsSpec)

/-- ITS FALSE NEIGHBOUR: 'it returns false'. Refute it at one input. -/
def syncsErrorsWrong : ChangeSpec := { name := "syncsErrors", fn := fun _ => fun
  | [d1, d2] => { results := [.lit (.bool false)], args := [d1, d2] }
  | _ => none }
def SyncsErrorsWrongFalsely : Prop := syncsErrorsRow.holds Try.pinned (OpenSpec.ofChange syncsErrorsWrong)

/-- 'interleavelaw37.SyncsClocks': WHATEVER THE INPUT: true; the input reads as it did. -/
def syncsClocksSpec : ChangeSpec := { name := "syncsClocks", fn := fun _ => fun
  | [d1, d2] => { results := [.lit (.bool true)], args := [d1, d2] }
  | _ => none }
def syncsClocksRow : OpenClaim := { program := "ytffcpijeebagfaa", sum := "092e555cd141afef4e25a562dc873f35bc6e7556e64a4978df9259ec8f510039", func := "interleave/interleavelaw37.SyncsClocks", spec := "syncsClocks", unfollowed := true, recurses := true, plainKeys := false, apart := false }
def SyncsClocksSaid : Prop := syncsClocksRow.holds Try.pinned (OpenSpec.ofChange syncsClocksSpec)

/-- ITS FALSE NEIGHBOUR: 'it returns false'. Refute it at one input. -/
def syncsClocksWrong : ChangeSpec := { name := "syncsClocks", fn := fun _ => fun
  | [d1, d2] => { results := [.lit (.bool false)], args := [d1, d2] }
  | _ => none }
def SyncsClocksWrongFalsely : Prop := syncsClocksRow.holds Try.pinned (OpenSpec.ofChange syncsClocksWrong)

/-- 'interleavelaw37.SyncsClone': WHATEVER THE INPUT: true; the input reads as it did. -/
def syncsCloneSpec : ChangeSpec := { name := "syncsClone", fn := fun _ => fun
  | [d1, d2] => { results := [.lit (.bool true)], args := [d1, d2] }
  | _ => none }
def syncsCloneRow : OpenClaim := { program := "ytffcpijeebagfaa", sum := "092e555cd141afef4e25a562dc873f35bc6e7556e64a4978df9259ec8f510039", func := "interleave/interleavelaw37.SyncsClone", spec := "syncsClone", inPlace := ["maps.clone"], unfollowed := true, recurses := true, plainKeys := false, apart := false }
def SyncsCloneSaid : Prop := syncsCloneRow.holds Try.pinned (OpenSpec.ofChange syncsCloneSpec)

/-- ITS FALSE NEIGHBOUR: 'it returns false'. Refute it at one input. -/
def syncsCloneWrong : ChangeSpec := { name := "syncsClone", fn := fun _ => fun
  | [d1, d2] => { results := [.lit (.bool false)], args := [d1, d2] }
  | _ => none }
def SyncsCloneWrongFalsely : Prop := syncsCloneRow.holds Try.pinned (OpenSpec.ofChange syncsCloneWrong)

/-- 'interleavelaw38.DetectDefinition': WHATEVER THE INPUT: true; the input reads as it did. -/
def detectDefinitionSpec : ChangeSpec := { name := "detectDefinition", fn := fun _ => fun
  | [d] => { results := [.lit (.bool true)], args := [d] }
  | _ => none }
def detectDefinitionRow : OpenClaim := { program := "ytffcpijeebagfaa", sum := "092e555cd141afef4e25a562dc873f35bc6e7556e64a4978df9259ec8f510039", func := "interleave/interleavelaw38.DetectDefinition", spec := "detectDefinition", unfollowed := true, recurses := true, plainKeys := false, apart := false }
def DetectDefinitionSaid : Prop := detectDefinitionRow.holds Try.pinned (OpenSpec.ofChange detectDefinitionSpec)

/-- ITS FALSE NEIGHBOUR: 'it returns false'. Refute it at one input. -/
def detectDefinitionWrong : ChangeSpec := { name := "detectDefinition", fn := fun _ => fun
  | [d] => { results := [.lit (.bool false)], args := [d] }
  | _ => none }
def DetectDefinitionWrongFalsely : Prop := detectDefinitionRow.holds Try.pinned (OpenSpec.ofChange detectDefinitionWrong)

/-- 'interleavelaw38.DetectErrors': WHATEVER THE INPUT: true; the input reads as it did. -/
def detectErrorsSpec : ChangeSpec := { name := "detectErrors", fn := fun _ => fun
  | [d1, d2, d3] => { results := [.lit (.bool true)], args := [d1, d2, d3] }
  | _ => none }
def detectErrorsRow : OpenClaim := { program := "ytffcpijeebagfaa", sum := "092e555cd141afef4e25a562dc873f35bc6e7556e64a4978df9259ec8f510039", func := "interleave/interleavelaw38.DetectErrors", spec := "detectErrors", unfollowed := true, recurses := true, plainKeys := false, apart := false }
def DetectErrorsSaid : Prop := detectErrorsRow.holds Try.pinned (OpenSpec.ofChange detectErrorsSpec)

/-- ITS FALSE NEIGHBOUR: 'it returns false'. Refute it at one input. -/
def detectErrorsWrong : ChangeSpec := { name := "detectErrors", fn := fun _ => fun
  | [d1, d2, d3] => { results := [.lit (.bool false)], args := [d1, d2, d3] }
  | _ => none }
def DetectErrorsWrongFalsely : Prop := detectErrorsRow.holds Try.pinned (OpenSpec.ofChange detectErrorsWrong)

/-- 'interleavelaw38.DetectRetained': WHATEVER THE INPUT: true; the input reads as it did. -/
def detectRetainedSpec : ChangeSpec := { name := "detectRetained", fn := fun _ => fun
  | [d] => { results := [.lit (.bool true)], args := [d] }
  | _ => none }
def detectRetainedRow : OpenClaim := { program := "ytffcpijeebagfaa", sum := "092e555cd141afef4e25a562dc873f35bc6e7556e64a4978df9259ec8f510039", func := "interleave/interleavelaw38.DetectRetained", spec := "detectRetained", unfollowed := true, recurses := true, plainKeys := false, apart := false }
def DetectRetainedSaid : Prop := detectRetainedRow.holds Try.pinned (OpenSpec.ofChange detectRetainedSpec)

/-- ITS FALSE NEIGHBOUR: 'it returns false'. Refute it at one input. -/
def detectRetainedWrong : ChangeSpec := { name := "detectRetained", fn := fun _ => fun
  | [d] => { results := [.lit (.bool false)], args := [d] }
  | _ => none }
def DetectRetainedWrongFalsely : Prop := detectRetainedRow.holds Try.pinned (OpenSpec.ofChange detectRetainedWrong)

/-- 'interleavelaw38.DetectSettled': WHATEVER THE INPUT: true; the input reads as it did. -/
def detectSettledSpec : ChangeSpec := { name := "detectSettled", fn := fun _ => fun
  | [d1, d2] => { results := [.lit (.bool true)], args := [d1, d2] }
  | _ => none }
def detectSettledRow : OpenClaim := { program := "ytffcpijeebagfaa", sum := "092e555cd141afef4e25a562dc873f35bc6e7556e64a4978df9259ec8f510039", func := "interleave/interleavelaw38.DetectSettled", spec := "detectSettled", unfollowed := true, recurses := true, plainKeys := false, apart := false }
def DetectSettledSaid : Prop := detectSettledRow.holds Try.pinned (OpenSpec.ofChange detectSettledSpec)

/-- ITS FALSE NEIGHBOUR: 'it returns false'. Refute it at one input. -/
def detectSettledWrong : ChangeSpec := { name := "detectSettled", fn := fun _ => fun
  | [d1, d2] => { results := [.lit (.bool false)], args := [d1, d2] }
  | _ => none }
def DetectSettledWrongFalsely : Prop := detectSettledRow.holds Try.pinned (OpenSpec.ofChange detectSettledWrong)

/-- 'interleavelaw38.DetectRaces': WHATEVER THE INPUT: true; the input reads as it did. -/
def detectRacesSpec : ChangeSpec := { name := "detectRaces", fn := fun _ => fun
  | [d] => { results := [.lit (.bool true)], args := [d] }
  | _ => none }
def detectRacesRow : OpenClaim := { program := "ytffcpijeebagfaa", sum := "092e555cd141afef4e25a562dc873f35bc6e7556e64a4978df9259ec8f510039", func := "interleave/interleavelaw38.DetectRaces", spec := "detectRaces", unfollowed := true, recurses := true, plainKeys := false, apart := false }
def DetectRacesSaid : Prop := detectRacesRow.holds Try.pinned (OpenSpec.ofChange detectRacesSpec)

/-- ITS FALSE NEIGHBOUR: 'it returns false'. Refute it at one input. -/
def detectRacesWrong : ChangeSpec := { name := "detectRaces", fn := fun _ => fun
  | [d] => { results := [.lit (.bool false)], args := [d] }
  | _ => none }
def DetectRacesWrongFalsely : Prop := detectRacesRow.holds Try.pinned (OpenSpec.ofChange detectRacesWrong)

/-- 'interleavelaw38.DetectPrefix': WHATEVER THE INPUT: true; the input reads as it did. -/
def detectPrefixSpec : ChangeSpec := { name := "detectPrefix", fn := fun _ => fun
  | [d1, d2] => { results := [.lit (.bool true)], args := [d1, d2] }
  | _ => none }
def detectPrefixRow : OpenClaim := { program := "ytffcpijeebagfaa", sum := "092e555cd141afef4e25a562dc873f35bc6e7556e64a4978df9259ec8f510039", func := "interleave/interleavelaw38.DetectPrefix", spec := "detectPrefix", unfollowed := true, recurses := true, plainKeys := false, apart := false }
def DetectPrefixSaid : Prop := detectPrefixRow.holds Try.pinned (OpenSpec.ofChange detectPrefixSpec)

/-- ITS FALSE NEIGHBOUR: 'it returns false'. Refute it at one input. -/
def detectPrefixWrong : ChangeSpec := { name := "detectPrefix", fn := fun _ => fun
  | [d1, d2] => { results := [.lit (.bool false)], args := [d1, d2] }
  | _ => none }
def DetectPrefixWrongFalsely : Prop := detectPrefixRow.holds Try.pinned (OpenSpec.ofChange detectPrefixWrong)

/-- 'interleavelaw38.DetectAlone': WHATEVER THE INPUT: true; the input reads as it did. -/
def detectAloneSpec : ChangeSpec := { name := "detectAlone", fn := fun _ => fun
  | [d1, d2] => { results := [.lit (.bool true)], args := [d1, d2] }
  | _ => none }
def detectAloneRow : OpenClaim := { program := "ytffcpijeebagfaa", sum := "092e555cd141afef4e25a562dc873f35bc6e7556e64a4978df9259ec8f510039", func := "interleave/interleavelaw38.DetectAlone", spec := "detectAlone", unfollowed := true, recurses := true, plainKeys := false, apart := false }
def DetectAloneSaid : Prop := detectAloneRow.holds Try.pinned (OpenSpec.ofChange detectAloneSpec)

/-- ITS FALSE NEIGHBOUR: 'it returns false'. Refute it at one input. -/
def detectAloneWrong : ChangeSpec := { name := "detectAlone", fn := fun _ => fun
  | [d1, d2] => { results := [.lit (.bool false)], args := [d1, d2] }
  | _ => none }
def DetectAloneWrongFalsely : Prop := detectAloneRow.holds Try.pinned (OpenSpec.ofChange detectAloneWrong)

/- THE SECOND FORM. 'bulk': how many values and letters a reading holds, each counted each time it is reached (what is shared counts as often as it is met; a slice's spare places count too). A statement '..UptoSaid' is the law's where the arguments, and the package variables that the reading takes, are together of bulk at most 1048576: NARROWER than '..Said'. Prove '..Said' where nothing that the law and all that it calls make is longer than what came in: it says more and counts as full. Else prove '..UptoSaid'. A law counts once. -/
mutual
def uptoBulk {H : Type} : DataW H → Nat
  | .lit (.string bytes) => bytes.length + 1
  | .lit _ => 1
  | .nil => 1
  | .ptr d => uptoBulk d + 1
  | .slice elems spare => uptoBulkAll elems + uptoBulkAll spare + 1
  | .agg parts => uptoBulkAll parts + 1
  | .iface _ d => uptoBulk d + 1
  | .map entries => uptoBulkEntries entries + 1
  | .held _ => 1
def uptoBulkAll {H : Type} : List (DataW H) → Nat
  | [] => 0
  | d :: r => uptoBulk d + uptoBulkAll r
def uptoBulkEntries {H : Type} : List (Lit × DataW H) → Nat
  | [] => 0
  | x :: r => uptoBulkEntry x + uptoBulkEntries r
def uptoBulkEntry {H : Type} : Lit × DataW H → Nat
  | (.string bytes, d) => bytes.length + uptoBulk d + 1
  | (_, d) => uptoBulk d + 1
 end
def uptoSmall : (H : Type) → List (DataW H) → Bool := fun _ ds => decide (uptoBulkAll ds ≤ 1048576)
def OpenSpec.upto (s : _root_.Go.ChangeSpec) : _root_.Go.OpenSpec := { _root_.Go.OpenSpec.ofChange s with cond := some uptoSmall }

/-- 'interleavelaw30.TraceClone', WHERE WHAT IT READS IS OF BULK AT MOST 1048576: true; the input reads as it did. -/
def traceCloneUptoRow : OpenClaim := { program := "ytffcpijeebagfaa", sum := "092e555cd141afef4e25a562dc873f35bc6e7556e64a4978df9259ec8f510039", func := "interleave/interleavelaw30.TraceClone", spec := "traceClone", inPlace := ["maps.clone"], plainKeys := false, apart := false, narrowed := true }
def TraceCloneUptoSaid : Prop := traceCloneUptoRow.holds Try.pinned (OpenSpec.upto traceCloneSpec)

/-- 'interleavelaw37.SyncsStamps', WHERE WHAT IT READS IS OF BULK AT MOST 1048576: true; the input reads as it did. -/
def syncsStampsUptoRow : OpenClaim := { program := "ytffcpijeebagfaa", sum := "092e555cd141afef4e25a562dc873f35bc6e7556e64a4978df9259ec8f510039", func := "interleave/interleavelaw37.SyncsStamps", spec := "syncsStamps", unfollowed := true, recurses := true, plainKeys := false, apart := false, narrowed := true }
def SyncsStampsUptoSaid : Prop := syncsStampsUptoRow.holds Try.pinned (OpenSpec.upto syncsStampsSpec)

/-- 'interleavelaw37.SyncsBuffered', WHERE WHAT IT READS IS OF BULK AT MOST 1048576: true; the input reads as it did. -/
def syncsBufferedUptoRow : OpenClaim := { program := "ytffcpijeebagfaa", sum := "092e555cd141afef4e25a562dc873f35bc6e7556e64a4978df9259ec8f510039", func := "interleave/interleavelaw37.SyncsBuffered", spec := "syncsBuffered", unfollowed := true, recurses := true, plainKeys := false, apart := false, narrowed := true }
def SyncsBufferedUptoSaid : Prop := syncsBufferedUptoRow.holds Try.pinned (OpenSpec.upto syncsBufferedSpec)

/-- 'interleavelaw37.SyncsDecides', WHERE WHAT IT READS IS OF BULK AT MOST 1048576: true; the input reads as it did. -/
def syncsDecidesUptoRow : OpenClaim := { program := "ytffcpijeebagfaa", sum := "092e555cd141afef4e25a562dc873f35bc6e7556e64a4978df9259ec8f510039", func := "interleave/interleavelaw37.SyncsDecides", spec := "syncsDecides", unfollowed := true, recurses := true, plainKeys := false, apart := false, narrowed := true }
def SyncsDecidesUptoSaid : Prop := syncsDecidesUptoRow.holds Try.pinned (OpenSpec.upto syncsDecidesSpec)

/-- 'interleavelaw37.SyncsGrow', WHERE WHAT IT READS IS OF BULK AT MOST 1048576: true; the input reads as it did. -/
def syncsGrowUptoRow : OpenClaim := { program := "ytffcpijeebagfaa", sum := "092e555cd141afef4e25a562dc873f35bc6e7556e64a4978df9259ec8f510039", func := "interleave/interleavelaw37.SyncsGrow", spec := "syncsGrow", unfollowed := true, recurses := true, plainKeys := false, apart := false, narrowed := true }
def SyncsGrowUptoSaid : Prop := syncsGrowUptoRow.holds Try.pinned (OpenSpec.upto syncsGrowSpec)

/-- 'interleavelaw37.SyncsErrors', WHERE WHAT IT READS IS OF BULK AT MOST 1048576: true; the input reads as it did. -/
def syncsErrorsUptoRow : OpenClaim := { program := "ytffcpijeebagfaa", sum := "092e555cd141afef4e25a562dc873f35bc6e7556e64a4978df9259ec8f510039", func := "interleave/interleavelaw37.SyncsErrors", spec := "syncsErrors", unfollowed := true, recurses := true, plainKeys := false, apart := false, narrowed := true }
def SyncsErrorsUptoSaid : Prop := syncsErrorsUptoRow.holds Try.pinned (OpenSpec.upto syncsErrorsSpec)

/-- 'interleavelaw37.SyncsClocks', WHERE WHAT IT READS IS OF BULK AT MOST 1048576: true; the input reads as it did. -/
def syncsClocksUptoRow : OpenClaim := { program := "ytffcpijeebagfaa", sum := "092e555cd141afef4e25a562dc873f35bc6e7556e64a4978df9259ec8f510039", func := "interleave/interleavelaw37.SyncsClocks", spec := "syncsClocks", unfollowed := true, recurses := true, plainKeys := false, apart := false, narrowed := true }
def SyncsClocksUptoSaid : Prop := syncsClocksUptoRow.holds Try.pinned (OpenSpec.upto syncsClocksSpec)

/-- 'interleavelaw37.SyncsClone', WHERE WHAT IT READS IS OF BULK AT MOST 1048576: true; the input reads as it did. -/
def syncsCloneUptoRow : OpenClaim := { program := "ytffcpijeebagfaa", sum := "092e555cd141afef4e25a562dc873f35bc6e7556e64a4978df9259ec8f510039", func := "interleave/interleavelaw37.SyncsClone", spec := "syncsClone", inPlace := ["maps.clone"], unfollowed := true, recurses := true, plainKeys := false, apart := false, narrowed := true }
def SyncsCloneUptoSaid : Prop := syncsCloneUptoRow.holds Try.pinned (OpenSpec.upto syncsCloneSpec)

/-- 'interleavelaw38.DetectDefinition', WHERE WHAT IT READS IS OF BULK AT MOST 1048576: true; the input reads as it did. -/
def detectDefinitionUptoRow : OpenClaim := { program := "ytffcpijeebagfaa", sum := "092e555cd141afef4e25a562dc873f35bc6e7556e64a4978df9259ec8f510039", func := "interleave/interleavelaw38.DetectDefinition", spec := "detectDefinition", unfollowed := true, recurses := true, plainKeys := false, apart := false, narrowed := true }
def DetectDefinitionUptoSaid : Prop := detectDefinitionUptoRow.holds Try.pinned (OpenSpec.upto detectDefinitionSpec)

/-- 'interleavelaw38.DetectErrors', WHERE WHAT IT READS IS OF BULK AT MOST 1048576: true; the input reads as it did. -/
def detectErrorsUptoRow : OpenClaim := { program := "ytffcpijeebagfaa", sum := "092e555cd141afef4e25a562dc873f35bc6e7556e64a4978df9259ec8f510039", func := "interleave/interleavelaw38.DetectErrors", spec := "detectErrors", unfollowed := true, recurses := true, plainKeys := false, apart := false, narrowed := true }
def DetectErrorsUptoSaid : Prop := detectErrorsUptoRow.holds Try.pinned (OpenSpec.upto detectErrorsSpec)

/-- 'interleavelaw38.DetectRetained', WHERE WHAT IT READS IS OF BULK AT MOST 1048576: true; the input reads as it did. -/
def detectRetainedUptoRow : OpenClaim := { program := "ytffcpijeebagfaa", sum := "092e555cd141afef4e25a562dc873f35bc6e7556e64a4978df9259ec8f510039", func := "interleave/interleavelaw38.DetectRetained", spec := "detectRetained", unfollowed := true, recurses := true, plainKeys := false, apart := false, narrowed := true }
def DetectRetainedUptoSaid : Prop := detectRetainedUptoRow.holds Try.pinned (OpenSpec.upto detectRetainedSpec)

/-- 'interleavelaw38.DetectSettled', WHERE WHAT IT READS IS OF BULK AT MOST 1048576: true; the input reads as it did. -/
def detectSettledUptoRow : OpenClaim := { program := "ytffcpijeebagfaa", sum := "092e555cd141afef4e25a562dc873f35bc6e7556e64a4978df9259ec8f510039", func := "interleave/interleavelaw38.DetectSettled", spec := "detectSettled", unfollowed := true, recurses := true, plainKeys := false, apart := false, narrowed := true }
def DetectSettledUptoSaid : Prop := detectSettledUptoRow.holds Try.pinned (OpenSpec.upto detectSettledSpec)

/-- 'interleavelaw38.DetectRaces', WHERE WHAT IT READS IS OF BULK AT MOST 1048576: true; the input reads as it did. -/
def detectRacesUptoRow : OpenClaim := { program := "ytffcpijeebagfaa", sum := "092e555cd141afef4e25a562dc873f35bc6e7556e64a4978df9259ec8f510039", func := "interleave/interleavelaw38.DetectRaces", spec := "detectRaces", unfollowed := true, recurses := true, plainKeys := false, apart := false, narrowed := true }
def DetectRacesUptoSaid : Prop := detectRacesUptoRow.holds Try.pinned (OpenSpec.upto detectRacesSpec)

/-- 'interleavelaw38.DetectPrefix', WHERE WHAT IT READS IS OF BULK AT MOST 1048576: true; the input reads as it did. -/
def detectPrefixUptoRow : OpenClaim := { program := "ytffcpijeebagfaa", sum := "092e555cd141afef4e25a562dc873f35bc6e7556e64a4978df9259ec8f510039", func := "interleave/interleavelaw38.DetectPrefix", spec := "detectPrefix", unfollowed := true, recurses := true, plainKeys := false, apart := false, narrowed := true }
def DetectPrefixUptoSaid : Prop := detectPrefixUptoRow.holds Try.pinned (OpenSpec.upto detectPrefixSpec)

/-- 'interleavelaw38.DetectAlone', WHERE WHAT IT READS IS OF BULK AT MOST 1048576: true; the input reads as it did. -/
def detectAloneUptoRow : OpenClaim := { program := "ytffcpijeebagfaa", sum := "092e555cd141afef4e25a562dc873f35bc6e7556e64a4978df9259ec8f510039", func := "interleave/interleavelaw38.DetectAlone", spec := "detectAlone", unfollowed := true, recurses := true, plainKeys := false, apart := false, narrowed := true }
def DetectAloneUptoSaid : Prop := detectAloneUptoRow.holds Try.pinned (OpenSpec.upto detectAloneSpec)

end Rows
end Go.Proofs.Ytffcpijeebagfaa
