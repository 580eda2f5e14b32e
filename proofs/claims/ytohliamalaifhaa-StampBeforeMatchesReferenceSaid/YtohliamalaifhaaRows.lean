/-
  No cell of these rows narrows 'for every input' (looked for: loops, veiled, ifaces, maps, wideKeys, modest, calm, conditions, laid).
  DERIVED. THE GIVEN ROWS OF THIS SEAT. 6 by the template 'for every input the law returns true; each argument reads behind the call as it read before'; 0 by the template 'total and deterministic' (their statements: YtohliamalaifhaaTotals.lean).
  GIVEN WITH THE SEED: the statements are not yours to turn. If you find one false, say at which input.
  Laid BY PROGRAM, IN A SANDBOX (cutbox-rows.mjs): the forced cells as the released guide's own fill.sh prints them over the translation 7d930426bd218ead… (all of the seat's roots in one cut). By AI agents, Wed Nov 11 2026. No macro, syntax, notation, axiom, sorry.
-/
import Derived.Test.YtohliamalaifhaaChecked
import GoSem.Claim
import GoSem.ClaimJoined
import GoSem.ClaimMapViews
import Derived.JoinedTies
import Derived.KernelRfl
namespace Go.Proofs.Ytohliamalaifhaa
/- THE CELL 'sum', in the pinned program and in every row, IS THE sha256 OF THE DUMP (.gsa) THAT YtohliamalaifhaaProg.lean LOADS. Nothing in Lean hashes anything: it is a label: what it is worth is what the hold of that sum in a sandbox is worth. -/
noncomputable def Try.pinned : Pinned := { name := "ytohliamalaifhaa", sum := "7d930426bd218eaddba285af6987dc41520ff0f3ec3f86dc0691a38b29bd3185", checked := Try.checked }
namespace Rows
def none {H : Type} : Left H := { results := [], args := [] }

/-- 'interleavelaw35.StampMatchesReference': WHATEVER THE INPUT: true; the input reads as it did. -/
def stampMatchesReferenceSpec : ChangeSpec := { name := "stampMatchesReference", fn := fun _ => fun
  | [d] => { results := [.lit (.bool true)], args := [d] }
  | _ => none }
def stampMatchesReferenceRow : OpenClaim := { program := "ytohliamalaifhaa", sum := "7d930426bd218eaddba285af6987dc41520ff0f3ec3f86dc0691a38b29bd3185", func := "interleave/interleavelaw35.StampMatchesReference", spec := "stampMatchesReference", plainKeys := false, apart := false }
def StampMatchesReferenceSaid : Prop := stampMatchesReferenceRow.holds Try.pinned (OpenSpec.ofChange stampMatchesReferenceSpec)

/-- ITS FALSE NEIGHBOUR: 'it returns false'. Refute it at one input. -/
def stampMatchesReferenceWrong : ChangeSpec := { name := "stampMatchesReference", fn := fun _ => fun
  | [d] => { results := [.lit (.bool false)], args := [d] }
  | _ => none }
def StampMatchesReferenceWrongFalsely : Prop := stampMatchesReferenceRow.holds Try.pinned (OpenSpec.ofChange stampMatchesReferenceWrong)

/-- 'interleavelaw35.StampCharacterizesOrder': WHATEVER THE INPUT: true; the input reads as it did. -/
def stampCharacterizesOrderSpec : ChangeSpec := { name := "stampCharacterizesOrder", fn := fun _ => fun
  | [d] => { results := [.lit (.bool true)], args := [d] }
  | _ => none }
def stampCharacterizesOrderRow : OpenClaim := { program := "ytohliamalaifhaa", sum := "7d930426bd218eaddba285af6987dc41520ff0f3ec3f86dc0691a38b29bd3185", func := "interleave/interleavelaw35.StampCharacterizesOrder", spec := "stampCharacterizesOrder", plainKeys := false, apart := false }
def StampCharacterizesOrderSaid : Prop := stampCharacterizesOrderRow.holds Try.pinned (OpenSpec.ofChange stampCharacterizesOrderSpec)

/-- ITS FALSE NEIGHBOUR: 'it returns false'. Refute it at one input. -/
def stampCharacterizesOrderWrong : ChangeSpec := { name := "stampCharacterizesOrder", fn := fun _ => fun
  | [d] => { results := [.lit (.bool false)], args := [d] }
  | _ => none }
def StampCharacterizesOrderWrongFalsely : Prop := stampCharacterizesOrderRow.holds Try.pinned (OpenSpec.ofChange stampCharacterizesOrderWrong)

/-- 'interleavelaw35.StampCountsOwnEvents': WHATEVER THE INPUT: true; the input reads as it did. -/
def stampCountsOwnEventsSpec : ChangeSpec := { name := "stampCountsOwnEvents", fn := fun _ => fun
  | [d] => { results := [.lit (.bool true)], args := [d] }
  | _ => none }
def stampCountsOwnEventsRow : OpenClaim := { program := "ytohliamalaifhaa", sum := "7d930426bd218eaddba285af6987dc41520ff0f3ec3f86dc0691a38b29bd3185", func := "interleave/interleavelaw35.StampCountsOwnEvents", spec := "stampCountsOwnEvents", plainKeys := false, apart := false }
def StampCountsOwnEventsSaid : Prop := stampCountsOwnEventsRow.holds Try.pinned (OpenSpec.ofChange stampCountsOwnEventsSpec)

/-- ITS FALSE NEIGHBOUR: 'it returns false'. Refute it at one input. -/
def stampCountsOwnEventsWrong : ChangeSpec := { name := "stampCountsOwnEvents", fn := fun _ => fun
  | [d] => { results := [.lit (.bool false)], args := [d] }
  | _ => none }
def StampCountsOwnEventsWrongFalsely : Prop := stampCountsOwnEventsRow.holds Try.pinned (OpenSpec.ofChange stampCountsOwnEventsWrong)

/-- 'interleavelaw35.StampPrefix': WHATEVER THE INPUT: true; the input reads as it did. -/
def stampPrefixSpec : ChangeSpec := { name := "stampPrefix", fn := fun _ => fun
  | [d1, d2] => { results := [.lit (.bool true)], args := [d1, d2] }
  | _ => none }
def stampPrefixRow : OpenClaim := { program := "ytohliamalaifhaa", sum := "7d930426bd218eaddba285af6987dc41520ff0f3ec3f86dc0691a38b29bd3185", func := "interleave/interleavelaw35.StampPrefix", spec := "stampPrefix", plainKeys := false, apart := false }
def StampPrefixSaid : Prop := stampPrefixRow.holds Try.pinned (OpenSpec.ofChange stampPrefixSpec)

/-- ITS FALSE NEIGHBOUR: 'it returns false'. Refute it at one input. -/
def stampPrefixWrong : ChangeSpec := { name := "stampPrefix", fn := fun _ => fun
  | [d1, d2] => { results := [.lit (.bool false)], args := [d1, d2] }
  | _ => none }
def StampPrefixWrongFalsely : Prop := stampPrefixRow.holds Try.pinned (OpenSpec.ofChange stampPrefixWrong)

/-- 'interleavelaw35.StampAcquires': WHATEVER THE INPUT: true; the input reads as it did. -/
def stampAcquiresSpec : ChangeSpec := { name := "stampAcquires", fn := fun _ => fun
  | [d] => { results := [.lit (.bool true)], args := [d] }
  | _ => none }
def stampAcquiresRow : OpenClaim := { program := "ytohliamalaifhaa", sum := "7d930426bd218eaddba285af6987dc41520ff0f3ec3f86dc0691a38b29bd3185", func := "interleave/interleavelaw35.StampAcquires", spec := "stampAcquires", plainKeys := false, apart := false }
def StampAcquiresSaid : Prop := stampAcquiresRow.holds Try.pinned (OpenSpec.ofChange stampAcquiresSpec)

/-- ITS FALSE NEIGHBOUR: 'it returns false'. Refute it at one input. -/
def stampAcquiresWrong : ChangeSpec := { name := "stampAcquires", fn := fun _ => fun
  | [d] => { results := [.lit (.bool false)], args := [d] }
  | _ => none }
def StampAcquiresWrongFalsely : Prop := stampAcquiresRow.holds Try.pinned (OpenSpec.ofChange stampAcquiresWrong)

/-- 'interleavelaw35.StampBeforeMatchesReference': WHATEVER THE INPUT: true; the input reads as it did. -/
def stampBeforeMatchesReferenceSpec : ChangeSpec := { name := "stampBeforeMatchesReference", fn := fun _ => fun
  | [d1, d2, d3] => { results := [.lit (.bool true)], args := [d1, d2, d3] }
  | _ => none }
def stampBeforeMatchesReferenceRow : OpenClaim := { program := "ytohliamalaifhaa", sum := "7d930426bd218eaddba285af6987dc41520ff0f3ec3f86dc0691a38b29bd3185", func := "interleave/interleavelaw35.StampBeforeMatchesReference", spec := "stampBeforeMatchesReference", plainKeys := false, apart := false }
def StampBeforeMatchesReferenceSaid : Prop := stampBeforeMatchesReferenceRow.holds Try.pinned (OpenSpec.ofChange stampBeforeMatchesReferenceSpec)

/-- ITS FALSE NEIGHBOUR: 'it returns false'. Refute it at one input. -/
def stampBeforeMatchesReferenceWrong : ChangeSpec := { name := "stampBeforeMatchesReference", fn := fun _ => fun
  | [d1, d2, d3] => { results := [.lit (.bool false)], args := [d1, d2, d3] }
  | _ => none }
def StampBeforeMatchesReferenceWrongFalsely : Prop := stampBeforeMatchesReferenceRow.holds Try.pinned (OpenSpec.ofChange stampBeforeMatchesReferenceWrong)

/- THE SECOND FORM. 'bulk': how many values and letters a reading holds, each counted each time it is reached (what is shared counts as often as it is met; a slice's spare places count too). A statement '..UptoSaid' is the law's where the arguments, and the package variables that the reading takes, are together of bulk at most 1048576: NARROWER than '..Said'. Prove '..Said' where nothing that the law and all that it calls make is longer than what came in: it says more and counts as full. Else prove '..UptoSaid'. A law counts once. -/
mutual
def uptoBulk {H : Type} : DataW H → Nat
  | .lit (.string bytes) => bytes.length + 1
  | .lit _ => 1
  | .nil => 1
  | .ptr d => uptoBulk d + 1
  | .slice elems spare => uptoBulkAll elems + uptoBulkAll spare + 1
  | .agg parts => uptoBulkAll parts + 1
  | .iface _ d => uptoBulk d + 1
  | .map entries => uptoBulkEntries entries + 1
  | .held _ => 1
def uptoBulkAll {H : Type} : List (DataW H) → Nat
  | [] => 0
  | d :: r => uptoBulk d + uptoBulkAll r
def uptoBulkEntries {H : Type} : List (Lit × DataW H) → Nat
  | [] => 0
  | x :: r => uptoBulkEntry x + uptoBulkEntries r
def uptoBulkEntry {H : Type} : Lit × DataW H → Nat
  | (.string bytes, d) => bytes.length + uptoBulk d + 1
  | (_, d) => uptoBulk d + 1
 end
def uptoSmall : (H : Type) → List (DataW H) → Bool := fun _ ds => decide (uptoBulkAll ds ≤ 1048576)
def OpenSpec.upto (s : _root_.Go.ChangeSpec) : _root_.Go.OpenSpec := { _root_.Go.OpenSpec.ofChange s with cond := some uptoSmall }

/-- 'interleavelaw35.StampMatchesReference', WHERE WHAT IT READS IS OF BULK AT MOST 1048576: true; the input reads as it did. -/
def stampMatchesReferenceUptoRow : OpenClaim := { program := "ytohliamalaifhaa", sum := "7d930426bd218eaddba285af6987dc41520ff0f3ec3f86dc0691a38b29bd3185", func := "interleave/interleavelaw35.StampMatchesReference", spec := "stampMatchesReference", plainKeys := false, apart := false, narrowed := true }
def StampMatchesReferenceUptoSaid : Prop := stampMatchesReferenceUptoRow.holds Try.pinned (OpenSpec.upto stampMatchesReferenceSpec)

/-- 'interleavelaw35.StampCharacterizesOrder', WHERE WHAT IT READS IS OF BULK AT MOST 1048576: true; the input reads as it did. -/
def stampCharacterizesOrderUptoRow : OpenClaim := { program := "ytohliamalaifhaa", sum := "7d930426bd218eaddba285af6987dc41520ff0f3ec3f86dc0691a38b29bd3185", func := "interleave/interleavelaw35.StampCharacterizesOrder", spec := "stampCharacterizesOrder", plainKeys := false, apart := false, narrowed := true }
def StampCharacterizesOrderUptoSaid : Prop := stampCharacterizesOrderUptoRow.holds Try.pinned (OpenSpec.upto stampCharacterizesOrderSpec)

/-- 'interleavelaw35.StampCountsOwnEvents', WHERE WHAT IT READS IS OF BULK AT MOST 1048576: true; the input reads as it did. -/
def stampCountsOwnEventsUptoRow : OpenClaim := { program := "ytohliamalaifhaa", sum := "7d930426bd218eaddba285af6987dc41520ff0f3ec3f86dc0691a38b29bd3185", func := "interleave/interleavelaw35.StampCountsOwnEvents", spec := "stampCountsOwnEvents", plainKeys := false, apart := false, narrowed := true }
def StampCountsOwnEventsUptoSaid : Prop := stampCountsOwnEventsUptoRow.holds Try.pinned (OpenSpec.upto stampCountsOwnEventsSpec)

/-- 'interleavelaw35.StampPrefix', WHERE WHAT IT READS IS OF BULK AT MOST 1048576: true; the input reads as it did. -/
def stampPrefixUptoRow : OpenClaim := { program := "ytohliamalaifhaa", sum := "7d930426bd218eaddba285af6987dc41520ff0f3ec3f86dc0691a38b29bd3185", func := "interleave/interleavelaw35.StampPrefix", spec := "stampPrefix", plainKeys := false, apart := false, narrowed := true }
def StampPrefixUptoSaid : Prop := stampPrefixUptoRow.holds Try.pinned (OpenSpec.upto stampPrefixSpec)

/-- 'interleavelaw35.StampAcquires', WHERE WHAT IT READS IS OF BULK AT MOST 1048576: true; the input reads as it did. -/
def stampAcquiresUptoRow : OpenClaim := { program := "ytohliamalaifhaa", sum := "7d930426bd218eaddba285af6987dc41520ff0f3ec3f86dc0691a38b29bd3185", func := "interleave/interleavelaw35.StampAcquires", spec := "stampAcquires", plainKeys := false, apart := false, narrowed := true }
def StampAcquiresUptoSaid : Prop := stampAcquiresUptoRow.holds Try.pinned (OpenSpec.upto stampAcquiresSpec)

/-- 'interleavelaw35.StampBeforeMatchesReference', WHERE WHAT IT READS IS OF BULK AT MOST 1048576: true; the input reads as it did. -/
def stampBeforeMatchesReferenceUptoRow : OpenClaim := { program := "ytohliamalaifhaa", sum := "7d930426bd218eaddba285af6987dc41520ff0f3ec3f86dc0691a38b29bd3185", func := "interleave/interleavelaw35.StampBeforeMatchesReference", spec := "stampBeforeMatchesReference", plainKeys := false, apart := false, narrowed := true }
def StampBeforeMatchesReferenceUptoSaid : Prop := stampBeforeMatchesReferenceUptoRow.holds Try.pinned (OpenSpec.upto stampBeforeMatchesReferenceSpec)

end Rows
end Go.Proofs.Ytohliamalaifhaa
