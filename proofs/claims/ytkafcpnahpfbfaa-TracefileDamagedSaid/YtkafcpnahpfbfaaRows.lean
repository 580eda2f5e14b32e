/-
  No cell of these rows narrows 'for every input' (looked for: loops, veiled, ifaces, maps, wideKeys, modest, calm, conditions, laid).
  DERIVED. THE GIVEN ROWS OF THIS SEAT. 7 by the template 'for every input the law returns true; each argument reads behind the call as it read before'; 0 by the template 'total and deterministic' (their statements: YtkafcpnahpfbfaaTotals.lean).
  GIVEN WITH THE SEED: the statements are not yours to turn. If you find one false, say at which input.
  Laid BY PROGRAM, IN A SANDBOX (cutbox-rows.mjs): the forced cells as the released guide's own fill.sh prints them over the translation 295f1d46cd03368b… (all of the seat's roots in one cut). By AI agents, Wed Nov 11 2026. No macro, syntax, notation, axiom, sorry.
-/
import Derived.Test.YtkafcpnahpfbfaaChecked
import GoSem.Claim
import GoSem.ClaimJoined
import GoSem.ClaimMapViews
import Derived.JoinedTies
import Derived.KernelRfl
namespace Go.Proofs.Ytkafcpnahpfbfaa
/- THE CELL 'sum', in the pinned program and in every row, IS THE sha256 OF THE DUMP (.gsa) THAT YtkafcpnahpfbfaaProg.lean LOADS. Nothing in Lean hashes anything: it is a label: what it is worth is what the hold of that sum in a sandbox is worth. -/
noncomputable def Try.pinned : Pinned := { name := "ytkafcpnahpfbfaa", sum := "295f1d46cd03368b1d0f638b6e1548de7fb215c845305f44223f59a9cf25d2e6", checked := Try.checked }
namespace Rows
def none {H : Type} : Left H := { results := [], args := [] }

/-- 'interleavelaw31.TracefileEncode': WHATEVER THE INPUT: true; the input reads as it did. -/
def tracefileEncodeSpec : ChangeSpec := { name := "tracefileEncode", fn := fun _ => fun
  | [d] => { results := [.lit (.bool true)], args := [d] }
  | _ => none }
def tracefileEncodeRow : OpenClaim := { program := "ytkafcpnahpfbfaa", sum := "295f1d46cd03368b1d0f638b6e1548de7fb215c845305f44223f59a9cf25d2e6", func := "interleave/interleavelaw31.TracefileEncode", spec := "tracefileEncode", unfollowed := true, recurses := true, plainKeys := false, apart := false }
def TracefileEncodeSaid : Prop := tracefileEncodeRow.holds Try.pinned (OpenSpec.ofChange tracefileEncodeSpec)

/-- ITS FALSE NEIGHBOUR: 'it returns false'. Refute it at one input. -/
def tracefileEncodeWrong : ChangeSpec := { name := "tracefileEncode", fn := fun _ => fun
  | [d] => { results := [.lit (.bool false)], args := [d] }
  | _ => none }
def TracefileEncodeWrongFalsely : Prop := tracefileEncodeRow.holds Try.pinned (OpenSpec.ofChange tracefileEncodeWrong)

/-- 'interleavelaw31.TracefileRecover': WHATEVER THE INPUT: true; the input reads as it did. -/
def tracefileRecoverSpec : ChangeSpec := { name := "tracefileRecover", fn := fun _ => fun
  | [d] => { results := [.lit (.bool true)], args := [d] }
  | _ => none }
def tracefileRecoverRow : OpenClaim := { program := "ytkafcpnahpfbfaa", sum := "295f1d46cd03368b1d0f638b6e1548de7fb215c845305f44223f59a9cf25d2e6", func := "interleave/interleavelaw31.TracefileRecover", spec := "tracefileRecover", unfollowed := true, recurses := true, plainKeys := false, apart := false }
def TracefileRecoverSaid : Prop := tracefileRecoverRow.holds Try.pinned (OpenSpec.ofChange tracefileRecoverSpec)

/-- ITS FALSE NEIGHBOUR: 'it returns false'. Refute it at one input. -/
def tracefileRecoverWrong : ChangeSpec := { name := "tracefileRecover", fn := fun _ => fun
  | [d] => { results := [.lit (.bool false)], args := [d] }
  | _ => none }
def TracefileRecoverWrongFalsely : Prop := tracefileRecoverRow.holds Try.pinned (OpenSpec.ofChange tracefileRecoverWrong)

/-- 'interleavelaw31.TracefileDecode': WHATEVER THE INPUT: true; the input reads as it did. -/
def tracefileDecodeSpec : ChangeSpec := { name := "tracefileDecode", fn := fun _ => fun
  | [d] => { results := [.lit (.bool true)], args := [d] }
  | _ => none }
def tracefileDecodeRow : OpenClaim := { program := "ytkafcpnahpfbfaa", sum := "295f1d46cd03368b1d0f638b6e1548de7fb215c845305f44223f59a9cf25d2e6", func := "interleave/interleavelaw31.TracefileDecode", spec := "tracefileDecode", unfollowed := true, recurses := true, plainKeys := false, apart := false }
def TracefileDecodeSaid : Prop := tracefileDecodeRow.holds Try.pinned (OpenSpec.ofChange tracefileDecodeSpec)

/-- ITS FALSE NEIGHBOUR: 'it returns false'. Refute it at one input. -/
def tracefileDecodeWrong : ChangeSpec := { name := "tracefileDecode", fn := fun _ => fun
  | [d] => { results := [.lit (.bool false)], args := [d] }
  | _ => none }
def TracefileDecodeWrongFalsely : Prop := tracefileDecodeRow.holds Try.pinned (OpenSpec.ofChange tracefileDecodeWrong)

/-- 'interleavelaw31.TracefileOnlyFiles': WHATEVER THE INPUT: true; the input reads as it did. -/
def tracefileOnlyFilesSpec : ChangeSpec := { name := "tracefileOnlyFiles", fn := fun _ => fun
  | [d] => { results := [.lit (.bool true)], args := [d] }
  | _ => none }
def tracefileOnlyFilesRow : OpenClaim := { program := "ytkafcpnahpfbfaa", sum := "295f1d46cd03368b1d0f638b6e1548de7fb215c845305f44223f59a9cf25d2e6", func := "interleave/interleavelaw31.TracefileOnlyFiles", spec := "tracefileOnlyFiles", unfollowed := true, recurses := true, plainKeys := false, apart := false }
def TracefileOnlyFilesSaid : Prop := tracefileOnlyFilesRow.holds Try.pinned (OpenSpec.ofChange tracefileOnlyFilesSpec)

/-- ITS FALSE NEIGHBOUR: 'it returns false'. Refute it at one input. -/
def tracefileOnlyFilesWrong : ChangeSpec := { name := "tracefileOnlyFiles", fn := fun _ => fun
  | [d] => { results := [.lit (.bool false)], args := [d] }
  | _ => none }
def TracefileOnlyFilesWrongFalsely : Prop := tracefileOnlyFilesRow.holds Try.pinned (OpenSpec.ofChange tracefileOnlyFilesWrong)

/-- 'interleavelaw31.TracefileBack': WHATEVER THE INPUT: true; the input reads as it did. -/
def tracefileBackSpec : ChangeSpec := { name := "tracefileBack", fn := fun _ => fun
  | [d] => { results := [.lit (.bool true)], args := [d] }
  | _ => none }
def tracefileBackRow : OpenClaim := { program := "ytkafcpnahpfbfaa", sum := "295f1d46cd03368b1d0f638b6e1548de7fb215c845305f44223f59a9cf25d2e6", func := "interleave/interleavelaw31.TracefileBack", spec := "tracefileBack", unfollowed := true, recurses := true, plainKeys := false, apart := false }
def TracefileBackSaid : Prop := tracefileBackRow.holds Try.pinned (OpenSpec.ofChange tracefileBackSpec)

/-- ITS FALSE NEIGHBOUR: 'it returns false'. Refute it at one input. -/
def tracefileBackWrong : ChangeSpec := { name := "tracefileBack", fn := fun _ => fun
  | [d] => { results := [.lit (.bool false)], args := [d] }
  | _ => none }
def TracefileBackWrongFalsely : Prop := tracefileBackRow.holds Try.pinned (OpenSpec.ofChange tracefileBackWrong)

/-- 'interleavelaw31.TracefileTruncated': WHATEVER THE INPUT: true; the input reads as it did. -/
def tracefileTruncatedSpec : ChangeSpec := { name := "tracefileTruncated", fn := fun _ => fun
  | [d1, d2] => { results := [.lit (.bool true)], args := [d1, d2] }
  | _ => none }
def tracefileTruncatedRow : OpenClaim := { program := "ytkafcpnahpfbfaa", sum := "295f1d46cd03368b1d0f638b6e1548de7fb215c845305f44223f59a9cf25d2e6", func := "interleave/interleavelaw31.TracefileTruncated", spec := "tracefileTruncated", unfollowed := true, recurses := true, plainKeys := false, apart := false }
def TracefileTruncatedSaid : Prop := tracefileTruncatedRow.holds Try.pinned (OpenSpec.ofChange tracefileTruncatedSpec)

/-- ITS FALSE NEIGHBOUR: 'it returns false'. Refute it at one input. -/
def tracefileTruncatedWrong : ChangeSpec := { name := "tracefileTruncated", fn := fun _ => fun
  | [d1, d2] => { results := [.lit (.bool false)], args := [d1, d2] }
  | _ => none }
def TracefileTruncatedWrongFalsely : Prop := tracefileTruncatedRow.holds Try.pinned (OpenSpec.ofChange tracefileTruncatedWrong)

/-- 'interleavelaw31.TracefileDamaged': WHATEVER THE INPUT: true; the input reads as it did. -/
def tracefileDamagedSpec : ChangeSpec := { name := "tracefileDamaged", fn := fun _ => fun
  | [d1, d2, d3] => { results := [.lit (.bool true)], args := [d1, d2, d3] }
  | _ => none }
def tracefileDamagedRow : OpenClaim := { program := "ytkafcpnahpfbfaa", sum := "295f1d46cd03368b1d0f638b6e1548de7fb215c845305f44223f59a9cf25d2e6", func := "interleave/interleavelaw31.TracefileDamaged", spec := "tracefileDamaged", unfollowed := true, recurses := true, plainKeys := false, apart := false }
def TracefileDamagedSaid : Prop := tracefileDamagedRow.holds Try.pinned (OpenSpec.ofChange tracefileDamagedSpec)

/-- ITS FALSE NEIGHBOUR: 'it returns false'. Refute it at one input. -/
def tracefileDamagedWrong : ChangeSpec := { name := "tracefileDamaged", fn := fun _ => fun
  | [d1, d2, d3] => { results := [.lit (.bool false)], args := [d1, d2, d3] }
  | _ => none }
def TracefileDamagedWrongFalsely : Prop := tracefileDamagedRow.holds Try.pinned (OpenSpec.ofChange tracefileDamagedWrong)

/- THE SECOND FORM. 'bulk': how many values and letters a reading holds, each counted each time it is reached (what is shared counts as often as it is met; a slice's spare places count too). A statement '..UptoSaid' is the law's where the arguments, and the package variables that the reading takes, are together of bulk at most 1048576: NARROWER than '..Said'. Prove '..Said' where nothing that the law and all that it calls make is longer than what came in: it says more and counts as full. Else prove '..UptoSaid'. A law counts once. -/
mutual
def uptoBulk {H : Type} : DataW H → Nat
  | .lit (.string bytes) => bytes.length + 1
  | .lit _ => 1
  | .nil => 1
  | .ptr d => uptoBulk d + 1
  | .slice elems spare => uptoBulkAll elems + uptoBulkAll spare + 1
  | .agg parts => uptoBulkAll parts + 1
  | .iface _ d => uptoBulk d + 1
  | .map entries => uptoBulkEntries entries + 1
  | .held _ => 1
def uptoBulkAll {H : Type} : List (DataW H) → Nat
  | [] => 0
  | d :: r => uptoBulk d + uptoBulkAll r
def uptoBulkEntries {H : Type} : List (Lit × DataW H) → Nat
  | [] => 0
  | x :: r => uptoBulkEntry x + uptoBulkEntries r
def uptoBulkEntry {H : Type} : Lit × DataW H → Nat
  | (.string bytes, d) => bytes.length + uptoBulk d + 1
  | (_, d) => uptoBulk d + 1
 end
def uptoSmall : (H : Type) → List (DataW H) → Bool := fun _ ds => decide (uptoBulkAll ds ≤ 1048576)
def OpenSpec.upto (s : _root_.Go.ChangeSpec) : _root_.Go.OpenSpec := { _root_.Go.OpenSpec.ofChange s with cond := some uptoSmall }

/-- 'interleavelaw31.TracefileEncode', WHERE WHAT IT READS IS OF BULK AT MOST 1048576: true; the input reads as it did. -/
def tracefileEncodeUptoRow : OpenClaim := { program := "ytkafcpnahpfbfaa", sum := "295f1d46cd03368b1d0f638b6e1548de7fb215c845305f44223f59a9cf25d2e6", func := "interleave/interleavelaw31.TracefileEncode", spec := "tracefileEncode", unfollowed := true, recurses := true, plainKeys := false, apart := false, narrowed := true }
def TracefileEncodeUptoSaid : Prop := tracefileEncodeUptoRow.holds Try.pinned (OpenSpec.upto tracefileEncodeSpec)

/-- 'interleavelaw31.TracefileRecover', WHERE WHAT IT READS IS OF BULK AT MOST 1048576: true; the input reads as it did. -/
def tracefileRecoverUptoRow : OpenClaim := { program := "ytkafcpnahpfbfaa", sum := "295f1d46cd03368b1d0f638b6e1548de7fb215c845305f44223f59a9cf25d2e6", func := "interleave/interleavelaw31.TracefileRecover", spec := "tracefileRecover", unfollowed := true, recurses := true, plainKeys := false, apart := false, narrowed := true }
def TracefileRecoverUptoSaid : Prop := tracefileRecoverUptoRow.holds Try.pinned (OpenSpec.upto tracefileRecoverSpec)

/-- 'interleavelaw31.TracefileDecode', WHERE WHAT IT READS IS OF BULK AT MOST 1048576: true; the input reads as it did. -/
def tracefileDecodeUptoRow : OpenClaim := { program := "ytkafcpnahpfbfaa", sum := "295f1d46cd03368b1d0f638b6e1548de7fb215c845305f44223f59a9cf25d2e6", func := "interleave/interleavelaw31.TracefileDecode", spec := "tracefileDecode", unfollowed := true, recurses := true, plainKeys := false, apart := false, narrowed := true }
def TracefileDecodeUptoSaid : Prop := tracefileDecodeUptoRow.holds Try.pinned (OpenSpec.upto tracefileDecodeSpec)

/-- 'interleavelaw31.TracefileOnlyFiles', WHERE WHAT IT READS IS OF BULK AT MOST 1048576: true; the input reads as it did. -/
def tracefileOnlyFilesUptoRow : OpenClaim := { program := "ytkafcpnahpfbfaa", sum := "295f1d46cd03368b1d0f638b6e1548de7fb215c845305f44223f59a9cf25d2e6", func := "interleave/interleavelaw31.TracefileOnlyFiles", spec := "tracefileOnlyFiles", unfollowed := true, recurses := true, plainKeys := false, apart := false, narrowed := true }
def TracefileOnlyFilesUptoSaid : Prop := tracefileOnlyFilesUptoRow.holds Try.pinned (OpenSpec.upto tracefileOnlyFilesSpec)

/-- 'interleavelaw31.TracefileBack', WHERE WHAT IT READS IS OF BULK AT MOST 1048576: true; the input reads as it did. -/
def tracefileBackUptoRow : OpenClaim := { program := "ytkafcpnahpfbfaa", sum := "295f1d46cd03368b1d0f638b6e1548de7fb215c845305f44223f59a9cf25d2e6", func := "interleave/interleavelaw31.TracefileBack", spec := "tracefileBack", unfollowed := true, recurses := true, plainKeys := false, apart := false, narrowed := true }
def TracefileBackUptoSaid : Prop := tracefileBackUptoRow.holds Try.pinned (OpenSpec.upto tracefileBackSpec)

/-- 'interleavelaw31.TracefileTruncated', WHERE WHAT IT READS IS OF BULK AT MOST 1048576: true; the input reads as it did. -/
def tracefileTruncatedUptoRow : OpenClaim := { program := "ytkafcpnahpfbfaa", sum := "295f1d46cd03368b1d0f638b6e1548de7fb215c845305f44223f59a9cf25d2e6", func := "interleave/interleavelaw31.TracefileTruncated", spec := "tracefileTruncated", unfollowed := true, recurses := true, plainKeys := false, apart := false, narrowed := true }
def TracefileTruncatedUptoSaid : Prop := tracefileTruncatedUptoRow.holds Try.pinned (OpenSpec.upto tracefileTruncatedSpec)

/-- 'interleavelaw31.TracefileDamaged', WHERE WHAT IT READS IS OF BULK AT MOST 1048576: true; the input reads as it did. -/
def tracefileDamagedUptoRow : OpenClaim := { program := "ytkafcpnahpfbfaa", sum := "295f1d46cd03368b1d0f638b6e1548de7fb215c845305f44223f59a9cf25d2e6", func := "interleave/interleavelaw31.TracefileDamaged", spec := "tracefileDamaged", unfollowed := true, recurses := true, plainKeys := false, apart := false, narrowed := true }
def TracefileDamagedUptoSaid : Prop := tracefileDamagedUptoRow.holds Try.pinned (OpenSpec.upto tracefileDamagedSpec)

end Rows
end Go.Proofs.Ytkafcpnahpfbfaa
