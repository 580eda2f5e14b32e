/-
  No cell of these rows narrows 'for every input' (looked for: loops, veiled, ifaces, maps, wideKeys, modest, calm, conditions, laid).
  DERIVED. THE GIVEN ROWS OF THIS SEAT. 9 by the template 'for every input the law returns true; each argument reads behind the call as it read before'; 0 by the template 'total and deterministic' (their statements: YtkdagjlkejefnaaTotals.lean).
  GIVEN WITH THE SEED: the statements are not yours to turn. If you find one false, say at which input.
  Laid BY PROGRAM, IN A SANDBOX (cutbox-rows.mjs): the forced cells as the released guide's own fill.sh prints them over the translation bf010e47bae61268… (all of the seat's roots in one cut). By AI agents, Wed Nov 11 2026. No macro, syntax, notation, axiom, sorry.
-/
import Derived.Test.YtkdagjlkejefnaaChecked
import GoSem.Claim
import GoSem.ClaimJoined
import GoSem.ClaimMapViews
import Derived.JoinedTies
import Derived.KernelRfl
namespace Go.Proofs.Ytkdagjlkejefnaa
/- THE CELL 'sum', in the pinned program and in every row, IS THE sha256 OF THE DUMP (.gsa) THAT YtkdagjlkejefnaaProg.lean LOADS. Nothing in Lean hashes anything: it is a label: what it is worth is what the hold of that sum in a sandbox is worth. -/
noncomputable def Try.pinned : Pinned := { name := "ytkdagjlkejefnaa", sum := "bf010e47bae61268f36fa1e1882f84eebd78a7fde822a3f99efd5ee921218c1b", checked := Try.checked }
namespace Rows
def none {H : Type} : Left H := { results := [], args := [] }

/-- 'interleavelaw30.TraceCheck': WHATEVER THE INPUT: true; the input reads as it did. -/
def traceCheckSpec : ChangeSpec := { name := "traceCheck", fn := fun _ => fun
  | [d] => { results := [.lit (.bool true)], args := [d] }
  | _ => none }
def traceCheckRow : OpenClaim := { program := "ytkdagjlkejefnaa", sum := "bf010e47bae61268f36fa1e1882f84eebd78a7fde822a3f99efd5ee921218c1b", func := "interleave/interleavelaw30.TraceCheck", spec := "traceCheck", plainKeys := false, apart := false }
def TraceCheckSaid : Prop := traceCheckRow.holds Try.pinned (OpenSpec.ofChange traceCheckSpec)

/-- ITS FALSE NEIGHBOUR: 'it returns false'. Refute it at one input. -/
def traceCheckWrong : ChangeSpec := { name := "traceCheck", fn := fun _ => fun
  | [d] => { results := [.lit (.bool false)], args := [d] }
  | _ => none }
def TraceCheckWrongFalsely : Prop := traceCheckRow.holds Try.pinned (OpenSpec.ofChange traceCheckWrong)

/-- 'interleavelaw30.TraceRepaired': WHATEVER THE INPUT: true; the input reads as it did. -/
def traceRepairedSpec : ChangeSpec := { name := "traceRepaired", fn := fun _ => fun
  | [d] => { results := [.lit (.bool true)], args := [d] }
  | _ => none }
def traceRepairedRow : OpenClaim := { program := "ytkdagjlkejefnaa", sum := "bf010e47bae61268f36fa1e1882f84eebd78a7fde822a3f99efd5ee921218c1b", func := "interleave/interleavelaw30.TraceRepaired", spec := "traceRepaired", plainKeys := false, apart := false }
def TraceRepairedSaid : Prop := traceRepairedRow.holds Try.pinned (OpenSpec.ofChange traceRepairedSpec)

/-- ITS FALSE NEIGHBOUR: 'it returns false'. Refute it at one input. -/
def traceRepairedWrong : ChangeSpec := { name := "traceRepaired", fn := fun _ => fun
  | [d] => { results := [.lit (.bool false)], args := [d] }
  | _ => none }
def TraceRepairedWrongFalsely : Prop := traceRepairedRow.holds Try.pinned (OpenSpec.ofChange traceRepairedWrong)

/-- 'interleavelaw30.TracePrefix': WHATEVER THE INPUT: true; the input reads as it did. -/
def tracePrefixSpec : ChangeSpec := { name := "tracePrefix", fn := fun _ => fun
  | [d1, d2] => { results := [.lit (.bool true)], args := [d1, d2] }
  | _ => none }
def tracePrefixRow : OpenClaim := { program := "ytkdagjlkejefnaa", sum := "bf010e47bae61268f36fa1e1882f84eebd78a7fde822a3f99efd5ee921218c1b", func := "interleave/interleavelaw30.TracePrefix", spec := "tracePrefix", plainKeys := false, apart := false }
def TracePrefixSaid : Prop := tracePrefixRow.holds Try.pinned (OpenSpec.ofChange tracePrefixSpec)

/-- ITS FALSE NEIGHBOUR: 'it returns false'. Refute it at one input. -/
def tracePrefixWrong : ChangeSpec := { name := "tracePrefix", fn := fun _ => fun
  | [d1, d2] => { results := [.lit (.bool false)], args := [d1, d2] }
  | _ => none }
def TracePrefixWrongFalsely : Prop := tracePrefixRow.holds Try.pinned (OpenSpec.ofChange tracePrefixWrong)

/-- 'interleavelaw30.TraceExclusive': WHATEVER THE INPUT: true; the input reads as it did. -/
def traceExclusiveSpec : ChangeSpec := { name := "traceExclusive", fn := fun _ => fun
  | [d1, d2] => { results := [.lit (.bool true)], args := [d1, d2] }
  | _ => none }
def traceExclusiveRow : OpenClaim := { program := "ytkdagjlkejefnaa", sum := "bf010e47bae61268f36fa1e1882f84eebd78a7fde822a3f99efd5ee921218c1b", func := "interleave/interleavelaw30.TraceExclusive", spec := "traceExclusive", plainKeys := false, apart := false }
def TraceExclusiveSaid : Prop := traceExclusiveRow.holds Try.pinned (OpenSpec.ofChange traceExclusiveSpec)

/-- ITS FALSE NEIGHBOUR: 'it returns false'. Refute it at one input. -/
def traceExclusiveWrong : ChangeSpec := { name := "traceExclusive", fn := fun _ => fun
  | [d1, d2] => { results := [.lit (.bool false)], args := [d1, d2] }
  | _ => none }
def TraceExclusiveWrongFalsely : Prop := traceExclusiveRow.holds Try.pinned (OpenSpec.ofChange traceExclusiveWrong)

/-- 'interleavelaw30.TraceBalance': WHATEVER THE INPUT: true; the input reads as it did. -/
def traceBalanceSpec : ChangeSpec := { name := "traceBalance", fn := fun _ => fun
  | [d1, d2, d3] => { results := [.lit (.bool true)], args := [d1, d2, d3] }
  | _ => none }
def traceBalanceRow : OpenClaim := { program := "ytkdagjlkejefnaa", sum := "bf010e47bae61268f36fa1e1882f84eebd78a7fde822a3f99efd5ee921218c1b", func := "interleave/interleavelaw30.TraceBalance", spec := "traceBalance", plainKeys := false, apart := false }
def TraceBalanceSaid : Prop := traceBalanceRow.holds Try.pinned (OpenSpec.ofChange traceBalanceSpec)

/-- ITS FALSE NEIGHBOUR: 'it returns false'. Refute it at one input. -/
def traceBalanceWrong : ChangeSpec := { name := "traceBalance", fn := fun _ => fun
  | [d1, d2, d3] => { results := [.lit (.bool false)], args := [d1, d2, d3] }
  | _ => none }
def TraceBalanceWrongFalsely : Prop := traceBalanceRow.holds Try.pinned (OpenSpec.ofChange traceBalanceWrong)

/-- 'interleavelaw30.TraceState': WHATEVER THE INPUT: true; the input reads as it did. -/
def traceStateSpec : ChangeSpec := { name := "traceState", fn := fun _ => fun
  | [d1, d2] => { results := [.lit (.bool true)], args := [d1, d2] }
  | _ => none }
def traceStateRow : OpenClaim := { program := "ytkdagjlkejefnaa", sum := "bf010e47bae61268f36fa1e1882f84eebd78a7fde822a3f99efd5ee921218c1b", func := "interleave/interleavelaw30.TraceState", spec := "traceState", plainKeys := false, apart := false }
def TraceStateSaid : Prop := traceStateRow.holds Try.pinned (OpenSpec.ofChange traceStateSpec)

/-- ITS FALSE NEIGHBOUR: 'it returns false'. Refute it at one input. -/
def traceStateWrong : ChangeSpec := { name := "traceState", fn := fun _ => fun
  | [d1, d2] => { results := [.lit (.bool false)], args := [d1, d2] }
  | _ => none }
def TraceStateWrongFalsely : Prop := traceStateRow.holds Try.pinned (OpenSpec.ofChange traceStateWrong)

/-- 'interleavelaw30.TraceWhole': WHATEVER THE INPUT: true; the input reads as it did. -/
def traceWholeSpec : ChangeSpec := { name := "traceWhole", fn := fun _ => fun
  | [d] => { results := [.lit (.bool true)], args := [d] }
  | _ => none }
def traceWholeRow : OpenClaim := { program := "ytkdagjlkejefnaa", sum := "bf010e47bae61268f36fa1e1882f84eebd78a7fde822a3f99efd5ee921218c1b", func := "interleave/interleavelaw30.TraceWhole", spec := "traceWhole", plainKeys := false, apart := false }
def TraceWholeSaid : Prop := traceWholeRow.holds Try.pinned (OpenSpec.ofChange traceWholeSpec)

/-- ITS FALSE NEIGHBOUR: 'it returns false'. Refute it at one input. -/
def traceWholeWrong : ChangeSpec := { name := "traceWhole", fn := fun _ => fun
  | [d] => { results := [.lit (.bool false)], args := [d] }
  | _ => none }
def TraceWholeWrongFalsely : Prop := traceWholeRow.holds Try.pinned (OpenSpec.ofChange traceWholeWrong)

/-- 'interleavelaw30.TraceProject': WHATEVER THE INPUT: true; the input reads as it did. -/
def traceProjectSpec : ChangeSpec := { name := "traceProject", fn := fun _ => fun
  | [d1, d2, d3] => { results := [.lit (.bool true)], args := [d1, d2, d3] }
  | _ => none }
def traceProjectRow : OpenClaim := { program := "ytkdagjlkejefnaa", sum := "bf010e47bae61268f36fa1e1882f84eebd78a7fde822a3f99efd5ee921218c1b", func := "interleave/interleavelaw30.TraceProject", spec := "traceProject", plainKeys := false, apart := false }
def TraceProjectSaid : Prop := traceProjectRow.holds Try.pinned (OpenSpec.ofChange traceProjectSpec)

/-- ITS FALSE NEIGHBOUR: 'it returns false'. Refute it at one input. -/
def traceProjectWrong : ChangeSpec := { name := "traceProject", fn := fun _ => fun
  | [d1, d2, d3] => { results := [.lit (.bool false)], args := [d1, d2, d3] }
  | _ => none }
def TraceProjectWrongFalsely : Prop := traceProjectRow.holds Try.pinned (OpenSpec.ofChange traceProjectWrong)

/-- 'interleavelaw30.TraceClone': WHATEVER THE INPUT: true; the input reads as it did. -/
def traceCloneSpec : ChangeSpec := { name := "traceClone", fn := fun _ => fun
  | [d1, d2] => { results := [.lit (.bool true)], args := [d1, d2] }
  | _ => none }
def traceCloneRow : OpenClaim := { program := "ytkdagjlkejefnaa", sum := "bf010e47bae61268f36fa1e1882f84eebd78a7fde822a3f99efd5ee921218c1b", func := "interleave/interleavelaw30.TraceClone", spec := "traceClone", inPlace := ["maps.clone"], plainKeys := false, apart := false }
def TraceCloneSaid : Prop := traceCloneRow.holds Try.pinned (OpenSpec.ofChange traceCloneSpec)

/-- ITS FALSE NEIGHBOUR: 'it returns false'. Refute it at one input. -/
def traceCloneWrong : ChangeSpec := { name := "traceClone", fn := fun _ => fun
  | [d1, d2] => { results := [.lit (.bool false)], args := [d1, d2] }
  | _ => none }
def TraceCloneWrongFalsely : Prop := traceCloneRow.holds Try.pinned (OpenSpec.ofChange traceCloneWrong)

/- THE SECOND FORM. 'bulk': how many values and letters a reading holds, each counted each time it is reached (what is shared counts as often as it is met; a slice's spare places count too). A statement '..UptoSaid' is the law's where the arguments, and the package variables that the reading takes, are together of bulk at most 1048576: NARROWER than '..Said'. Prove '..Said' where nothing that the law and all that it calls make is longer than what came in: it says more and counts as full. Else prove '..UptoSaid'. A law counts once. -/
mutual
def uptoBulk {H : Type} : DataW H → Nat
  | .lit (.string bytes) => bytes.length + 1
  | .lit _ => 1
  | .nil => 1
  | .ptr d => uptoBulk d + 1
  | .slice elems spare => uptoBulkAll elems + uptoBulkAll spare + 1
  | .agg parts => uptoBulkAll parts + 1
  | .iface _ d => uptoBulk d + 1
  | .map entries => uptoBulkEntries entries + 1
  | .held _ => 1
def uptoBulkAll {H : Type} : List (DataW H) → Nat
  | [] => 0
  | d :: r => uptoBulk d + uptoBulkAll r
def uptoBulkEntries {H : Type} : List (Lit × DataW H) → Nat
  | [] => 0
  | x :: r => uptoBulkEntry x + uptoBulkEntries r
def uptoBulkEntry {H : Type} : Lit × DataW H → Nat
  | (.string bytes, d) => bytes.length + uptoBulk d + 1
  | (_, d) => uptoBulk d + 1
 end
def uptoSmall : (H : Type) → List (DataW H) → Bool := fun _ ds => decide (uptoBulkAll ds ≤ 1048576)
def OpenSpec.upto (s : _root_.Go.ChangeSpec) : _root_.Go.OpenSpec := { _root_.Go.OpenSpec.ofChange s with cond := some uptoSmall }

/-- 'interleavelaw30.TraceCheck', WHERE WHAT IT READS IS OF BULK AT MOST 1048576: true; the input reads as it did. -/
def traceCheckUptoRow : OpenClaim := { program := "ytkdagjlkejefnaa", sum := "bf010e47bae61268f36fa1e1882f84eebd78a7fde822a3f99efd5ee921218c1b", func := "interleave/interleavelaw30.TraceCheck", spec := "traceCheck", plainKeys := false, apart := false, narrowed := true }
def TraceCheckUptoSaid : Prop := traceCheckUptoRow.holds Try.pinned (OpenSpec.upto traceCheckSpec)

/-- 'interleavelaw30.TraceRepaired', WHERE WHAT IT READS IS OF BULK AT MOST 1048576: true; the input reads as it did. -/
def traceRepairedUptoRow : OpenClaim := { program := "ytkdagjlkejefnaa", sum := "bf010e47bae61268f36fa1e1882f84eebd78a7fde822a3f99efd5ee921218c1b", func := "interleave/interleavelaw30.TraceRepaired", spec := "traceRepaired", plainKeys := false, apart := false, narrowed := true }
def TraceRepairedUptoSaid : Prop := traceRepairedUptoRow.holds Try.pinned (OpenSpec.upto traceRepairedSpec)

/-- 'interleavelaw30.TracePrefix', WHERE WHAT IT READS IS OF BULK AT MOST 1048576: true; the input reads as it did. -/
def tracePrefixUptoRow : OpenClaim := { program := "ytkdagjlkejefnaa", sum := "bf010e47bae61268f36fa1e1882f84eebd78a7fde822a3f99efd5ee921218c1b", func := "interleave/interleavelaw30.TracePrefix", spec := "tracePrefix", plainKeys := false, apart := false, narrowed := true }
def TracePrefixUptoSaid : Prop := tracePrefixUptoRow.holds Try.pinned (OpenSpec.upto tracePrefixSpec)

/-- 'interleavelaw30.TraceExclusive', WHERE WHAT IT READS IS OF BULK AT MOST 1048576: true; the input reads as it did. -/
def traceExclusiveUptoRow : OpenClaim := { program := "ytkdagjlkejefnaa", sum := "bf010e47bae61268f36fa1e1882f84eebd78a7fde822a3f99efd5ee921218c1b", func := "interleave/interleavelaw30.TraceExclusive", spec := "traceExclusive", plainKeys := false, apart := false, narrowed := true }
def TraceExclusiveUptoSaid : Prop := traceExclusiveUptoRow.holds Try.pinned (OpenSpec.upto traceExclusiveSpec)

/-- 'interleavelaw30.TraceBalance', WHERE WHAT IT READS IS OF BULK AT MOST 1048576: true; the input reads as it did. -/
def traceBalanceUptoRow : OpenClaim := { program := "ytkdagjlkejefnaa", sum := "bf010e47bae61268f36fa1e1882f84eebd78a7fde822a3f99efd5ee921218c1b", func := "interleave/interleavelaw30.TraceBalance", spec := "traceBalance", plainKeys := false, apart := false, narrowed := true }
def TraceBalanceUptoSaid : Prop := traceBalanceUptoRow.holds Try.pinned (OpenSpec.upto traceBalanceSpec)

/-- 'interleavelaw30.TraceState', WHERE WHAT IT READS IS OF BULK AT MOST 1048576: true; the input reads as it did. -/
def traceStateUptoRow : OpenClaim := { program := "ytkdagjlkejefnaa", sum := "bf010e47bae61268f36fa1e1882f84eebd78a7fde822a3f99efd5ee921218c1b", func := "interleave/interleavelaw30.TraceState", spec := "traceState", plainKeys := false, apart := false, narrowed := true }
def TraceStateUptoSaid : Prop := traceStateUptoRow.holds Try.pinned (OpenSpec.upto traceStateSpec)

/-- 'interleavelaw30.TraceWhole', WHERE WHAT IT READS IS OF BULK AT MOST 1048576: true; the input reads as it did. -/
def traceWholeUptoRow : OpenClaim := { program := "ytkdagjlkejefnaa", sum := "bf010e47bae61268f36fa1e1882f84eebd78a7fde822a3f99efd5ee921218c1b", func := "interleave/interleavelaw30.TraceWhole", spec := "traceWhole", plainKeys := false, apart := false, narrowed := true }
def TraceWholeUptoSaid : Prop := traceWholeUptoRow.holds Try.pinned (OpenSpec.upto traceWholeSpec)

/-- 'interleavelaw30.TraceProject', WHERE WHAT IT READS IS OF BULK AT MOST 1048576: true; the input reads as it did. -/
def traceProjectUptoRow : OpenClaim := { program := "ytkdagjlkejefnaa", sum := "bf010e47bae61268f36fa1e1882f84eebd78a7fde822a3f99efd5ee921218c1b", func := "interleave/interleavelaw30.TraceProject", spec := "traceProject", plainKeys := false, apart := false, narrowed := true }
def TraceProjectUptoSaid : Prop := traceProjectUptoRow.holds Try.pinned (OpenSpec.upto traceProjectSpec)

/-- 'interleavelaw30.TraceClone', WHERE WHAT IT READS IS OF BULK AT MOST 1048576: true; the input reads as it did. -/
def traceCloneUptoRow : OpenClaim := { program := "ytkdagjlkejefnaa", sum := "bf010e47bae61268f36fa1e1882f84eebd78a7fde822a3f99efd5ee921218c1b", func := "interleave/interleavelaw30.TraceClone", spec := "traceClone", inPlace := ["maps.clone"], plainKeys := false, apart := false, narrowed := true }
def TraceCloneUptoSaid : Prop := traceCloneUptoRow.holds Try.pinned (OpenSpec.upto traceCloneSpec)

end Rows
end Go.Proofs.Ytkdagjlkejefnaa
