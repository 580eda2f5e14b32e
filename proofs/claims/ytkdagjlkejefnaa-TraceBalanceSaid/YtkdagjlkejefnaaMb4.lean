/- The plain readings of functions of the program, printed by a program of this claim. No conditions. -/
import Derived.Test.YtkdagjlkejefnaaMb3
import Derived.IntWalk
import Derived.Below
import Derived.Maps.OwnSet
import Derived.Deep.Draws
import Derived.DeepKeys5
import Derived.Test.YtkdagjlkejefnaaRows
import Derived.WalkKit
import Derived.WalkSpells
import Derived.Outline
import Derived.Handy
import Derived.Deep.Light
import Derived.Lib.Hide
import Derived.RegionTactic
import Derived.BigRegion
import Derived.Deep.QuietTactic
import Derived.BigQuiet
import Derived.Deep.DeepCutAuto
import Derived.Deep.CutBlock
section
namespace Go.Proofs.Ytkdagjlkejefnaa
open Go Go.RowKit
set_option linter.unusedSimpArgs false
set_option linter.unusedVariables false
set_option maxRecDepth 100000

/-! interleave/interleavelaw30.TraceExclusive -/
def pce6c0 : PC :=
 .block 1 (.seq (.reg false [⟨(some 38), .mv (.t 36), none, []⟩,
                    ⟨(some 39), .ixs 9 (.t 34) (.t 36), none, []⟩,
                    ⟨(some 40), .load (some 9) (.t 39), none, [1]⟩,
                    ⟨(some 7), .new [(.int .i64 0), (.int .i64 0), (.int .i64 0), (.int .i64 0), (.int .i64 0), (.int .i64 0), (.int .i64 0), (.int .i64 0), (.int .i64 0)], none, []⟩,
                    ⟨(some 6), .mv (.t 38), none, [0, 0, 1, 2, 3]⟩,
                    ⟨none, .store 9 (.t 7) (.t 40), none, [3, 2, 4, 0, 1, 2, 3, 4]⟩])
               (.seq (.seq (.reg false [⟨(some 41), .fld 1 (.t 7), none, []⟩,
                      ⟨(some 42), .load none (.t 41), none, [0]⟩,
                      ⟨(some 43), .bin .neq (.t 42) (.v (.int .i64 6)), none, [1]⟩])
                 (.cond (.t 43)
                   (.exit 1)
                   (.skip)))
                (.seq (.reg false [⟨(some 44), .mv (.t 5), none, []⟩,
                      ⟨(some 45), .mv (.t 6), none, []⟩,
                      ⟨(some 46), .bin .add (.t 45) (.v (.int .i64 1)), none, [1]⟩,
                      ⟨(some 47), .slc 9 (.t 44) (some (.t 46)) none, none, [0, 2]⟩,
                      ⟨(some 48), .len (.t 47), none, [3]⟩,
                      ⟨(some 49), .mv (.v (.int .i64 0)), none, []⟩])
                 (.block 2 (.loop (.seq (.reg false [⟨(some 50), .bin .lss (.t 49) (.t 48), none, []⟩])
                    (.seq (.cond (.t 50)
                       (.skip)
                       (.exit 2))
                     (.seq (.block 3 (.seq (.reg false [⟨(some 51), .ixs 9 (.t 47) (.t 49), none, []⟩,
                             ⟨(some 52), .load (some 9) (.t 51), none, [0]⟩,
                             ⟨(some 9), .new [(.int .i64 0), (.int .i64 0), (.int .i64 0), (.int .i64 0), (.int .i64 0), (.int .i64 0), (.int .i64 0), (.int .i64 0), (.int .i64 0)], none, []⟩,
                             ⟨none, .store 9 (.t 9) (.t 52), none, [2, 1, 0, 1, 2]⟩])
                        (.seq (.seq (.reg false [⟨(some 53), .fld 2 (.t 9), none, []⟩,
                               ⟨(some 54), .load none (.t 53), none, [0]⟩,
                               ⟨(some 55), .fld 2 (.t 7), none, []⟩,
                               ⟨(some 56), .load none (.t 55), none, [2]⟩,
                               ⟨(some 57), .bin .neq (.t 54) (.t 56), none, [1, 3]⟩,
                               ⟨(some 58), .mv (.t 57), none, [4]⟩,
                               ⟨(some 59), .fld 3 (.t 9), (some (58, false)), [5]⟩,
                               ⟨(some 60), .load none (.t 59), (some (58, false)), [6, 5]⟩,
                               ⟨(some 61), .fld 3 (.t 7), (some (58, false)), [5]⟩,
                               ⟨(some 62), .load none (.t 61), (some (58, false)), [8, 5]⟩,
                               ⟨(some 63), .bin .neq (.t 60) (.t 62), (some (58, false)), [7, 9, 5]⟩,
                               ⟨(some 64), .pick (.t 58) (.v (.bool true)) (.t 63), none, [5, 10]⟩])
                          (.cond (.t 64)
                            (.exit 3)
                            (.skip)))
                         (.seq (.seq (.reg false [⟨(some 65), .fld 1 (.t 9), none, []⟩,
                                ⟨(some 66), .load none (.t 65), none, [0]⟩,
                                ⟨(some 67), .bin .eql (.t 66) (.v (.int .i64 6)), none, [1]⟩,
                                ⟨(some 68), .mv (.t 67), none, [2]⟩,
                                ⟨(some 69), .fld 1 (.t 9), (some (68, false)), [3]⟩,
                                ⟨(some 70), .load none (.t 69), (some (68, false)), [4, 3]⟩,
                                ⟨(some 71), .bin .eql (.t 70) (.v (.int .i64 8)), (some (68, false)), [5, 3]⟩,
                                ⟨(some 72), .pick (.t 68) (.v (.bool true)) (.t 71), none, [3, 6]⟩])
                           (.cond (.t 72)
                             (.seq (.reg false [⟨(some 4), .mv (.v (.bool false)), none, []⟩])
                              (.ret))
                             (.skip)))
                          (.seq (.reg false [⟨(some 73), .fld 1 (.t 9), none, []⟩,
                                ⟨(some 74), .load none (.t 73), none, [0]⟩,
                                ⟨(some 75), .bin .eql (.t 74) (.v (.int .i64 7)), none, [1]⟩])
                           (.cond (.t 75)
                             (.exit 2)
                             (.skip)))))))
                      (.reg false [⟨(some 76), .bin .add (.t 49) (.v (.int .i64 1)), none, []⟩,
                           ⟨(some 49), .mv (.t 76), none, [0]⟩])))))))))
def pce6c1 : PC :=
 .seq (.reg false [⟨(some 34), .mv (.t 5), none, []⟩,
             ⟨(some 35), .len (.t 34), none, [0]⟩,
             ⟨(some 36), .mv (.v (.int .i64 0)), none, []⟩])
        (.block 0 (.loop (.seq (.reg false [⟨(some 37), .bin .lss (.t 36) (.t 35), none, []⟩])
           (.seq (.cond (.t 37)
              (.skip)
              (.exit 0))
            (.seq (pce6c0)
             (.reg false [⟨(some 77), .bin .add (.t 36) (.v (.int .i64 1)), none, []⟩,
                  ⟨(some 36), .mv (.t 77), none, [0]⟩]))))))
def pce6c2 : PC :=
 .seq (.seq (.reg false [⟨(some 31), .mv (.t 5), none, []⟩,
            ⟨(some 32), .call 15 [(.t 31)], none, [0]⟩,
            ⟨(some 33), .un .not (.t 32), none, [1]⟩])
       (.cond (.t 33)
         (.seq (.reg false [⟨(some 4), .mv (.v (.bool true)), none, []⟩])
          (.ret))
         (.skip)))
      (.seq (pce6c1)
       (.seq (.reg false [⟨(some 4), .mv (.v (.bool true)), none, []⟩])
        (.ret)))
def pce6c3 : PC :=
 .reg true [⟨(some 22), .mv (.t 5), none, []⟩,
             ⟨(some 23), .mv (.t 1), none, []⟩,
             ⟨(some 24), .mv (.t 1), none, []⟩,
             ⟨(some 25), .slc3 9 (.t 22) none (.t 23) (.t 24), none, [0, 1, 2]⟩,
             ⟨(some 26), .mv (.t 5), none, []⟩,
             ⟨(some 27), .mv (.t 1), none, []⟩,
             ⟨(some 28), .bin .add (.t 27) (.v (.int .i64 1)), none, [5]⟩,
             ⟨(some 29), .slc 9 (.t 26) (some (.t 28)) none, none, [4, 6]⟩,
             ⟨(some 30), .append 31 9 72 (.t 25) (.t 29), none, [3, 7]⟩,
             ⟨(some 5), .mv (.t 30), none, [8, 8, 0, 1, 2, 3, 4, 5, 6, 7, 8]⟩]
def pce6 : PC :=
 .seq (.reg false [⟨(some 4), .mv (.v (.bool false)), none, []⟩])
  (.seq (.seq (.reg false [⟨(some 10), .call 12 [], none, []⟩,
         ⟨(some 11), .un .not (.t 10), none, [0]⟩])
    (.cond (.t 11)
      (.seq (.reg false [⟨(some 4), .mv (.v (.bool false)), none, []⟩])
       (.ret))
      (.skip)))
   (.seq (.reg false [⟨(some 12), .mv (.t 0), none, []⟩,
         ⟨(some 13), .call 16 [(.t 12)], none, [0]⟩,
         ⟨(some 5), .mv (.t 13), none, [1, 1, 0, 1]⟩])
    (.seq (.seq (.reg false [⟨(some 14), .mv (.t 1), none, []⟩,
           ⟨(some 15), .bin .geq (.t 14) (.v (.int .i64 0)), none, [0]⟩,
           ⟨(some 16), .mv (.t 15), none, [1]⟩,
           ⟨(some 17), .mv (.t 1), (some (16, true)), [2]⟩,
           ⟨(some 18), .mv (.t 5), (some (16, true)), [2]⟩,
           ⟨(some 19), .len (.t 18), (some (16, true)), [4, 2]⟩,
           ⟨(some 20), .bin .lss (.t 17) (.t 19), (some (16, true)), [3, 5, 2]⟩,
           ⟨(some 21), .pick (.t 16) (.t 20) (.v (.bool false)), none, [2, 6]⟩])
      (.cond (.t 21)
        (pce6c3)
        (.skip)))
     (pce6c2))))
def pre6 : List PR := [.t 4]
abbrev mse6_0 : List Nat := [37, 38, 39, 40, 7, 6, 41, 42, 43, 44, 45, 46, 47, 48, 49, 50, 51, 52, 9, 53, 54, 55, 56, 57, 58, 59, 60, 61, 62, 63, 64, 65, 66, 67, 68, 69, 70, 71, 72, 4, 73, 74, 75, 76, 77, 36]
abbrev ose6_0 : List Nat := [7, 9]
abbrev mse6_1 : List Nat := [50, 51, 52, 9, 53, 54, 55, 56, 57, 58, 59, 60, 61, 62, 63, 64, 65, 66, 67, 68, 69, 70, 71, 72, 4, 73, 74, 75, 76, 49]
abbrev ose6_1 : List Nat := [9]
theorem bde6 : Try.f6.body = some (Try.f6.body.getD .skip) := by kernel_rfl
theorem cpe6 : compC Try.prog Try.f6.ntmps eqsL (Try.f6.body.getD .skip) = some pce6 := by kernel_rfl
theorem spe6 [WInv] {env : Env} (hE : EnvOK Try.prog env) {R : List Pa → List Pa → Prop} (hR : ∀ ps rs, R ps rs → ps.length ≤ 78 ∧ pwp env pce6 (fun e s => (e = .normal ∨ e = .ret) ∧ s.res pre6 = some rs) (St.init ps)) : Spec Try.prog 6 R :=
  fn_sound hE eqsOK mixedOK Try.func6 bde6 cpe6 (by kernel_rfl) (by kernel_rfl) hR

/-! interleave/interleavelaw30.TraceBalance -/
def pce7c0 : PC :=
 .seq (.reg false [⟨(some 61), .mv (.t 8), none, []⟩,
                        ⟨(some 62), .mv (.t 9), none, []⟩,
                        ⟨(some 63), .bin .sub (.t 61) (.t 62), none, [0, 1]⟩,
                        ⟨(some 64), .fld 5 (.t 11), none, []⟩,
                        ⟨(some 65), .load none (.t 64), none, [3]⟩,
                        ⟨(some 66), .bin .add (.t 65) (.v (.int .i64 1)), none, [4]⟩,
                        ⟨(some 67), .bin .gtr (.t 63) (.t 66), none, [2, 5]⟩,
                        ⟨(some 68), .mv (.t 67), none, [6]⟩,
                        ⟨(some 69), .mv (.t 9), (some (68, false)), [7]⟩,
                        ⟨(some 70), .mv (.t 8), (some (68, false)), [7]⟩,
                        ⟨(some 71), .bin .sub (.t 69) (.t 70), (some (68, false)), [8, 9, 7]⟩,
                        ⟨(some 72), .bin .gtr (.t 71) (.v (.int .i64 1)), (some (68, false)), [10, 7]⟩,
                        ⟨(some 73), .pick (.t 68) (.v (.bool true)) (.t 72), none, [7, 11]⟩])
                   (.cond (.t 73)
                     (.seq (.reg false [⟨(some 6), .mv (.v (.bool false)), none, []⟩])
                      (.ret))
                     (.skip))
def pce7c1 : PC :=
 .seq (.seq (.reg false [⟨(some 57), .bin .eql (.t 47) (.v (.int .i64 16)), none, []⟩,
                                 ⟨(some 56), .mv (.t 57), none, [0]⟩])
                            (.cond (.t 56)
                              (.skip)
                              (.seq (.reg false [⟨(some 58), .bin .eql (.t 47) (.v (.int .i64 18)), none, []⟩,
                                    ⟨(some 56), .mv (.t 58), none, [0]⟩])
                               (.cond (.t 56)
                                 (.skip)
                                 (.seq (.reg false [⟨(some 59), .bin .eql (.t 47) (.v (.int .i64 19)), none, []⟩,
                                       ⟨(some 56), .mv (.t 59), none, [0]⟩])
                                  (.cond (.t 56)
                                    (.skip)
                                    (.reg false [⟨(some 60), .bin .eql (.t 47) (.v (.int .i64 20)), none, []⟩,
                                         ⟨(some 56), .mv (.t 60), none, [0]⟩])))))))
                           (.cond (.t 56)
                             (.skip)
                             (.exit 1))
def pce7c2 : PC :=
 .seq (.reg false [⟨(some 53), .bin .eql (.t 47) (.v (.int .i64 17)), none, []⟩,
                             ⟨(some 52), .mv (.t 53), none, [0]⟩])
                        (.cond (.t 52)
                          (.reg false [⟨(some 54), .mv (.t 9), none, []⟩,
                               ⟨(some 55), .bin .add (.t 54) (.v (.int .i64 1)), none, [0]⟩,
                               ⟨(some 9), .mv (.t 55), none, [1, 0, 1]⟩])
                          (pce7c1))
def pce7c3 : PC :=
 .block 1 (.seq (.reg false [⟨(some 40), .ixs 9 (.t 36) (.t 38), none, []⟩,
                     ⟨(some 41), .load (some 9) (.t 40), none, [0]⟩,
                     ⟨(some 11), .new [(.int .i64 0), (.int .i64 0), (.int .i64 0), (.int .i64 0), (.int .i64 0), (.int .i64 0), (.int .i64 0), (.int .i64 0), (.int .i64 0)], none, []⟩,
                     ⟨none, .store 9 (.t 11) (.t 41), none, [2, 1, 0, 1, 2]⟩])
                (.seq (.seq (.reg false [⟨(some 42), .fld 2 (.t 11), none, []⟩,
                       ⟨(some 43), .load none (.t 42), none, [0]⟩,
                       ⟨(some 44), .mv (.t 1), none, []⟩,
                       ⟨(some 45), .bin .neq (.t 43) (.t 44), none, [1, 2]⟩])
                  (.cond (.t 45)
                    (.exit 1)
                    (.skip)))
                 (.seq (.seq (.reg false [⟨(some 46), .fld 1 (.t 11), none, []⟩,
                        ⟨(some 47), .load none (.t 46), none, [0]⟩])
                   (.block 2 (.seq (.reg false [⟨(some 49), .bin .eql (.t 47) (.v (.int .i64 15)), none, []⟩,
                          ⟨(some 48), .mv (.t 49), none, [0]⟩])
                     (.cond (.t 48)
                       (.reg false [⟨(some 50), .mv (.t 8), none, []⟩,
                            ⟨(some 51), .bin .add (.t 50) (.v (.int .i64 1)), none, [0]⟩,
                            ⟨(some 8), .mv (.t 51), none, [1, 0, 1]⟩])
                       (pce7c2)))))
                  (pce7c0))))
def pce7c4 : PC :=
 .seq (.reg false [⟨(some 36), .mv (.t 7), none, []⟩,
              ⟨(some 37), .len (.t 36), none, [0]⟩,
              ⟨(some 38), .mv (.v (.int .i64 0)), none, []⟩])
         (.block 0 (.loop (.seq (.reg false [⟨(some 39), .bin .lss (.t 38) (.t 37), none, []⟩])
            (.seq (.cond (.t 39)
               (.skip)
               (.exit 0))
             (.seq (pce7c3)
              (.reg false [⟨(some 74), .bin .add (.t 38) (.v (.int .i64 1)), none, []⟩,
                   ⟨(some 38), .mv (.t 74), none, [0]⟩]))))))
def pce7c5 : PC :=
 .seq (.seq (.reg false [⟨(some 33), .mv (.t 7), none, []⟩,
            ⟨(some 34), .call 15 [(.t 33)], none, [0]⟩,
            ⟨(some 35), .un .not (.t 34), none, [1]⟩])
       (.cond (.t 35)
         (.seq (.reg false [⟨(some 6), .mv (.v (.bool true)), none, []⟩])
          (.ret))
         (.skip)))
      (.seq (.reg false [⟨(some 8), .mv (.v (.int .i64 0)), none, []⟩,
            ⟨(some 9), .mv (.v (.int .i64 0)), none, [0, 0]⟩])
       (.seq (pce7c4)
        (.seq (.reg false [⟨(some 6), .mv (.v (.bool true)), none, []⟩])
         (.ret))))
def pce7c6 : PC :=
 .reg true [⟨(some 24), .mv (.t 7), none, []⟩,
             ⟨(some 25), .mv (.t 2), none, []⟩,
             ⟨(some 26), .mv (.t 2), none, []⟩,
             ⟨(some 27), .slc3 9 (.t 24) none (.t 25) (.t 26), none, [0, 1, 2]⟩,
             ⟨(some 28), .mv (.t 7), none, []⟩,
             ⟨(some 29), .mv (.t 2), none, []⟩,
             ⟨(some 30), .bin .add (.t 29) (.v (.int .i64 1)), none, [5]⟩,
             ⟨(some 31), .slc 9 (.t 28) (some (.t 30)) none, none, [4, 6]⟩,
             ⟨(some 32), .append 31 9 72 (.t 27) (.t 31), none, [3, 7]⟩,
             ⟨(some 7), .mv (.t 32), none, [8, 8, 0, 1, 2, 3, 4, 5, 6, 7, 8]⟩]
def pce7 : PC :=
 .seq (.reg false [⟨(some 6), .mv (.v (.bool false)), none, []⟩])
  (.seq (.seq (.reg false [⟨(some 12), .call 12 [], none, []⟩,
         ⟨(some 13), .un .not (.t 12), none, [0]⟩])
    (.cond (.t 13)
      (.seq (.reg false [⟨(some 6), .mv (.v (.bool false)), none, []⟩])
       (.ret))
      (.skip)))
   (.seq (.reg false [⟨(some 14), .mv (.t 0), none, []⟩,
         ⟨(some 15), .call 16 [(.t 14)], none, [0]⟩,
         ⟨(some 7), .mv (.t 15), none, [1, 1, 0, 1]⟩])
    (.seq (.seq (.reg false [⟨(some 16), .mv (.t 2), none, []⟩,
           ⟨(some 17), .bin .geq (.t 16) (.v (.int .i64 0)), none, [0]⟩,
           ⟨(some 18), .mv (.t 17), none, [1]⟩,
           ⟨(some 19), .mv (.t 2), (some (18, true)), [2]⟩,
           ⟨(some 20), .mv (.t 7), (some (18, true)), [2]⟩,
           ⟨(some 21), .len (.t 20), (some (18, true)), [4, 2]⟩,
           ⟨(some 22), .bin .lss (.t 19) (.t 21), (some (18, true)), [3, 5, 2]⟩,
           ⟨(some 23), .pick (.t 18) (.t 22) (.v (.bool false)), none, [2, 6]⟩])
      (.cond (.t 23)
        (pce7c6)
        (.skip)))
     (pce7c5))))
def pre7 : List PR := [.t 6]
abbrev mse7_0 : List Nat := [39, 40, 41, 11, 42, 43, 44, 45, 46, 47, 49, 48, 50, 51, 8, 53, 52, 54, 55, 9, 57, 56, 58, 59, 60, 61, 62, 63, 64, 65, 66, 67, 68, 69, 70, 71, 72, 73, 6, 74, 38]
abbrev ose7_0 : List Nat := [11]
theorem bde7 : Try.f7.body = some (Try.f7.body.getD .skip) := by kernel_rfl
theorem cpe7 : compC Try.prog Try.f7.ntmps eqsL (Try.f7.body.getD .skip) = some pce7 := by kernel_rfl
theorem spe7 [WInv] {env : Env} (hE : EnvOK Try.prog env) {R : List Pa → List Pa → Prop} (hR : ∀ ps rs, R ps rs → ps.length ≤ 75 ∧ pwp env pce7 (fun e s => (e = .normal ∨ e = .ret) ∧ s.res pre7 = some rs) (St.init ps)) : Spec Try.prog 7 R :=
  fn_sound hE eqsOK mixedOK Try.func7 bde7 cpe7 (by kernel_rfl) (by kernel_rfl) hR


end Go.Proofs.Ytkdagjlkejefnaa
end
section
set_option linter.unusedSimpArgs false
set_option linter.unusedVariables false
namespace Go.Proofs.Ytkdagjlkejefnaa
open Go Go.RowKit

theorem nrfl {α : Sort _} {a b : α} (h : a = b) : a = b := h
section
variable {env : Env} {K : St → Prop} {is : List PI} {s : St} {d : Option Nat} {af : List Nat}

def contOps (env : Env) (K : St → Prop) (is : List PI) (s : St) (d : Option Nat) (o : Option (Av × Cg)) : Prop := withSome o fun p => evalOps env is (s.ap d p.1 p.2) K
theorem contOps_some {v : Av} {ch : Cg} : contOps env K is s d (some (v, ch)) = evalOps env is (s.ap d v ch) K := nrfl rfl
def callOps (env : Env) (K : St → Prop) (is : List PI) (s : St) (d : Option Nat) (f : Nat) (o : Option (List Pa)) : Prop := withSome o fun ps => ∃ rs, env f ps rs ∧ evalOps env is (s.ap d (resAv rs) .no) K
theorem callOps_intro {f : Nat} {ps : List Pa} (rs : List Pa) (h : env f ps rs) (k : evalOps env is (s.ap d (resAv rs) .no) K) : callOps env K is s d f (some ps) := ⟨rs, h, k⟩
def guardOps (env : Env) (K : St → Prop) (is : List PI) (s : St) (d : Option Nat) (op : PO) (t : Nat) (want : Bool) : Option (Option Bool) → Prop
  | none => False
  | some none => evalOps env is (s.ap d skp .no) K
  | some (some b) => (b = want → evalOps env (⟨d, op, none, []⟩ :: is) (s.ap (some t) (scAv (.bool want)) .no) K) ∧ (b = !want → evalOps env is ((s.ap (some t) (scAv (.bool !want)) .no).ap d skp .no) K)
theorem guardOps_skp {op : PO} {t : Nat} {want : Bool} : guardOps env K is s d op t want (some none) = evalOps env is (s.ap d skp .no) K := nrfl rfl
theorem guardOps_some {op : PO} {t : Nat} {want b : Bool} : guardOps env K is s d op t want (some (some b)) = ((b = want → evalOps env (⟨d, op, none, []⟩ :: is) (s.ap (some t) (scAv (.bool want)) .no) K) ∧ (b = !want → evalOps env is ((s.ap (some t) (scAv (.bool !want)) .no).ap d skp .no) K)) := nrfl rfl
theorem gd_boo {t : Nat} {b : Bool} (h : s.gd t = some (some b)) : s.boo (.t t) = some b := by
  unfold St.gd at h
  split at h
  · cases h
  · rw [Option.map_eq_some_iff] at h
    obtain ⟨c, hc, h⟩ := h
    cases h; exact hc
theorem some_ne {b want : Bool} : (some b ≠ some want) ↔ b = !want := by cases b <;> cases want <;> simp
theorem boo_self {t : Nat} {b : Bool} (h : s.boo (.t t) = some b) : s.ap (some t) (scAv (.bool b)) .no = s := by
  have h1 : s.sl t = scAv (.bool b) := by
    unfold St.boo at h
    split at h
    · rename_i c hc
      cases h
      exact hc
    · cases h
  have h2 : up s.sl t (scAv (.bool b)) = s.sl := by
    funext x
    rw [up_at]
    split
    · rename_i hx; rw [hx, h1]
    · rfl
  show (⟨up s.sl t (scAv (.bool b)), s.gen, s.ob⟩ : St) = s
  rw [h2]
theorem evalOps_nil : evalOps env [] s K = K s := nrfl rfl
theorem evalOps_fn {op : PO} (h : op.isCall = false) : evalOps env (⟨d, op, none, af⟩ :: is) s K = contOps env K is s d (op.fn s (d.getD 0)) := by
  change PO.go env s (d.getD 0) (fun v ch => evalOps env is (s.ap d v ch) K) op = _
  rw [PO.go_fn h]
  rfl
def opS (env : Env) (K : St → Prop) (is : List PI) (s : St) (d : Option Nat) (b : Bool) (op : PO) : Prop := match b with
  | true => (match op with | .call f xs => callOps env K is s d f (s.args xs) | _ => False)
  | false => contOps env K is s d (op.fn s (d.getD 0))
theorem opS_false {op : PO} : opS env K is s d false op = contOps env K is s d (op.fn s (d.getD 0)) := nrfl rfl
theorem opS_true {f : Nat} {xs : List PX} : opS env K is s d true (.call f xs) = callOps env K is s d f (s.args xs) := nrfl rfl
theorem evalOps_op {op : PO} : evalOps env (⟨d, op, none, af⟩ :: is) s K = opS env K is s d op.isCall op := by
  cases hc : op.isCall with
  | true => cases op <;> first | rfl | cases hc
  | false => rw [opS_false, evalOps_fn hc]
theorem evalOps_call {f : Nat} {xs : List PX} : evalOps env (⟨d, .call f xs, none, af⟩ :: is) s K = callOps env K is s d f (s.args xs) := nrfl rfl
theorem evalOps_guard {op : PO} {t : Nat} {want : Bool} : evalOps env (⟨d, op, some (t, want), af⟩ :: is) s K = guardOps env K is s d op t want (s.gd t) := by
  change withSome (s.gd t) _ = guardOps env K is s d op t want (s.gd t)
  cases h : s.gd t with
  | none => rfl
  | some b =>
    cases b with
    | none => exact propext ⟨fun k => k.2 (by simp), fun k => ⟨fun e => (by simp at e), fun _ => k⟩⟩
    | some b =>
      have hb := boo_self (gd_boo h)
      rw [guardOps_some]
      show ((some b = some want → _) ∧ (some b ≠ some want → _)) = _
      rw [some_ne, Option.some.injEq]
      congr 1
      · apply propext
        refine forall_congr' fun he => ?_
        subst he
        rw [hb]
        rfl
      · apply propext
        refine forall_congr' fun he => ?_
        rw [← he, hb]
theorem evalOps_gT {op : PO} {t : Nat} {want : Bool} (h : s.gd t = some (some want)) : evalOps env (⟨d, op, some (t, want), af⟩ :: is) s K = evalOps env (⟨d, op, none, []⟩ :: is) s K := by
  rw [evalOps_guard, h, guardOps_some, boo_self (gd_boo h)]
  exact propext ⟨fun k => k.1 rfl, fun k => ⟨fun _ => k, fun e => absurd e (by cases want <;> decide)⟩⟩
theorem evalOps_gF {op : PO} {t : Nat} {want : Bool} (h : s.gd t = some (some (!want))) : evalOps env (⟨d, op, some (t, want), af⟩ :: is) s K = evalOps env is (s.ap d skp .no) K := by
  rw [evalOps_guard, h, guardOps_some, boo_self (gd_boo h)]
  exact propext ⟨fun k => k.2 rfl, fun k => ⟨fun e => absurd e (by cases want <;> decide), fun _ => k⟩⟩
theorem evalOps_gS {op : PO} {t : Nat} {want : Bool} (h : s.gd t = some none) : evalOps env (⟨d, op, some (t, want), af⟩ :: is) s K = evalOps env is (s.ap d skp .no) K := by
  rw [evalOps_guard, h, guardOps_skp]

abbrev Ft := List (List Rg × List Rg)
variable {KD : St → Ft → Prop} {acc : Ft}
def contD (env : Env) (K : St → Ft → Prop) (is : List PI) (s : St) (d : Option Nat) (acc : Ft) (rd : List Rg) (o : Option (Av × Cg)) : Prop := withSome o fun p => evalD env is (s.ap d p.1 p.2) ((rd, p.2.wrs) :: acc) K
theorem contD_some {v : Av} {ch : Cg} {rd : List Rg} : contD env KD is s d acc rd (some (v, ch)) = evalD env is (s.ap d v ch) ((rd, ch.wrs) :: acc) KD := nrfl rfl
def callD (env : Env) (K : St → Ft → Prop) (is : List PI) (s : St) (d : Option Nat) (acc : Ft) (f : Nat) (o : Option (List Pa)) : Prop := withSome o fun ps => ∃ rs, env f ps rs ∧ evalD env is (s.ap d (resAv rs) .no) (([], []) :: acc) K
theorem callD_intro {f : Nat} {ps : List Pa} (rs : List Pa) (h : env f ps rs) (k : evalD env is (s.ap d (resAv rs) .no) (([], []) :: acc) KD) : callD env KD is s d acc f (some ps) := ⟨rs, h, k⟩
/-- a guarded operation -/
def goD (env : Env) (K : St → Ft → Prop) (is : List PI) (s : St) (d : Option Nat) (acc : Ft) (op : PO) : Prop := op.go env s (d.getD 0) fun v ch => evalD env is (s.ap d v ch) ((op.rd s (d.getD 0), ch.wrs) :: acc) K
def guardD (env : Env) (K : St → Ft → Prop) (is : List PI) (s : St) (d : Option Nat) (acc : Ft) (op : PO) (t : Nat) (want : Bool) : Option (Option Bool) → Prop
  | none => False
  | some none => evalD env is (s.ap d skp .no) ((op.rd s (d.getD 0), []) :: acc) K
  | some (some b) => (b = want → goD env K is (s.ap (some t) (scAv (.bool want)) .no) d acc op) ∧ (b = !want → evalD env is ((s.ap (some t) (scAv (.bool !want)) .no).ap d skp .no) ((op.rd s (d.getD 0), []) :: acc) K)
theorem guardD_skp {op : PO} {t : Nat} {want : Bool} : guardD env KD is s d acc op t want (some none) = evalD env is (s.ap d skp .no) ((op.rd s (d.getD 0), []) :: acc) KD := nrfl rfl
theorem guardD_some {op : PO} {t : Nat} {want b : Bool} : guardD env KD is s d acc op t want (some (some b)) = ((b = want → goD env KD is (s.ap (some t) (scAv (.bool want)) .no) d acc op) ∧ (b = !want → evalD env is ((s.ap (some t) (scAv (.bool !want)) .no).ap d skp .no) ((op.rd s (d.getD 0), []) :: acc) KD)) := nrfl rfl
theorem evalD_nil : evalD env [] s acc KD = KD s acc.reverse := nrfl rfl
theorem goD_fn {op : PO} (h : op.isCall = false) : goD env KD is s d acc op = contD env KD is s d acc (op.rd s (d.getD 0)) (op.fn s (d.getD 0)) := by
  unfold goD
  rw [PO.go_fn h]
  rfl
def opD (env : Env) (K : St → Ft → Prop) (is : List PI) (s : St) (d : Option Nat) (acc : Ft) (b : Bool) (op : PO) : Prop := match b with
  | true => (match op with | .call f xs => callD env K is s d acc f (s.args xs) | _ => False)
  | false => contD env K is s d acc (op.rd s (d.getD 0)) (op.fn s (d.getD 0))
theorem opD_false {op : PO} : opD env KD is s d acc false op = contD env KD is s d acc (op.rd s (d.getD 0)) (op.fn s (d.getD 0)) := nrfl rfl
theorem opD_true {f : Nat} {xs : List PX} : opD env KD is s d acc true (.call f xs) = callD env KD is s d acc f (s.args xs) := nrfl rfl
theorem goD_op {op : PO} : goD env KD is s d acc op = opD env KD is s d acc op.isCall op := by
  cases hc : op.isCall with
  | true => cases op <;> first | rfl | cases hc
  | false => rw [opD_false, goD_fn hc]
theorem goD_call {f : Nat} {xs : List PX} : goD env KD is s d acc (.call f xs) = callD env KD is s d acc f (s.args xs) := nrfl rfl
theorem evalD_plain {op : PO} : evalD env (⟨d, op, none, af⟩ :: is) s acc KD = goD env KD is s d acc op := nrfl rfl
theorem evalD_guard {op : PO} {t : Nat} {want : Bool} : evalD env (⟨d, op, some (t, want), af⟩ :: is) s acc KD = guardD env KD is s d acc op t want (s.gd t) := by
  change withSome (s.gd t) _ = guardD env KD is s d acc op t want (s.gd t)
  cases h : s.gd t with
  | none => rfl
  | some b =>
    cases b with
    | none => exact propext ⟨fun k => k.2 (by simp), fun k => ⟨fun e => (by simp at e), fun _ => k⟩⟩
    | some b =>
      have hb := boo_self (gd_boo h)
      rw [guardD_some]
      show ((some b = some want → _) ∧ (some b ≠ some want → _)) = _
      rw [some_ne, Option.some.injEq]
      congr 1
      · apply propext
        refine forall_congr' fun he => ?_
        subst he
        rw [hb]
        rfl
      · apply propext
        refine forall_congr' fun he => ?_
        rw [← he, hb]
        rfl
theorem evalD_gT {op : PO} {t : Nat} {want : Bool} (h : s.gd t = some (some want)) : evalD env (⟨d, op, some (t, want), af⟩ :: is) s acc KD = goD env KD is s d acc op := by
  rw [evalD_guard, h, guardD_some, boo_self (gd_boo h)]
  exact propext ⟨fun k => k.1 rfl, fun k => ⟨fun _ => k, fun e => absurd e (by cases want <;> decide)⟩⟩
theorem evalD_gF {op : PO} {t : Nat} {want : Bool} (h : s.gd t = some (some (!want))) : evalD env (⟨d, op, some (t, want), af⟩ :: is) s acc KD = evalD env is (s.ap d skp .no) ((op.rd s (d.getD 0), []) :: acc) KD := by
  rw [evalD_guard, h, guardD_some, boo_self (gd_boo h)]
  exact propext ⟨fun k => k.2 rfl, fun k => ⟨fun e => absurd e (by cases want <;> decide), fun _ => k⟩⟩
theorem evalD_gS {op : PO} {t : Nat} {want : Bool} (h : s.gd t = some none) : evalD env (⟨d, op, some (t, want), af⟩ :: is) s acc KD = evalD env is (s.ap d skp .no) ((op.rd s (d.getD 0), []) :: acc) KD := by
  rw [evalD_guard, h, guardD_skp]

/-- what comes behind: codes, ends of blocks, of loops -/
inductive It where
  | c (x : PC)
  | bl (id : Nat)
  | lp (I : Nat → St → Prop) (n : Nat)
def exS (env : Env) : List It → (Exit → St → Prop) → Exit → St → Prop
  | [], Q, e, s => Q e s
  | .c b :: k, Q, e, s => match e with
    | .normal => pwp env b (exS env k Q) s
    | e => exS env k Q e s
  | .bl id :: k, Q, e, s => match e with
    | .exit i => if i = id then exS env k Q .normal s else exS env k Q (.exit i) s
    | e => exS env k Q e s
  | .lp I n :: k, Q, e, s => match e with
    | .normal => ∃ m, m < n ∧ I m s
    | e => exS env k Q e s

variable {k : List It} {Q : Exit → St → Prop}
theorem exS_nil {e : Exit} : exS env [] Q e s = Q e s := nrfl rfl
theorem exS_c {b : PC} : exS env (.c b :: k) Q .normal s = pwp env b (exS env k Q) s := nrfl rfl
theorem exS_c_ret {b : PC} : exS env (.c b :: k) Q .ret s = exS env k Q .ret s := nrfl rfl
theorem exS_c_exit {b : PC} {i : Nat} : exS env (.c b :: k) Q (.exit i) s = exS env k Q (.exit i) s := nrfl rfl
theorem exS_bl {id : Nat} : exS env (.bl id :: k) Q .normal s = exS env k Q .normal s := nrfl rfl
theorem exS_bl_ret {id : Nat} : exS env (.bl id :: k) Q .ret s = exS env k Q .ret s := nrfl rfl
theorem exS_bl_exit {id i : Nat} : exS env (.bl id :: k) Q (.exit i) s = if i = id then exS env k Q .normal s else exS env k Q (.exit i) s := nrfl rfl
theorem exS_lp {I : Nat → St → Prop} {n : Nat} : exS env (.lp I n :: k) Q .normal s = ∃ m, m < n ∧ I m s := nrfl rfl
theorem exS_lp_ret {I : Nat → St → Prop} {n : Nat} : exS env (.lp I n :: k) Q .ret s = exS env k Q .ret s := nrfl rfl
theorem exS_lp_exit {I : Nat → St → Prop} {n i : Nat} : exS env (.lp I n :: k) Q (.exit i) s = exS env k Q (.exit i) s := nrfl rfl

theorem pwp_start {c : PC} (h : pwp env c (exS env [] Q) s) : pwp env c Q s := h
/-- go on from a state of which only these slots and objects are known -/
theorem pwp_fresh {Q' : Exit → St → Prop} {c : PC} (sls obs : List Nat) (h : ∀ st : St, (∀ x, x ∈ sls → st.sl x = s.sl x) → (∀ o, o ∈ obs → st.gen o = s.gen o ∧ st.ob o = s.ob o) → pwp env c Q' st) : pwp env c Q' s := h s (fun _ _ => rfl) (fun _ _ => ⟨rfl, rfl⟩)
/-- the same with something known of the whole state -/
theorem pwp_freshP {Q' : Exit → St → Prop} {c : PC} (P : St → Prop) (hP : P s) (sls obs : List Nat) (h : ∀ st : St, P st → (∀ x, x ∈ sls → st.sl x = s.sl x) → (∀ o, o ∈ obs → st.gen o = s.gen o ∧ st.ob o = s.ob o) → pwp env c Q' st) : pwp env c Q' s := h s hP (fun _ _ => rfl) (fun _ _ => ⟨rfl, rfl⟩)
theorem pwp_skip : pwp env .skip (exS env k Q) s = exS env k Q .normal s := nrfl rfl
theorem pwp_reg {ops : List PI} : pwp env (.reg false ops) (exS env k Q) s = evalOps env ops s (exS env k Q .normal) := nrfl rfl
def drawn (ops : List PI) (K : St → Prop) (s : St) (fts : Ft) : Prop := drawOk ops fts = true ∧ K s
/-- the check of a drawn region: closed by drw -/
def Drw (ops : List PI) (fts : Ft) : Prop := drawOk ops fts = true
theorem drawn_and {ops : List PI} {K : St → Prop} {fts : Ft} : drawn ops K s fts = (Drw ops fts ∧ K s) := nrfl rfl
theorem pwp_regD {ops : List PI} : pwp env (.reg true ops) (exS env k Q) s = evalD env ops s [] (drawn ops (exS env k Q .normal)) := nrfl rfl
theorem pwp_seq {a b : PC} : pwp env (.seq a b) (exS env k Q) s = pwp env a (exS env (.c b :: k) Q) s := by
  show pwp env a _ s = _
  congr 1
def condS (env : Env) (a b : PC) (k : List It) (Q : Exit → St → Prop) (s : St) (o : Option Bool) : Prop := withSome o fun t => (t = true → pwp env a (exS env k Q) s) ∧ (t = false → pwp env b (exS env k Q) s)
theorem condS_some {a b : PC} {t : Bool} : condS env a b k Q s (some t) = ((t = true → pwp env a (exS env k Q) s) ∧ (t = false → pwp env b (exS env k Q) s)) := nrfl rfl
theorem pwp_cond {c : PX} {a b : PC} : pwp env (.cond c a b) (exS env k Q) s = condS env a b k Q s (s.boo c) := nrfl rfl
theorem pwp_block {id : Nat} {c : PC} : pwp env (.block id c) (exS env k Q) s = pwp env c (exS env (.bl id :: k) Q) s := by
  show pwp env c _ s = _
  congr 1
theorem pwp_exit {id : Nat} : pwp env (.exit id) (exS env k Q) s = exS env k Q (.exit id) s := nrfl rfl
theorem pwp_ret : pwp env .ret (exS env k Q) s = exS env k Q .ret s := nrfl rfl
theorem pwp_loop {c : PC} (I : Nat → St → Prop) (n : Nat) (h0 : I n s) (h : ∀ n s, I n s → pwp env c (exS env (.lp I n :: k) Q) s) : pwp env (.loop c) (exS env k Q) s := by
  refine ⟨I, ⟨n, h0⟩, fun n s hI => ?_⟩
  have := h n s hI
  have he : exS env (.lp I n :: k) Q = fun e s' => match e with | .normal => ∃ m, m < n ∧ I m s' | e => exS env k Q e s' := by
    funext e s'
    cases e <;> rfl
  rw [he] at this
  exact this

/-! the parts of a state -/
theorem ap_sl {x : Nat} {v : Av} {ch : Cg} : (s.ap (some x) v ch).sl = up s.sl x v := nrfl rfl
theorem ap_sl0 {v : Av} {ch : Cg} : (s.ap none v ch).sl = s.sl := nrfl rfl
theorem ap_gen {v : Av} : (s.ap d v .no).gen = s.gen := nrfl rfl
theorem ap_genw {v : Av} {o off : Nat} {cs : List Cl} : (s.ap d v (.wr o off cs)).gen = s.gen := nrfl rfl
theorem ap_genr {v : Av} {o m : Nat} : (s.ap d v (.row o m)).gen = s.gen := nrfl rfl
theorem ap_genn {v : Av} {o : Nat} {x : Ob} : (s.ap d v (.new o x)).gen = up s.gen o (s.gen o + 1) := nrfl rfl
theorem ap_ob {v : Av} : (s.ap d v .no).ob = s.ob := nrfl rfl
theorem ap_obw {v : Av} {o off : Nat} {cs : List Cl} : (s.ap d v (.wr o off cs)).ob = up s.ob o (wrF off cs (s.ob o)) := by
  rw [ap_eq]; rfl
theorem ap_obr {v : Av} {o m : Nat} : (s.ap d v (.row o m)).ob = up s.ob o (rowF m (s.ob o)) := by
  rw [ap_eq]; rfl
theorem ap_obn {v : Av} {o : Nat} {x : Ob} : (s.ap d v (.new o x)).ob = up s.ob o x := nrfl rfl
theorem wrF_cells {off : Nat} {cs old : List Cl} : wrF off cs (.cells old) = .cells (wrAt old off cs) := nrfl rfl
theorem rowF_row {m E sz n : Nat} : rowF m (.row E sz n) = .row E sz m := nrfl rfl

def initSl : List Pa → Nat → Av
  | [], _ => .un
  | p :: _, 0 => .b p.bv
  | _ :: r, n + 1 => initSl r n
theorem init_sl (ps : List Pa) (x : Nat) : (St.init ps).sl x = initSl ps x := by
  show (match ps[x]? with | some p => Av.b p.bv | none => .un) = _
  induction ps generalizing x with
  | nil => simp [initSl]
  | cons p r ih =>
    cases x with
    | zero => rfl
    | succ x => rw [List.getElem?_cons_succ, ih x]; rfl
theorem init_gen {ps : List Pa} {x : Nat} : (St.init ps).gen x = 0 := nrfl rfl
theorem init_ob {ps : List Pa} {x : Nat} : (St.init ps).ob x = .no := nrfl rfl

theorem ev_t {x : Nat} : s.ev (.t x) = s.sl x := nrfl rfl
theorem ev_int {k : IntKind} {m : Int} : s.ev (.v (.int k m)) = .b (.one (.d (.sc (.int k m)))) := nrfl rfl
theorem ev_bool {b : Bool} : s.ev (.v (.bool b)) = .b (.one (.d (.sc (.bool b)))) := nrfl rfl
theorem ev_string {b : ByteArray} : s.ev (.v (.string b)) = .b (.one (.d (.sc (.string b)))) := nrfl rfl
theorem ev_nil : s.ev (.v (.slice none 0 0)) = .b (.one (.d (.sc (.slice none 0 0)))) := nrfl rfl
theorem ev_agg {l : Array Value} : s.ev (.v (.agg l)) = .b (.agg (l.toList.map fun v => .d (.sc v))) := nrfl rfl
theorem ev_ptr : s.ev (.v (.pointer none)) = .b (.one (.d (.sc (.pointer none)))) := nrfl rfl

theorem args_nil : s.args [] = some [] := nrfl rfl
theorem args_cons {x : PX} {xs : List PX} : s.args (x :: xs) = (match (s.ev x).pa with | some p => (s.args xs).map (p :: ·) | none => none) := by
  unfold St.args
  simp only [List.map_cons]
  cases (s.ev x).pa <;> rfl
end

/-- st is s0 but for the slots ms and the objects os -/
def Within (ms os : List Nat) (s0 st : St) : Prop := (∀ x, ms.contains x = false → st.sl x = s0.sl x) ∧ ∀ o, os.contains o = false → st.gen o = s0.gen o ∧ st.ob o = s0.ob o
def over (ms os : List Nat) (s0 j : St) : St := ⟨fun x => bif ms.contains x then j.sl x else s0.sl x, fun o => bif os.contains o then j.gen o else s0.gen o, fun o => bif os.contains o then j.ob o else s0.ob o⟩
theorem Within.refl (ms os : List Nat) (s : St) : Within ms os s s := ⟨fun _ _ => rfl, fun _ _ => ⟨rfl, rfl⟩⟩
theorem Within.over {ms os : List Nat} {s0 st : St} (h : Within ms os s0 st) : ∃ j, st = over ms os s0 j := by
  refine ⟨st, ?_⟩
  obtain ⟨h1, h2⟩ := h
  have e1 : st.sl = (Go.Proofs.Ytkdagjlkejefnaa.over ms os s0 st).sl := by
    funext x
    show st.sl x = bif ms.contains x then st.sl x else s0.sl x
    cases hx : ms.contains x with
    | true => rfl
    | false => exact h1 x hx
  have e2 : st.gen = (Go.Proofs.Ytkdagjlkejefnaa.over ms os s0 st).gen := by
    funext x
    show st.gen x = bif os.contains x then st.gen x else s0.gen x
    cases hx : os.contains x with
    | true => rfl
    | false => exact (h2 x hx).1
  have e3 : st.ob = (Go.Proofs.Ytkdagjlkejefnaa.over ms os s0 st).ob := by
    funext x
    show st.ob x = bif os.contains x then st.ob x else s0.ob x
    cases hx : os.contains x with
    | true => rfl
    | false => exact (h2 x hx).2
  show (⟨st.sl, st.gen, st.ob⟩ : St) = ⟨(Go.Proofs.Ytkdagjlkejefnaa.over ms os s0 st).sl, (Go.Proofs.Ytkdagjlkejefnaa.over ms os s0 st).gen, (Go.Proofs.Ytkdagjlkejefnaa.over ms os s0 st).ob⟩
  rw [← e1, ← e2, ← e3]
theorem over_sl {ms os : List Nat} {s0 j : St} {x : Nat} : (over ms os s0 j).sl x = bif ms.contains x then j.sl x else s0.sl x := nrfl rfl
theorem over_gen {ms os : List Nat} {s0 j : St} {x : Nat} : (over ms os s0 j).gen x = bif os.contains x then j.gen x else s0.gen x := nrfl rfl
theorem over_ob {ms os : List Nat} {s0 j : St} {x : Nat} : (over ms os s0 j).ob x = bif os.contains x then j.ob x else s0.ob x := nrfl rfl
theorem within_over {ms os : List Nat} {s0 j : St} : Within ms os s0 (over ms os s0 j) = True := by
  apply propext
  refine ⟨fun _ => trivial, fun _ => ⟨fun x hx => ?_, fun o ho => ⟨?_, ?_⟩⟩⟩
  · rw [over_sl, hx]; rfl
  · rw [over_gen, ho]; rfl
  · rw [over_ob, ho]; rfl
theorem within_self {ms os : List Nat} {s : St} : Within ms os s s = True := propext ⟨fun _ => trivial, fun _ => Within.refl _ _ _⟩
def chIn (os : List Nat) : Cg → Bool
  | .no => true
  | .new o _ => os.contains o
  | .wr o _ _ => os.contains o
  | .row o _ => os.contains o
theorem Within.ap {ms os : List Nat} {s0 s : St} {d : Option Nat} {v : Av} {ch : Cg} (h : Within ms os s0 s) (hd : ∀ x, d = some x → ms.contains x = true) (hc : chIn os ch = true) : Within ms os s0 (s.ap d v ch) := by
  obtain ⟨h1, h2⟩ := h
  rw [ap_eq]
  refine ⟨fun x hx => ?_, fun o ho => ?_⟩
  · cases d with
    | none => exact h1 x hx
    | some y =>
      show up s.sl y v x = _
      rw [up_at, if_neg]
      · exact h1 x hx
      · rintro rfl
        rw [hd x rfl] at hx
        cases hx
  · have key : ∀ y : Nat, os.contains y = true → o ≠ y := by
      rintro y hy rfl
      rw [hy] at ho; cases ho
    show ch.gF s.gen o = _ ∧ ch.oF s.ob o = _
    cases ch with
    | no => exact h2 o ho
    | new y x => simp only [Cg.gF, Cg.oF, Go.Proofs.Ytkdagjlkejefnaa.md, up_at, if_neg (key y hc)]; exact h2 o ho
    | wr y off cs => simp only [Cg.gF, Cg.oF, Go.Proofs.Ytkdagjlkejefnaa.md, up_at, if_neg (key y hc)]; exact h2 o ho
    | row y m => simp only [Cg.gF, Cg.oF, Go.Proofs.Ytkdagjlkejefnaa.md, up_at, if_neg (key y hc)]; exact h2 o ho
theorem within_ap {ms os : List Nat} {s0 s : St} {x : Nat} {v : Av} {ch : Cg} (h : Within ms os s0 s) (hd : ms.contains x = true) (hc : chIn os ch = true) : Within ms os s0 (s.ap (some x) v ch) := h.ap (fun y hy => by cases hy; exact hd) hc
theorem within_ap0 {ms os : List Nat} {s0 s : St} {v : Av} {ch : Cg} (h : Within ms os s0 s) (hc : chIn os ch = true) : Within ms os s0 (s.ap none v ch) := h.ap (fun y hy => by cases hy) hc
theorem Within.trans {ms os : List Nat} {a b c : St} (h : Within ms os a b) (k : Within ms os b c) : Within ms os a c :=
  ⟨fun x hx => (k.1 x hx).trans (h.1 x hx), fun o ho => ⟨(k.2 o ho).1.trans (h.2 o ho).1, (k.2 o ho).2.trans (h.2 o ho).2⟩⟩

/-- a loop that turns the slots ms and the objects os alone -/
theorem pwp_loopW {env : Env} {k : List It} {Q : Exit → St → Prop} {s : St} {c : PC} (ms os : List Nat) (J : Nat → St → Prop) (m0 : Nat) (h0 : J m0 s)
    (h : ∀ m j, J m (over ms os s j) → pwp env c (exS env (.lp (fun m st => Within ms os s st ∧ J m st) m :: k) Q) (over ms os s j)) : pwp env (.loop c) (exS env k Q) s :=
  pwp_loop (fun m st => Within ms os s st ∧ J m st) m0 ⟨Within.refl _ _ _, h0⟩ (fun m st ⟨hW, hJ⟩ => by
    obtain ⟨j, rfl⟩ := hW.over
    exact h m j hJ)

/-! numbers -/
theorem wr64 {x : Int} (h1 : -9223372036854775808 ≤ x) (h2 : x ≤ 9223372036854775807) : IntKind.i64.wrap x = x := IntWalk.i64_in x ⟨h1, h2⟩
theorem wrN {k : Nat} (h : k ≤ 1000000000) : IntKind.i64.wrap ((k : Int) + 1) = ((k + 1 : Nat) : Int) := by
  rw [wr64 (by omega) (by omega)]; omega
end Go.Proofs.Ytkdagjlkejefnaa
end
section
set_option linter.unusedSimpArgs false
set_option linter.unusedVariables false
namespace Go.Proofs.Ytkdagjlkejefnaa
open Go Go.RowKit
set_option maxRecDepth 100000
def unN : Option Value → Option (Av × Cg)
  | some (.bool b) => some (scAv (.bool !b), .no)
  | _ => none
def unG : Option Value → Option (Av × Cg)
  | some (.int k n) => some (scAv (.int k (k.wrap (0 - n))), .no)
  | _ => none
def unX : Option Value → Option (Av × Cg)
  | some (.int k n) => some (scAv (.int k (k.wrap (BitVec.ofInt k.bits (if k.signed then -1 else k.max) ^^^ BitVec.ofInt k.bits n).toNat)), .no)
  | _ => none
theorem fn_not {s : St} {d : Nat} {x : PX} : PO.fn s d (.un .not x) = unN (s.val x) := by
  cases h : s.val x with
  | none => simp only [PO.fn, h, unN]
  | some v => cases v <;> simp only [PO.fn, h, unN]
theorem fn_neg {s : St} {d : Nat} {x : PX} : PO.fn s d (.un .neg x) = unG (s.val x) := by
  cases h : s.val x with
  | none => simp only [PO.fn, h, unG]
  | some v => cases v <;> simp only [PO.fn, h, unG]
theorem fn_xor {s : St} {d : Nat} {x : PX} : PO.fn s d (.un .xor x) = unX (s.val x) := by
  cases h : s.val x with
  | none => simp only [PO.fn, h, unX]
  | some v => cases v <;> simp only [PO.fn, h, unX]
theorem evP : type_of% (
  And.intro @evalOps_gT <|
  And.intro @evalOps_gF <|
  And.intro @evalOps_gS <|
  And.intro @evalD_gT <|
  And.intro @evalD_gF <|
  And.intro @evalD_gS <|
  And.intro @pwp_skip <|
  And.intro @pwp_reg <|
  And.intro @pwp_regD <|
  And.intro @pwp_seq <|
  And.intro @pwp_cond <|
  And.intro @pwp_block <|
  And.intro @pwp_exit <|
  @pwp_ret) :=
  And.intro @evalOps_gT <|
  And.intro @evalOps_gF <|
  And.intro @evalOps_gS <|
  And.intro @evalD_gT <|
  And.intro @evalD_gF <|
  And.intro @evalD_gS <|
  And.intro @pwp_skip <|
  And.intro @pwp_reg <|
  And.intro @pwp_regD <|
  And.intro @pwp_seq <|
  And.intro @pwp_cond <|
  And.intro @pwp_block <|
  And.intro @pwp_exit <|
  @pwp_ret
theorem evB : type_of% (
  And.intro @guardOps_skp <|
  And.intro @guardD_skp <|
  And.intro @St.gd.eq_1 <|
  And.intro @isSkp.eq_1 <|
  And.intro @isSkp.eq_2 <|
  And.intro @isSkp.eq_3 <|
  And.intro @isSkp.eq_4 <|
  And.intro @skp.eq_1 <|
  And.intro @condS_some <|
  And.intro @exS_nil <|
  And.intro @exS_c <|
  And.intro @exS_c_ret <|
  And.intro @exS_c_exit <|
  And.intro @exS_bl <|
  And.intro @exS_bl_ret <|
  And.intro @exS_bl_exit <|
  And.intro @exS_lp_ret <|
  And.intro @exS_lp_exit <|
  And.intro @evalOps_nil <|
  And.intro @evalOps_op <|
  And.intro @opS_false <|
  And.intro @opS_true <|
  And.intro @evalOps_guard <|
  And.intro @contOps_some <|
  And.intro @guardOps_some <|
  And.intro @evalD_nil <|
  And.intro @drawn_and <|
  And.intro @List.reverse_cons.{0} <|
  And.intro @List.reverse_nil.{0} <|
  And.intro @evalD_plain <|
  And.intro @evalD_guard <|
  And.intro @goD_op <|
  And.intro @opD_false <|
  And.intro @opD_true <|
  And.intro @contD_some <|
  @guardD_some) :=
  And.intro @guardOps_skp <|
  And.intro @guardD_skp <|
  And.intro @St.gd.eq_1 <|
  And.intro @isSkp.eq_1 <|
  And.intro @isSkp.eq_2 <|
  And.intro @isSkp.eq_3 <|
  And.intro @isSkp.eq_4 <|
  And.intro @skp.eq_1 <|
  And.intro @condS_some <|
  And.intro @exS_nil <|
  And.intro @exS_c <|
  And.intro @exS_c_ret <|
  And.intro @exS_c_exit <|
  And.intro @exS_bl <|
  And.intro @exS_bl_ret <|
  And.intro @exS_bl_exit <|
  And.intro @exS_lp_ret <|
  And.intro @exS_lp_exit <|
  And.intro @evalOps_nil <|
  And.intro @evalOps_op <|
  And.intro @opS_false <|
  And.intro @opS_true <|
  And.intro @evalOps_guard <|
  And.intro @contOps_some <|
  And.intro @guardOps_some <|
  And.intro @evalD_nil <|
  And.intro @drawn_and <|
  And.intro @List.reverse_cons.{0} <|
  And.intro @List.reverse_nil.{0} <|
  And.intro @evalD_plain <|
  And.intro @evalD_guard <|
  And.intro @goD_op <|
  And.intro @opD_false <|
  And.intro @opD_true <|
  And.intro @contD_some <|
  @guardD_some
theorem stB : type_of% (
  And.intro @PO.isCall.eq_1 <|
  And.intro @PO.isCall.eq_2 <|
  And.intro @PO.isCall.eq_3 <|
  And.intro @PO.isCall.eq_4 <|
  And.intro @PO.isCall.eq_5 <|
  And.intro @PO.isCall.eq_6 <|
  And.intro @PO.isCall.eq_7 <|
  And.intro @PO.isCall.eq_8 <|
  And.intro @PO.isCall.eq_9 <|
  And.intro @PO.isCall.eq_10 <|
  And.intro @PO.isCall.eq_11 <|
  And.intro @PO.isCall.eq_12 <|
  And.intro @PO.isCall.eq_13 <|
  And.intro @PO.isCall.eq_14 <|
  And.intro @PO.isCall.eq_15 <|
  And.intro @PO.isCall.eq_16 <|
  And.intro @PO.isCall.eq_17 <|
  And.intro @PO.isCall.eq_18 <|
  And.intro @PO.isCall.eq_19 <|
  And.intro @PO.isCall.eq_20 <|
  And.intro @PO.isCall.eq_21 <|
  And.intro @PO.isCall.eq_22 <|
  And.intro @PO.isCall.eq_23 <|
  And.intro @PO.isCall.eq_24 <|
  And.intro @PO.isCall.eq_25 <|
  And.intro @PO.isCall.eq_26 <|
  And.intro @PO.isCall.eq_27 <|
  And.intro @PO.isCall.eq_28 <|
  And.intro @PO.isCall.eq_29 <|
  And.intro @PO.isCall.eq_30 <|
  And.intro @PO.isCall.eq_31 <|
  And.intro @PO.isCall.eq_32 <|
  And.intro @Option.getD_some.{0} <|
  And.intro @Option.getD_none.{0} <|
  And.intro @ap_sl <|
  And.intro @ap_sl0 <|
  And.intro @ap_gen <|
  And.intro @ap_genw <|
  And.intro @ap_genr <|
  And.intro @ap_genn <|
  And.intro @ap_ob <|
  And.intro @ap_obw <|
  And.intro @ap_obr <|
  And.intro @ap_obn <|
  And.intro @wrF_cells <|
  And.intro @rowF_row <|
  And.intro @init_sl <|
  And.intro @initSl.eq_1 <|
  And.intro @initSl.eq_2 <|
  And.intro @initSl.eq_3 <|
  And.intro @init_gen <|
  And.intro @init_ob <|
  And.intro @ev_t <|
  And.intro @ev_int <|
  And.intro @ev_bool <|
  And.intro @ev_string <|
  And.intro @ev_nil <|
  And.intro @ev_agg <|
  And.intro @ev_ptr <|
  And.intro @args_nil <|
  And.intro @args_cons <|
  And.intro @up_at <|
  And.intro @PO.fn.eq_1 <|
  And.intro @PO.fn.eq_2 <|
  And.intro @PO.fn.eq_3 <|
  And.intro @PO.fn.eq_4 <|
  And.intro @PO.fn.eq_5 <|
  And.intro @PO.fn.eq_6 <|
  And.intro @PO.fn.eq_7 <|
  And.intro @PO.fn.eq_8 <|
  And.intro @PO.fn.eq_9 <|
  And.intro @PO.fn.eq_10 <|
  And.intro @PO.fn.eq_11 <|
  And.intro @PO.fn.eq_12 <|
  And.intro @PO.fn.eq_13 <|
  And.intro @PO.fn.eq_14 <|
  And.intro @PO.fn.eq_15 <|
  And.intro @PO.fn.eq_16 <|
  And.intro @PO.fn.eq_17 <|
  And.intro @PO.fn.eq_18 <|
  And.intro @PO.fn.eq_23 <|
  And.intro @PO.fn.eq_24 <|
  And.intro @PO.fn.eq_25 <|
  And.intro @PO.fn.eq_26 <|
  And.intro @PO.fn.eq_27 <|
  And.intro @PO.fn.eq_28 <|
  And.intro @PO.fn.eq_29 <|
  And.intro @PO.fn.eq_30 <|
  And.intro @PO.fn.eq_31 <|
  And.intro @PO.fn.eq_32 <|
  And.intro @PO.fn.eq_33 <|
  And.intro @PO.fn.eq_34 <|
  And.intro @PO.fn.eq_35 <|
  And.intro @fn_not <|
  And.intro @fn_neg <|
  And.intro @fn_xor <|
  And.intro @unN.eq_1 <|
  And.intro @unG.eq_1 <|
  And.intro @unX.eq_1 <|
  And.intro @PO.rd.eq_1 <|
  And.intro @PO.rd.eq_2 <|
  And.intro @PO.rd.eq_3 <|
  And.intro @PO.rd.eq_4 <|
  And.intro @PO.rd.eq_5 <|
  And.intro @PO.rd.eq_6 <|
  And.intro @PO.rd.eq_7 <|
  And.intro @PO.rd.eq_8 <|
  And.intro @PO.rd.eq_9 <|
  And.intro @PO.rd.eq_10 <|
  And.intro @PO.rd.eq_11 <|
  And.intro @PO.rd.eq_12 <|
  And.intro @PO.rd.eq_13 <|
  And.intro @Cg.wrs.eq_1 <|
  And.intro @Cg.wrs.eq_2 <|
  And.intro @Cg.wrs.eq_3 <|
  And.intro @Cg.wrs.eq_4 <|
  And.intro @St.cl.eq_1 <|
  And.intro @St.val.eq_1 <|
  And.intro @St.int.eq_1 <|
  And.intro @St.boo.eq_1 <|
  And.intro @St.cs.eq_1 <|
  And.intro @St.parts.eq_1 <|
  And.intro @St.parts.eq_2 <|
  And.intro @scAv.eq_1 <|
  And.intro @Cl.rows.eq_1 <|
  And.intro @Cl.rows.eq_2 <|
  And.intro @Cl.rows.eq_3 <|
  And.intro @Cl.rows.eq_4 <|
  And.intro @Cl.rows.eq_5 <|
  And.intro @Cl.dt.eq_1 <|
  And.intro @Cl.dt.eq_2 <|
  And.intro @Cl.dt.eq_3 <|
  And.intro @Cl.dt.eq_4 <|
  And.intro @Cl.dt.eq_5 <|
  And.intro @Bv.pa.eq_1 <|
  And.intro @Bv.pa.eq_2 <|
  And.intro @Av.pa.eq_1 <|
  And.intro @Av.pa.eq_2 <|
  And.intro @Pa.bv.eq_1 <|
  And.intro @Pa.bv.eq_2 <|
  And.intro @resAv.eq_1 <|
  And.intro @resAv.eq_2 <|
  And.intro @resAv.eq_3 <|
  And.intro @allSome.eq_1 <|
  And.intro @allSome.eq_2 <|
  And.intro @allSome.eq_3 <|
  And.intro @mkAv.eq_1 <|
  And.intro @mkAv.eq_2 <|
  And.intro @wrAt.eq_1 <|
  And.intro @wrAt.eq_2 <|
  And.intro @wrAt.eq_3 <|
  And.intro @wrAt.eq_4 <|
  And.intro @splice.eq_1 <|
  And.intro @fillAll.eq_1 <|
  And.intro @fillAll.eq_2 <|
  And.intro @chunks.eq_1 <|
  And.intro @chunks.eq_2 <|
  And.intro @scBin.eq_1 <|
  And.intro @scBin.eq_2 <|
  And.intro @scBin.eq_3 <|
  And.intro @scBin.eq_4 <|
  And.intro @scBin.eq_5 <|
  And.intro @scBin.eq_6 <|
  And.intro @scBin.eq_7 <|
  And.intro @scBin.eq_8 <|
  And.intro @scBin.eq_9 <|
  And.intro @scBin.eq_10 <|
  And.intro @scBin.eq_11 <|
  And.intro @scBin.eq_12 <|
  And.intro @scBin.eq_13 <|
  And.intro @scBin.eq_14 <|
  And.intro @scBin.eq_15 <|
  And.intro @scBin.eq_16 <|
  And.intro @scBin.eq_17 <|
  And.intro @scBin.eq_18 <|
  And.intro @scBin.eq_19 <|
  And.intro @scBin.eq_20 <|
  And.intro @scBin.eq_21 <|
  And.intro @scBin.eq_22 <|
  And.intro @eqCl.eq_1 <|
  And.intro @eqCl.eq_2 <|
  And.intro @eqCl.eq_3 <|
  And.intro @eqCls.eq_1 <|
  And.intro @eqCls.eq_2 <|
  And.intro @eqCls.eq_3 <|
  And.intro @scMM.eq_1 <|
  And.intro @scMM.eq_2 <|
  And.intro @Option.map_some.{0,0} <|
  And.intro @Option.map_none.{0,0} <|
  And.intro @Option.bind_some.{0,0} <|
  And.intro @List.map_cons.{0,0} <|
  And.intro @List.map_nil.{0,0} <|
  And.intro @List.length_cons.{0} <|
  And.intro @List.length_nil.{0} <|
  And.intro @List.getElem?_cons_succ.{0} <|
  And.intro @List.getElem?_cons_zero.{0} <|
  And.intro @List.take_succ_cons.{0} <|
  And.intro @List.take_zero.{0} <|
  And.intro @List.drop_succ_cons.{0} <|
  And.intro @List.drop_zero.{0} <|
  And.intro @List.cons_append.{0} <|
  And.intro @List.nil_append.{0} <|
  And.intro @List.append_nil.{0} <|
  And.intro @if_true.{1} <|
  And.intro @if_false.{1} <|
  And.intro @ite_true.{1} <|
  And.intro @ite_false.{1} <|
  And.intro @ne_eq.{1} <|
  And.intro @not_true <|
  And.intro @not_false_eq_true <|
  And.intro @Nat.add_zero <|
  And.intro @Nat.zero_add <|
  And.intro @and_true <|
  And.intro @true_and <|
  And.intro @and_self <|
  And.intro @forall_const.{1} <|
  And.intro @forall_const.{0} <|
  And.intro @Bool.not_true <|
  And.intro @Bool.not_false <|
  And.intro @Nat.succ_eq_add_one <|
  And.intro @imp_false <|
  And.intro @false_imp_iff <|
  And.intro @forall_false <|
  And.intro @true_imp_iff <|
  And.intro @Bool.and_true <|
  And.intro @Bool.and_false <|
  And.intro @Bool.true_and <|
  And.intro @Bool.false_and <|
  And.intro @implies_true.{1} <|
  And.intro @implies_true.{0} <|
  And.intro @over_sl <|
  And.intro @over_gen <|
  And.intro @over_ob <|
  And.intro @List.contains_cons.{0} <|
  And.intro @List.contains_nil.{0} <|
  And.intro @Bool.or_false <|
  And.intro @Bool.or_true <|
  And.intro @Bool.false_or <|
  And.intro @Bool.true_or <|
  And.intro @cond_true.{1} <|
  And.intro @cond_false.{1} <|
  And.intro @Bool.cond_true.{0} <|
  And.intro @Bool.cond_false.{0} <|
  And.intro @Int.toNat_natCast <|
  And.intro @Int.natCast_nonneg <|
  And.intro @List.getElem?_map.{0,0} <|
  And.intro @List.length_map.{0,0} <|
  And.intro @List.mem_cons.{0} <|
  And.intro @List.not_mem_nil.{0} <|
  And.intro @forall_eq.{1} <|
  And.intro @forall_eq_or_imp.{1} <|
  And.intro @false_or <|
  And.intro @or_true <|
  And.intro @true_or <|
  And.intro @or_false <|
  And.intro @St.res.eq_1 <|
  And.intro @St.res1.eq_1 <|
  And.intro @St.res1.eq_2 <|
  And.intro @decide_eq_true_eq <|
  @decide_eq_false_iff_not) :=
  And.intro @PO.isCall.eq_1 <|
  And.intro @PO.isCall.eq_2 <|
  And.intro @PO.isCall.eq_3 <|
  And.intro @PO.isCall.eq_4 <|
  And.intro @PO.isCall.eq_5 <|
  And.intro @PO.isCall.eq_6 <|
  And.intro @PO.isCall.eq_7 <|
  And.intro @PO.isCall.eq_8 <|
  And.intro @PO.isCall.eq_9 <|
  And.intro @PO.isCall.eq_10 <|
  And.intro @PO.isCall.eq_11 <|
  And.intro @PO.isCall.eq_12 <|
  And.intro @PO.isCall.eq_13 <|
  And.intro @PO.isCall.eq_14 <|
  And.intro @PO.isCall.eq_15 <|
  And.intro @PO.isCall.eq_16 <|
  And.intro @PO.isCall.eq_17 <|
  And.intro @PO.isCall.eq_18 <|
  And.intro @PO.isCall.eq_19 <|
  And.intro @PO.isCall.eq_20 <|
  And.intro @PO.isCall.eq_21 <|
  And.intro @PO.isCall.eq_22 <|
  And.intro @PO.isCall.eq_23 <|
  And.intro @PO.isCall.eq_24 <|
  And.intro @PO.isCall.eq_25 <|
  And.intro @PO.isCall.eq_26 <|
  And.intro @PO.isCall.eq_27 <|
  And.intro @PO.isCall.eq_28 <|
  And.intro @PO.isCall.eq_29 <|
  And.intro @PO.isCall.eq_30 <|
  And.intro @PO.isCall.eq_31 <|
  And.intro @PO.isCall.eq_32 <|
  And.intro @Option.getD_some.{0} <|
  And.intro @Option.getD_none.{0} <|
  And.intro @ap_sl <|
  And.intro @ap_sl0 <|
  And.intro @ap_gen <|
  And.intro @ap_genw <|
  And.intro @ap_genr <|
  And.intro @ap_genn <|
  And.intro @ap_ob <|
  And.intro @ap_obw <|
  And.intro @ap_obr <|
  And.intro @ap_obn <|
  And.intro @wrF_cells <|
  And.intro @rowF_row <|
  And.intro @init_sl <|
  And.intro @initSl.eq_1 <|
  And.intro @initSl.eq_2 <|
  And.intro @initSl.eq_3 <|
  And.intro @init_gen <|
  And.intro @init_ob <|
  And.intro @ev_t <|
  And.intro @ev_int <|
  And.intro @ev_bool <|
  And.intro @ev_string <|
  And.intro @ev_nil <|
  And.intro @ev_agg <|
  And.intro @ev_ptr <|
  And.intro @args_nil <|
  And.intro @args_cons <|
  And.intro @up_at <|
  And.intro @PO.fn.eq_1 <|
  And.intro @PO.fn.eq_2 <|
  And.intro @PO.fn.eq_3 <|
  And.intro @PO.fn.eq_4 <|
  And.intro @PO.fn.eq_5 <|
  And.intro @PO.fn.eq_6 <|
  And.intro @PO.fn.eq_7 <|
  And.intro @PO.fn.eq_8 <|
  And.intro @PO.fn.eq_9 <|
  And.intro @PO.fn.eq_10 <|
  And.intro @PO.fn.eq_11 <|
  And.intro @PO.fn.eq_12 <|
  And.intro @PO.fn.eq_13 <|
  And.intro @PO.fn.eq_14 <|
  And.intro @PO.fn.eq_15 <|
  And.intro @PO.fn.eq_16 <|
  And.intro @PO.fn.eq_17 <|
  And.intro @PO.fn.eq_18 <|
  And.intro @PO.fn.eq_23 <|
  And.intro @PO.fn.eq_24 <|
  And.intro @PO.fn.eq_25 <|
  And.intro @PO.fn.eq_26 <|
  And.intro @PO.fn.eq_27 <|
  And.intro @PO.fn.eq_28 <|
  And.intro @PO.fn.eq_29 <|
  And.intro @PO.fn.eq_30 <|
  And.intro @PO.fn.eq_31 <|
  And.intro @PO.fn.eq_32 <|
  And.intro @PO.fn.eq_33 <|
  And.intro @PO.fn.eq_34 <|
  And.intro @PO.fn.eq_35 <|
  And.intro @fn_not <|
  And.intro @fn_neg <|
  And.intro @fn_xor <|
  And.intro @unN.eq_1 <|
  And.intro @unG.eq_1 <|
  And.intro @unX.eq_1 <|
  And.intro @PO.rd.eq_1 <|
  And.intro @PO.rd.eq_2 <|
  And.intro @PO.rd.eq_3 <|
  And.intro @PO.rd.eq_4 <|
  And.intro @PO.rd.eq_5 <|
  And.intro @PO.rd.eq_6 <|
  And.intro @PO.rd.eq_7 <|
  And.intro @PO.rd.eq_8 <|
  And.intro @PO.rd.eq_9 <|
  And.intro @PO.rd.eq_10 <|
  And.intro @PO.rd.eq_11 <|
  And.intro @PO.rd.eq_12 <|
  And.intro @PO.rd.eq_13 <|
  And.intro @Cg.wrs.eq_1 <|
  And.intro @Cg.wrs.eq_2 <|
  And.intro @Cg.wrs.eq_3 <|
  And.intro @Cg.wrs.eq_4 <|
  And.intro @St.cl.eq_1 <|
  And.intro @St.val.eq_1 <|
  And.intro @St.int.eq_1 <|
  And.intro @St.boo.eq_1 <|
  And.intro @St.cs.eq_1 <|
  And.intro @St.parts.eq_1 <|
  And.intro @St.parts.eq_2 <|
  And.intro @scAv.eq_1 <|
  And.intro @Cl.rows.eq_1 <|
  And.intro @Cl.rows.eq_2 <|
  And.intro @Cl.rows.eq_3 <|
  And.intro @Cl.rows.eq_4 <|
  And.intro @Cl.rows.eq_5 <|
  And.intro @Cl.dt.eq_1 <|
  And.intro @Cl.dt.eq_2 <|
  And.intro @Cl.dt.eq_3 <|
  And.intro @Cl.dt.eq_4 <|
  And.intro @Cl.dt.eq_5 <|
  And.intro @Bv.pa.eq_1 <|
  And.intro @Bv.pa.eq_2 <|
  And.intro @Av.pa.eq_1 <|
  And.intro @Av.pa.eq_2 <|
  And.intro @Pa.bv.eq_1 <|
  And.intro @Pa.bv.eq_2 <|
  And.intro @resAv.eq_1 <|
  And.intro @resAv.eq_2 <|
  And.intro @resAv.eq_3 <|
  And.intro @allSome.eq_1 <|
  And.intro @allSome.eq_2 <|
  And.intro @allSome.eq_3 <|
  And.intro @mkAv.eq_1 <|
  And.intro @mkAv.eq_2 <|
  And.intro @wrAt.eq_1 <|
  And.intro @wrAt.eq_2 <|
  And.intro @wrAt.eq_3 <|
  And.intro @wrAt.eq_4 <|
  And.intro @splice.eq_1 <|
  And.intro @fillAll.eq_1 <|
  And.intro @fillAll.eq_2 <|
  And.intro @chunks.eq_1 <|
  And.intro @chunks.eq_2 <|
  And.intro @scBin.eq_1 <|
  And.intro @scBin.eq_2 <|
  And.intro @scBin.eq_3 <|
  And.intro @scBin.eq_4 <|
  And.intro @scBin.eq_5 <|
  And.intro @scBin.eq_6 <|
  And.intro @scBin.eq_7 <|
  And.intro @scBin.eq_8 <|
  And.intro @scBin.eq_9 <|
  And.intro @scBin.eq_10 <|
  And.intro @scBin.eq_11 <|
  And.intro @scBin.eq_12 <|
  And.intro @scBin.eq_13 <|
  And.intro @scBin.eq_14 <|
  And.intro @scBin.eq_15 <|
  And.intro @scBin.eq_16 <|
  And.intro @scBin.eq_17 <|
  And.intro @scBin.eq_18 <|
  And.intro @scBin.eq_19 <|
  And.intro @scBin.eq_20 <|
  And.intro @scBin.eq_21 <|
  And.intro @scBin.eq_22 <|
  And.intro @eqCl.eq_1 <|
  And.intro @eqCl.eq_2 <|
  And.intro @eqCl.eq_3 <|
  And.intro @eqCls.eq_1 <|
  And.intro @eqCls.eq_2 <|
  And.intro @eqCls.eq_3 <|
  And.intro @scMM.eq_1 <|
  And.intro @scMM.eq_2 <|
  And.intro @Option.map_some.{0,0} <|
  And.intro @Option.map_none.{0,0} <|
  And.intro @Option.bind_some.{0,0} <|
  And.intro @List.map_cons.{0,0} <|
  And.intro @List.map_nil.{0,0} <|
  And.intro @List.length_cons.{0} <|
  And.intro @List.length_nil.{0} <|
  And.intro @List.getElem?_cons_succ.{0} <|
  And.intro @List.getElem?_cons_zero.{0} <|
  And.intro @List.take_succ_cons.{0} <|
  And.intro @List.take_zero.{0} <|
  And.intro @List.drop_succ_cons.{0} <|
  And.intro @List.drop_zero.{0} <|
  And.intro @List.cons_append.{0} <|
  And.intro @List.nil_append.{0} <|
  And.intro @List.append_nil.{0} <|
  And.intro @if_true.{1} <|
  And.intro @if_false.{1} <|
  And.intro @ite_true.{1} <|
  And.intro @ite_false.{1} <|
  And.intro @ne_eq.{1} <|
  And.intro @not_true <|
  And.intro @not_false_eq_true <|
  And.intro @Nat.add_zero <|
  And.intro @Nat.zero_add <|
  And.intro @and_true <|
  And.intro @true_and <|
  And.intro @and_self <|
  And.intro @forall_const.{1} <|
  And.intro @forall_const.{0} <|
  And.intro @Bool.not_true <|
  And.intro @Bool.not_false <|
  And.intro @Nat.succ_eq_add_one <|
  And.intro @imp_false <|
  And.intro @false_imp_iff <|
  And.intro @forall_false <|
  And.intro @true_imp_iff <|
  And.intro @Bool.and_true <|
  And.intro @Bool.and_false <|
  And.intro @Bool.true_and <|
  And.intro @Bool.false_and <|
  And.intro @implies_true.{1} <|
  And.intro @implies_true.{0} <|
  And.intro @over_sl <|
  And.intro @over_gen <|
  And.intro @over_ob <|
  And.intro @List.contains_cons.{0} <|
  And.intro @List.contains_nil.{0} <|
  And.intro @Bool.or_false <|
  And.intro @Bool.or_true <|
  And.intro @Bool.false_or <|
  And.intro @Bool.true_or <|
  And.intro @cond_true.{1} <|
  And.intro @cond_false.{1} <|
  And.intro @Bool.cond_true.{0} <|
  And.intro @Bool.cond_false.{0} <|
  And.intro @Int.toNat_natCast <|
  And.intro @Int.natCast_nonneg <|
  And.intro @List.getElem?_map.{0,0} <|
  And.intro @List.length_map.{0,0} <|
  And.intro @List.mem_cons.{0} <|
  And.intro @List.not_mem_nil.{0} <|
  And.intro @forall_eq.{1} <|
  And.intro @forall_eq_or_imp.{1} <|
  And.intro @false_or <|
  And.intro @or_true <|
  And.intro @true_or <|
  And.intro @or_false <|
  And.intro @St.res.eq_1 <|
  And.intro @St.res1.eq_1 <|
  And.intro @St.res1.eq_2 <|
  And.intro @decide_eq_true_eq <|
  @decide_eq_false_iff_not
end Go.Proofs.Ytkdagjlkejefnaa
end
section
set_option linter.unusedSimpArgs false
set_option linter.unusedVariables false
namespace Go.Proofs.Ytkdagjlkejefnaa
open Go.RowKit

structure Ev where
  g : Int
  kind : Int
  obj : Int
  off : Int
  k : Int
  n : Int
  fn : Int
  pc : Int
  stack : Int
deriving DecidableEq, Inhabited

def I64 (x : Int) : Prop := -9223372036854775808 ≤ x ∧ x ≤ 9223372036854775807
/-- every field is an int64 -/
def Ev.wf (e : Ev) : Prop := I64 e.g ∧ I64 e.kind ∧ I64 e.obj ∧ I64 e.off ∧ I64 e.k ∧ I64 e.n ∧ I64 e.fn ∧ I64 e.pc ∧ I64 e.stack

def Ev.cells (e : Ev) : List Value := [.int .i64 e.g, .int .i64 e.kind, .int .i64 e.obj, .int .i64 e.off, .int .i64 e.k, .int .i64 e.n, .int .i64 e.fn, .int .i64 e.pc, .int .i64 e.stack]
def Ev.val (e : Ev) : Value := .agg #[.int .i64 e.g, .int .i64 e.kind, .int .i64 e.obj, .int .i64 e.off, .int .i64 e.k, .int .i64 e.n, .int .i64 e.fn, .int .i64 e.pc, .int .i64 e.stack]

def numberedB (k : Int) : Bool := decide (15 ≤ k ∧ k ≤ 18)
def isKindB (k : Int) : Bool := decide (1 ≤ k ∧ k ≤ 20)
def chanB (k : Int) : Bool := decide (15 ≤ k ∧ k ≤ 20)
def memB (k : Int) : Bool := decide (k = 1 ∨ k = 2)
def rangeB (x : Int) : Bool := decide (0 ≤ x ∧ x ≤ 2147483647)
def Ev.rest (e : Ev) : Bool :=
  if e.kind = 14 then decide (e.obj = 0 ∧ e.off = 0 ∧ e.n = 0 ∧ 1 ≤ e.k ∧ e.k < 8)
  else if 15 ≤ e.kind ∧ e.kind ≤ 18 then decide (e.off = 0 ∧ e.n ≤ 64)
  else if 19 ≤ e.kind then decide (e.off = 0 ∧ e.n ≤ 64 ∧ e.k = 0)
  else decide (e.k = 0 ∧ e.n = 0)
/-- what both texts call a valid event -/
def Ev.valid (e : Ev) : Bool := isKindB e.kind && decide (0 ≤ e.g ∧ e.g < 8) &&
  (rangeB e.obj && rangeB e.off && rangeB e.k && rangeB e.n && rangeB e.fn && rangeB e.pc && rangeB e.stack) && e.rest

/-! The state of a trace, as the program keeps it. -/
structure Ch where
  cap : Int
  sent : Int
  recv : Int
  closed : Bool
deriving DecidableEq, Inhabited
def ch0 : Ch := ⟨0, 0, 0, false⟩
structure Mu where
  locked : Bool
  readers : Int
deriving DecidableEq, Inhabited
def mu0 : Mu := ⟨false, 0⟩
structure Grp where
  kinds : List Int
  obj : Int
  k : Int
  n : Int
  snd : Int
  rcv : Int
def grp0 : Grp := ⟨[], 0, 0, 0, 0, 0⟩
structure TS where
  events : Int
  gor : Int
  chans : Int → Option Ch
  mus : Int × Int → Option Mu
  done : Int × Int → Option Bool
  grp : Grp
def TS.new : TS := ⟨0, 1, fun _ => none, fun _ => none, fun _ => none, grp0⟩

/-- f, but v at x -/
def upd {κ : Type} [DecidableEq κ] {α : Type} (f : κ → Option α) (x : κ) (v : α) : κ → Option α := fun y => if y = x then some v else f y
theorem upd_same {κ : Type} [DecidableEq κ] {α : Type} (f : κ → Option α) (x : κ) (v : α) : upd f x v x = some v := if_pos rfl
theorem upd_other {κ : Type} [DecidableEq κ] {α : Type} (f : κ → Option α) {x y : κ} (v : α) (h : y ≠ x) : upd f x v y = f y := if_neg h
theorem upd_upd {κ : Type} [DecidableEq κ] {α : Type} (f : κ → Option α) (x : κ) (v u : α) : upd (upd f x v) x u = upd f x u := by
  funext y; unfold upd; split <;> rfl

def Ch.count (c : Ch) (kind : Int) : Ch := if kind = 15 then { c with sent := c.sent + 1 } else if kind = 17 then { c with recv := c.recv + 1 } else c
def TS.count (s : TS) (e : Ev) : TS := { s with chans := upd s.chans e.obj (((s.chans e.obj).getD ch0).count e.kind) }

def sendsB (k : Int) : Bool := decide (k = 15 ∨ k = 16)
def Grp.own (o : Grp) (kind : Int) : Int := if sendsB kind = true then o.snd else o.rcv
def Grp.other (o : Grp) (kind : Int) : Int := if sendsB kind = true then o.rcv else o.snd
def Grp.next (o : Grp) (e : Ev) : Grp :=
  if sendsB e.kind = true then { o with kinds := o.kinds.tail, snd := e.g } else { o with kinds := o.kinds.tail, rcv := e.g }
def Grp.fits (o : Grp) (e : Ev) : Bool :=
  decide (e.kind = o.kinds.headD 0 ∧ e.obj = o.obj ∧ e.k = o.k ∧ e.n = o.n) && !(decide (o.own e.kind < 0 ∧ e.g = o.other e.kind) || decide (0 ≤ o.own e.kind ∧ e.g ≠ o.own e.kind))
def TS.proceed (s : TS) (e : Ev) : Option TS :=
  if s.grp.fits e = true then some { s.count e with grp := s.grp.next e } else none

def TS.chan (s : TS) (e : Ev) : Ch := match s.chans e.obj with
  | some c => c
  | none => { ch0 with cap := e.n }
def TS.start (s : TS) (e : Ev) (c : Ch) (kinds : List Int) (snd rcv : Int) : TS :=
  { s with chans := upd s.chans e.obj (c.count e.kind), grp := ⟨kinds, e.obj, e.k, e.n, snd, rcv⟩ }
/-- the events that are missing behind the first one of a group -/
def Ch.missing (c : Ch) (kind : Int) (alone : Bool) : Option (List Int) :=
  if kind = 15 then (if c.sent - c.recv < c.cap then some [16] else if c.cap = 0 ∧ alone = false then some [17, 18, 16] else none)
  else (if c.recv < c.sent then some [18] else if c.closed = false ∧ alone = false then some [15, 18, 16] else none)
def TS.operate (s : TS) (e : Ev) : Option TS :=
  let c := s.chan e
  if c.cap ≠ e.n then none
  else if e.kind = 19 then (if c.closed = true then none else some { s with chans := upd s.chans e.obj { c with closed := true } })
  else if e.kind = 20 then (if c.closed = true ∧ c.sent = c.recv then some s else none)
  else if e.kind = 15 then (if c.closed = true ∨ e.k ≠ c.sent then none else (c.missing 15 (decide (s.gor = 1))).map fun l => s.start e c l e.g (-1))
  else if e.kind = 17 then (if e.k ≠ c.recv then none else (c.missing 17 (decide (s.gor = 1))).map fun l => s.start e c l (-1) e.g)
  else none

def TS.mu (s : TS) (e : Ev) : Mu := (s.mus (e.obj, e.off)).getD mu0
def TS.simple (s : TS) (e : Ev) : Option TS :=
  let m := s.mu e
  let put (m : Mu) : Option TS := some { s with mus := upd s.mus (e.obj, e.off) m }
  if e.kind = 6 then (if m.locked = true ∨ 0 < m.readers then none else put { m with locked := true })
  else if e.kind = 7 then (if m.locked = false then none else put { m with locked := false })
  else if e.kind = 8 then (if m.locked = true then none else put { m with readers := m.readers + 1 })
  else if e.kind = 9 then (if m.readers = 0 then none else put { m with readers := m.readers - 1 })
  else if e.kind = 12 then (if (s.done (e.obj, e.off)).getD false = true then none else some { s with done := upd s.done (e.obj, e.off) true })
  else if e.kind = 13 then (if (s.done (e.obj, e.off)).getD false = true then some s else none)
  else if e.kind = 14 then (if e.k ≠ s.gor then none else some { s with gor := s.gor + 1 })
  else some s

def TS.isOpen (s : TS) : Bool := decide (0 < s.grp.kinds.length)
def TS.part (s : TS) (e : Ev) : Option TS :=
  if s.isOpen = true then s.proceed e else if chanB e.kind = true then s.operate e else s.simple e
def TS.admits (s : TS) (e : Ev) : Bool := e.valid && decide (s.events < 5000) && decide (e.g < s.gor)
def TS.add (s : TS) (e : Ev) : Option TS :=
  if s.admits e = true then (s.part e).map fun t => { t with events := t.events + 1 } else none

/-- what bounds the numbers of a state -/
structure TS.wf (s : TS) : Prop where
  ev : 0 ≤ s.events ∧ s.events ≤ 5000
  gr : 1 ≤ s.gor ∧ s.gor ≤ 8
  ch : ∀ x c, s.chans x = some c → (0 ≤ c.sent ∧ c.sent ≤ s.events) ∧ (0 ≤ c.recv ∧ c.recv ≤ s.events) ∧ (0 ≤ c.cap ∧ c.cap ≤ 64)
  mu : ∀ x m, s.mus x = some m → 0 ≤ m.readers ∧ m.readers ≤ s.events
  kd : s.grp.kinds.length ≤ 3

theorem TS.wf_new : TS.new.wf := ⟨by decide, by decide, (fun _ _ h => by cases h), (fun _ _ h => by cases h), by decide⟩

theorem Ev.valid_n {e : Ev} (h : e.valid = true) : 0 ≤ e.n ∧ e.n ≤ 2147483647 := by
  simp only [Ev.valid, rangeB, Bool.and_eq_true, decide_eq_true_eq] at h; omega
theorem Ev.valid_k {e : Ev} (h : e.valid = true) : 0 ≤ e.k ∧ e.k ≤ 2147483647 := by
  simp only [Ev.valid, rangeB, Bool.and_eq_true, decide_eq_true_eq] at h; omega
theorem Ev.valid_obj {e : Ev} (h : e.valid = true) : 0 ≤ e.obj ∧ e.obj ≤ 2147483647 := by
  simp only [Ev.valid, rangeB, Bool.and_eq_true, decide_eq_true_eq] at h; omega
theorem Ev.valid_off {e : Ev} (h : e.valid = true) : 0 ≤ e.off ∧ e.off ≤ 2147483647 := by
  simp only [Ev.valid, rangeB, Bool.and_eq_true, decide_eq_true_eq] at h; omega
theorem Ev.valid_g {e : Ev} (h : e.valid = true) : 0 ≤ e.g ∧ e.g < 8 := by
  simp only [Ev.valid, rangeB, Bool.and_eq_true, decide_eq_true_eq] at h; omega
theorem Ev.valid_kind {e : Ev} (h : e.valid = true) : 1 ≤ e.kind ∧ e.kind ≤ 20 := by
  simp only [Ev.valid, isKindB, Bool.and_eq_true, decide_eq_true_eq] at h; omega
theorem Ev.valid_cap {e : Ev} (h : e.valid = true) (hk : chanB e.kind = true) : e.n ≤ 64 := by
  simp only [Ev.valid, Ev.rest, Bool.and_eq_true] at h
  simp only [chanB, decide_eq_true_eq] at hk
  have h2 := h.2
  rw [if_neg (by omega)] at h2
  split at h2
  · simp at h2; omega
  · rw [if_pos (by omega)] at h2; simp at h2; omega
theorem Ev.valid_go {e : Ev} (h : e.valid = true) (hk : e.kind = 14) : 1 ≤ e.k ∧ e.k < 8 := by
  simp only [Ev.valid, Ev.rest, Bool.and_eq_true] at h
  have h2 := h.2
  rw [if_pos hk] at h2
  simp at h2; omega

theorem Ch.count_bd {c : Ch} {B kind : Int} (h : (0 ≤ c.sent ∧ c.sent ≤ B) ∧ (0 ≤ c.recv ∧ c.recv ≤ B) ∧ (0 ≤ c.cap ∧ c.cap ≤ 64)) :
    (0 ≤ (c.count kind).sent ∧ (c.count kind).sent ≤ B + 1) ∧ (0 ≤ (c.count kind).recv ∧ (c.count kind).recv ≤ B + 1) ∧ (0 ≤ (c.count kind).cap ∧ (c.count kind).cap ≤ 64) := by
  unfold Ch.count
  split
  · dsimp only; omega
  · split
    · dsimp only; omega
    · omega

theorem TS.chan_bd {s : TS} (h : s.wf) {e : Ev} (hv : e.valid = true) (hk : chanB e.kind = true) :
    (0 ≤ (s.chan e).sent ∧ (s.chan e).sent ≤ s.events) ∧ (0 ≤ (s.chan e).recv ∧ (s.chan e).recv ≤ s.events) ∧ (0 ≤ (s.chan e).cap ∧ (s.chan e).cap ≤ 64) := by
  unfold TS.chan
  have h1 := h.ev
  have h2 := Ev.valid_cap hv hk
  have h3 := Ev.valid_n hv
  cases hc : s.chans e.obj with
  | none => dsimp [ch0]; omega
  | some c => exact h.ch _ _ hc
theorem TS.mu_bd {s : TS} (h : s.wf) (e : Ev) : 0 ≤ (s.mu e).readers ∧ (s.mu e).readers ≤ s.events := by
  unfold TS.mu
  have h1 := h.ev
  cases hc : s.mus (e.obj, e.off) with
  | none => dsimp [mu0]; omega
  | some m => exact h.mu _ _ hc

theorem upd_all {κ : Type} [DecidableEq κ] {α : Type} {f : κ → Option α} {x : κ} {v : α} {p : α → Prop} (hf : ∀ y c, f y = some c → p c) (hv : p v) : ∀ y c, upd f x v y = some c → p c := by
  intro y c h
  unfold upd at h
  split at h
  · cases h; exact hv
  · exact hf y c h

/-- a state that an event leads to is bounded, one event more being counted -/
theorem TS.part_wf {s t : TS} (h : s.wf) {e : Ev} (hv : e.valid = true) (hp : s.part e = some t) :
    t.events = s.events ∧ (1 ≤ t.gor ∧ t.gor ≤ 8) ∧ (∀ x c, t.chans x = some c → (0 ≤ c.sent ∧ c.sent ≤ s.events + 1) ∧ (0 ≤ c.recv ∧ c.recv ≤ s.events + 1) ∧ (0 ≤ c.cap ∧ c.cap ≤ 64)) ∧
      (∀ x m, t.mus x = some m → 0 ≤ m.readers ∧ m.readers ≤ s.events + 1) ∧ t.grp.kinds.length ≤ 3 := by
  have hch : ∀ x c, s.chans x = some c → (0 ≤ c.sent ∧ c.sent ≤ s.events + 1) ∧ (0 ≤ c.recv ∧ c.recv ≤ s.events + 1) ∧ (0 ≤ c.cap ∧ c.cap ≤ 64) := fun x c hc => by
    have := h.ch x c hc; omega
  have hmu : ∀ x m, s.mus x = some m → 0 ≤ m.readers ∧ m.readers ≤ s.events + 1 := fun x m hm => by
    have := h.mu x m hm; omega
  have hgr := h.gr
  have hkd := h.kd
  have hev := h.ev
  unfold TS.part at hp
  split at hp
  · -- proceed
    unfold TS.proceed at hp
    split at hp
    · cases hp
      refine ⟨rfl, hgr, ?_, hmu, ?_⟩
      · refine upd_all hch (Ch.count_bd ?_)
        cases hc : s.chans e.obj with
        | none => dsimp [ch0]; omega
        | some c => exact h.ch _ _ hc
      · unfold Grp.next
        split <;> (simp; omega)
    · cases hp
  · split at hp
    · -- operate
      rename_i hk
      have hb := TS.chan_bd h hv hk
      unfold TS.operate at hp
      dsimp only at hp
      split at hp
      · cases hp
      split at hp
      · split at hp
        · cases hp
        · cases hp
          exact ⟨rfl, hgr, upd_all hch (by dsimp only; omega), hmu, hkd⟩
      split at hp
      · split at hp
        · cases hp; exact ⟨rfl, hgr, hch, hmu, hkd⟩
        · cases hp
      split at hp
      · split at hp
        · cases hp
        · simp only [Option.map_eq_some_iff] at hp
          obtain ⟨l, hl, rfl⟩ := hp
          refine ⟨rfl, hgr, upd_all hch (Ch.count_bd hb), hmu, ?_⟩
          unfold Ch.missing at hl
          simp only [if_pos] at hl
          split at hl
          · cases hl; simp [TS.start]
          · split at hl
            · cases hl; simp [TS.start]
            · cases hl
      split at hp
      · split at hp
        · cases hp
        · simp only [Option.map_eq_some_iff] at hp
          obtain ⟨l, hl, rfl⟩ := hp
          refine ⟨rfl, hgr, upd_all hch (Ch.count_bd hb), hmu, ?_⟩
          unfold Ch.missing at hl
          rw [if_neg (by decide)] at hl
          split at hl
          · cases hl; simp [TS.start]
          · split at hl
            · cases hl; simp [TS.start]
            · cases hl
      · cases hp
    · -- simple
      have hm := TS.mu_bd h e
      unfold TS.simple at hp
      dsimp only at hp
      split at hp
      · split at hp
        · cases hp
        · cases hp; exact ⟨rfl, hgr, hch, upd_all hmu (by dsimp only; omega), hkd⟩
      split at hp
      · split at hp
        · cases hp
        · cases hp; exact ⟨rfl, hgr, hch, upd_all hmu (by dsimp only; omega), hkd⟩
      split at hp
      · split at hp
        · cases hp
        · cases hp; exact ⟨rfl, hgr, hch, upd_all hmu (by dsimp only; omega), hkd⟩
      split at hp
      · split at hp
        · cases hp
        · cases hp; exact ⟨rfl, hgr, hch, upd_all hmu (by dsimp only; omega), hkd⟩
      split at hp
      · split at hp
        · cases hp
        · cases hp; exact ⟨rfl, hgr, hch, hmu, hkd⟩
      split at hp
      · split at hp
        · cases hp; exact ⟨rfl, hgr, hch, hmu, hkd⟩
        · cases hp
      split at hp
      · rename_i hgo
        have := Ev.valid_go hv hgo
        split at hp
        · cases hp
        · cases hp; exact ⟨rfl, by dsimp only; omega, hch, hmu, hkd⟩
      · cases hp; exact ⟨rfl, hgr, hch, hmu, hkd⟩

theorem TS.add_wf {s t : TS} (h : s.wf) {e : Ev} (ha : s.add e = some t) : t.wf := by
  unfold TS.add at ha
  split at ha
  · rename_i had
    simp only [TS.admits, Bool.and_eq_true, decide_eq_true_eq] at had
    simp only [Option.map_eq_some_iff] at ha
    obtain ⟨u, hu, rfl⟩ := ha
    obtain ⟨h1, h2, h3, h4, h5⟩ := TS.part_wf h had.1.1 hu
    have hev := h.ev
    exact ⟨by dsimp only; omega, h2, fun x c hc => by have := h3 x c hc; dsimp only; omega, fun x m hm => by have := h4 x m hm; dsimp only; omega, h5⟩
  · cases ha

/-! what operate comes to, way by way, the tests in the walk's own form -/
section
variable {s : TS} {g kind obj off k en fn pc stack cap sent recv : Int} {closed : Bool}
  (hc : s.chan ⟨g, kind, obj, off, k, en, fn, pc, stack⟩ = ⟨cap, sent, recv, closed⟩)
include hc
theorem TS.op_eq : s.operate ⟨g, kind, obj, off, k, en, fn, pc, stack⟩ =
    if cap ≠ en then none
    else if kind = 19 then (if closed = true then none else some { s with chans := upd s.chans obj ⟨cap, sent, recv, true⟩ })
    else if kind = 20 then (if closed = true ∧ sent = recv then some s else none)
    else if kind = 15 then (if closed = true ∨ k ≠ sent then none else ((⟨cap, sent, recv, closed⟩ : Ch).missing 15 (decide (s.gor = 1))).map fun l => s.start ⟨g, kind, obj, off, k, en, fn, pc, stack⟩ ⟨cap, sent, recv, closed⟩ l g (-1))
    else if kind = 17 then (if k ≠ recv then none else ((⟨cap, sent, recv, closed⟩ : Ch).missing 17 (decide (s.gor = 1))).map fun l => s.start ⟨g, kind, obj, off, k, en, fn, pc, stack⟩ ⟨cap, sent, recv, closed⟩ l (-1) g)
    else none := by
  unfold TS.operate; rw [hc]
theorem TS.op_nA (h1 : (cap != en) = true) : s.operate ⟨g, kind, obj, off, k, en, fn, pc, stack⟩ = none := by
  rw [TS.op_eq hc]; simp_all
theorem TS.op_nB (h1 : (kind == 19) = true) (h2 : closed = true) : s.operate ⟨g, kind, obj, off, k, en, fn, pc, stack⟩ = none := by
  rw [TS.op_eq hc]; simp_all
theorem TS.op_n20 (h1 : (kind == 20) = true) (h2 : ¬closed = true) : s.operate ⟨g, kind, obj, off, k, en, fn, pc, stack⟩ = none := by
  rw [TS.op_eq hc]; simp_all
theorem TS.op_nD (h1 : (kind == 15) = true) (h2 : closed = true) : s.operate ⟨g, kind, obj, off, k, en, fn, pc, stack⟩ = none := by
  rw [TS.op_eq hc]; simp_all
theorem TS.op_nE (h1 : (kind == 15) = true) (h2 : (k != sent) = true) : s.operate ⟨g, kind, obj, off, k, en, fn, pc, stack⟩ = none := by
  rw [TS.op_eq hc]; simp_all
theorem TS.op_nF (h1 : (kind == 15) = true) (h2 : cap ≤ sent - recv) (h3 : (!s.gor == 1) = false) : s.operate ⟨g, kind, obj, off, k, en, fn, pc, stack⟩ = none := by
  rw [TS.op_eq hc]; simp_all [Ch.missing]; intros; omega
theorem TS.op_nG (h1 : (kind == 15) = true) (h2 : cap ≤ sent - recv) (h3 : ¬cap = 0) : s.operate ⟨g, kind, obj, off, k, en, fn, pc, stack⟩ = none := by
  rw [TS.op_eq hc]; simp_all [Ch.missing]; intros; omega
theorem TS.op_nH (h1 : (kind == 17) = true) (h2 : (k != recv) = true) : s.operate ⟨g, kind, obj, off, k, en, fn, pc, stack⟩ = none := by
  rw [TS.op_eq hc]; simp_all
theorem TS.op_nI (h1 : (kind == 17) = true) (h2 : sent ≤ recv) (h3 : closed = true) : s.operate ⟨g, kind, obj, off, k, en, fn, pc, stack⟩ = none := by
  have h4 : ¬ recv < sent := by omega
  rw [TS.op_eq hc]; simp_all [Ch.missing]
theorem TS.op_nJ (h1 : (kind == 17) = true) (h2 : sent ≤ recv) (h3 : (!s.gor == 1) = false) : s.operate ⟨g, kind, obj, off, k, en, fn, pc, stack⟩ = none := by
  have h4 : ¬ recv < sent := by omega
  rw [TS.op_eq hc]; simp_all [Ch.missing]
theorem TS.op_nK (h1 : (kind == 19) = false) (h2 : (kind == 20) = false) (h3 : (kind == 15) = false) (h4 : (kind == 17) = false) : s.operate ⟨g, kind, obj, off, k, en, fn, pc, stack⟩ = none := by
  rw [TS.op_eq hc]; simp_all
theorem TS.op_s19 (h0 : (cap != en) = false) (h1 : (kind == 19) = true) (h2 : closed = false) : s.operate ⟨g, kind, obj, off, k, en, fn, pc, stack⟩ = some { s with chans := upd s.chans obj ⟨cap, sent, recv, true⟩ } := by
  rw [TS.op_eq hc]; simp_all
theorem TS.op_s20 (h0 : (cap != en) = false) (h1 : (kind == 20) = true) (h2 : closed = true) : s.operate ⟨g, kind, obj, off, k, en, fn, pc, stack⟩ = if sent = recv then some s else none := by
  rw [TS.op_eq hc]; simp_all
theorem TS.op_s15a (h0 : (cap != en) = false) (h1 : (kind == 15) = true) (h2 : ¬closed = true) (h3 : (k != sent) = false) (h4 : sent - recv < cap) : s.operate ⟨g, kind, obj, off, k, en, fn, pc, stack⟩ = some (s.start ⟨g, kind, obj, off, k, en, fn, pc, stack⟩ ⟨cap, sent, recv, closed⟩ [16] g (-1)) := by
  rw [TS.op_eq hc]; simp_all [Ch.missing]
theorem TS.op_s15b (h0 : (cap != en) = false) (h1 : (kind == 15) = true) (h2 : ¬closed = true) (h3 : (k != sent) = false) (h4 : cap ≤ sent - recv) (h5 : cap = 0) (h6 : (!s.gor == 1) = true) : s.operate ⟨g, kind, obj, off, k, en, fn, pc, stack⟩ = some (s.start ⟨g, kind, obj, off, k, en, fn, pc, stack⟩ ⟨cap, sent, recv, closed⟩ [17, 18, 16] g (-1)) := by
  have hm : (⟨cap, sent, recv, closed⟩ : Ch).missing 15 (decide (s.gor = 1)) = some [17, 18, 16] := by
    unfold Ch.missing
    rw [if_pos rfl]
    dsimp only
    rw [if_neg (by omega), if_pos ⟨h5, by simpa using h6⟩]
  rw [TS.op_eq hc, hm]; simp_all
theorem TS.op_s17a (h0 : (cap != en) = false) (h1 : (kind == 17) = true) (h3 : (k != recv) = false) (h4 : recv < sent) : s.operate ⟨g, kind, obj, off, k, en, fn, pc, stack⟩ = some (s.start ⟨g, kind, obj, off, k, en, fn, pc, stack⟩ ⟨cap, sent, recv, closed⟩ [18] (-1) g) := by
  rw [TS.op_eq hc]; simp_all [Ch.missing]
theorem TS.op_s17b (h0 : (cap != en) = false) (h1 : (kind == 17) = true) (h2 : ¬closed = true) (h3 : (k != recv) = false) (h4 : sent ≤ recv) (h6 : (!s.gor == 1) = true) : s.operate ⟨g, kind, obj, off, k, en, fn, pc, stack⟩ = some (s.start ⟨g, kind, obj, off, k, en, fn, pc, stack⟩ ⟨cap, sent, recv, closed⟩ [15, 18, 16] (-1) g) := by
  have hm : (⟨cap, sent, recv, closed⟩ : Ch).missing 17 (decide (s.gor = 1)) = some [15, 18, 16] := by
    unfold Ch.missing
    rw [if_neg (by decide)]
    dsimp only
    rw [if_neg (by omega), if_pos ⟨by simpa using h2, by simpa using h6⟩]
  rw [TS.op_eq hc, hm]; simp_all
end
end Go.Proofs.Ytkdagjlkejefnaa
end
section
set_option linter.unusedSimpArgs false
set_option linter.unusedVariables false
namespace Go.Proofs.Ytkdagjlkejefnaa

/-- the state behind a list of events, if all are possible -/
def TS.steps (s : TS) : List Ev → Option TS
  | [] => some s
  | e :: l => (s.add e).bind fun t => t.steps l
/-- how many are possible at the beginning -/
def TS.chk (s : TS) : List Ev → Nat
  | [] => 0
  | e :: l => match s.add e with
    | some t => t.chk l + 1
    | none => 0

theorem TS.steps_append (s : TS) (l m : List Ev) : s.steps (l ++ m) = (s.steps l).bind fun t => t.steps m := by
  induction l generalizing s with
  | nil => rfl
  | cons e l ih =>
    simp only [List.cons_append, TS.steps]
    cases s.add e with
    | none => rfl
    | some t => simpa using ih t
theorem TS.steps_snoc (s : TS) (l : List Ev) (e : Ev) : s.steps (l ++ [e]) = (s.steps l).bind fun t => t.add e := by
  rw [TS.steps_append]
  congr 1
  funext t
  simp [TS.steps]
theorem TS.steps_take_succ {s : TS} {l : List Ev} {k : Nat} (h : k < l.length) : s.steps (l.take (k + 1)) = (s.steps (l.take k)).bind fun t => t.add l[k] := by
  rw [List.take_succ_eq_append_getElem h, TS.steps_snoc]
theorem TS.chk_le (s : TS) (l : List Ev) : s.chk l ≤ l.length := by
  induction l generalizing s with
  | nil => simp [TS.chk]
  | cons e l ih =>
    simp only [TS.chk]
    split
    · rename_i t _; have := ih t; simp; omega
    · simp
theorem TS.steps_wf {s t : TS} (h : s.wf) {l : List Ev} (hs : s.steps l = some t) : t.wf := by
  induction l generalizing s with
  | nil => simp [TS.steps] at hs; subst hs; exact h
  | cons e l ih =>
    simp only [TS.steps, Option.bind_eq_some_iff] at hs
    obtain ⟨u, hu, hs⟩ := hs
    exact ih (TS.add_wf h hu) hs
/-- what the loop finds is that number -/
theorem TS.chk_of {s : TS} {l : List Ev} {k : Nat} (hk : k ≤ l.length) {t : TS} (hs : s.steps (l.take k) = some t) (hn : ∀ e, l[k]? = some e → t.add e = none) : s.chk l = k := by
  induction l generalizing s k with
  | nil => simp at hk; subst hk; rfl
  | cons e l ih =>
    cases k with
    | zero =>
      simp [TS.steps] at hs
      subst hs
      have := hn e rfl
      simp [TS.chk, this]
    | succ k =>
      simp only [List.take_succ_cons, TS.steps, Option.bind_eq_some_iff] at hs
      obtain ⟨u, hu, hs⟩ := hs
      simp only [TS.chk, hu]
      rw [ih (by simpa using hk) hs (fun e' he' => hn e' (by simpa using he'))]
/-- up to that number all are possible -/
theorem TS.chk_steps (s : TS) (l : List Ev) {k : Nat} (hk : k ≤ s.chk l) : ∃ t, s.steps (l.take k) = some t := by
  induction l generalizing s k with
  | nil => simp [TS.chk] at hk; subst hk; exact ⟨s, rfl⟩
  | cons e l ih =>
    cases k with
    | zero => exact ⟨s, rfl⟩
    | succ k =>
      simp only [TS.chk] at hk
      cases ha : s.add e with
      | none => rw [ha] at hk; simp at hk
      | some u =>
        rw [ha] at hk
        obtain ⟨t, ht⟩ := ih u (k := k) (by simpa using hk)
        exact ⟨t, by simp [TS.steps, ha, ht]⟩
theorem TS.chk_stop (s : TS) (l : List Ev) {t : TS} (hs : s.steps (l.take (s.chk l)) = some t) : ∀ e, l[s.chk l]? = some e → t.add e = none := by
  induction l generalizing s with
  | nil => intro e he; simp at he
  | cons a l ih =>
    intro e he
    cases ha : s.add a with
    | none =>
      simp only [TS.chk, ha] at he hs
      simp [TS.steps] at hs he
      subst hs; subst he; exact ha
    | some u =>
      simp only [TS.chk, ha] at he hs
      simp only [List.take_succ_cons, TS.steps, ha, Option.bind_some] at hs
      exact ih u hs e (by simpa using he)
theorem TS.chk_take (s : TS) (l : List Ev) (k : Nat) : s.chk (l.take k) = min (s.chk l) k := by
  induction l generalizing s k with
  | nil => simp [TS.chk]
  | cons e l ih =>
    cases k with
    | zero => simp [TS.chk]
    | succ k =>
      simp only [List.take_succ_cons, TS.chk]
      cases s.add e with
      | none => simp
      | some t => simp only [ih]; omega

/-- the last place up to k behind which no group is open -/
def TS.wholeTo (s : TS) (l : List Ev) : Nat → Nat
  | 0 => 0
  | k + 1 => match s.steps (l.take (k + 1)) with
    | some t => if t.isOpen = true then s.wholeTo l k else k + 1
    | none => s.wholeTo l k
theorem TS.wholeTo_le (s : TS) (l : List Ev) (k : Nat) : s.wholeTo l k ≤ k := by
  induction k with
  | zero => simp [TS.wholeTo]
  | succ k ih =>
    simp only [TS.wholeTo]
    split
    · split
      · omega
      · omega
    · omega
def chk (l : List Ev) : Nat := TS.new.chk l
def wholeOf (l : List Ev) : Nat := TS.new.wholeTo l (chk l)
theorem flat_at (l : List Ev) (i : Nat) (e : Ev) (h : l[i]? = some e) (j : Nat) (x : Value) (hx : e.cells[j]? = some x) : (l.flatMap Ev.cells)[i * 9 + j]? = some x := by
  have hlen : ∀ e : Ev, e.cells.length = 9 := fun _ => rfl
  have hj : j < 9 := by rw [← hlen e]; exact (List.getElem?_eq_some_iff.1 hx).1
  induction l generalizing i with
  | nil => cases h
  | cons a l ih =>
    rw [List.flatMap_cons]
    cases i with
    | zero =>
      simp at h; subst h
      rw [List.getElem?_append_left (by rw [hlen]; omega)]
      simpa using hx
    | succ i =>
      rw [List.getElem?_append_right (by rw [hlen]; omega), hlen, show (i + 1) * 9 + j - 9 = i * 9 + j by omega]
      exact ih i (by simpa using h)

end Go.Proofs.Ytkdagjlkejefnaa
end
section
set_option linter.unusedSimpArgs false
set_option linter.unusedVariables false
namespace Go.Proofs.Ytkdagjlkejefnaa
open Go Go.RowKit

/-- nothing is asked of the world -/
instance : WInv := ⟨fun _ => True, fun _ _ _ _ => trivial⟩
abbrev dI (n : Int) : Dt := .sc (.int .i64 n)
abbrev dB (b : Bool) : Dt := .sc (.bool b)
abbrev aI (n : Int) : Av := .b (.one (.d (.sc (.int .i64 n))))
abbrev aB (b : Bool) : Av := .b (.one (.d (.sc (.bool b))))
abbrev pI (n : Int) : Pa := .one (.sc (.int .i64 n))
abbrev pB (b : Bool) : Pa := .one (.sc (.bool b))
def Ev.row (e : Ev) : List Dt := [dI e.g, dI e.kind, dI e.obj, dI e.off, dI e.k, dI e.n, dI e.fn, dI e.pc, dI e.stack]
def Ev.pa (e : Ev) : Pa := .agg e.row
def evsD (l : List Ev) : Dt := .im (l.map Ev.row)
def evsPa (l : List Ev) : Pa := .one (evsD l)

structure RCh where
  obj : Int
  n : Int
  sent : Int
  recv : Int
  closed : Bool
def RCh.row (c : RCh) : List Dt := [dI c.obj, dI c.n, dI c.sent, dI c.recv, dB c.closed]
structure RLk where
  obj : Int
  off : Int
  locked : Bool
  readers : Int
def RLk.row (c : RLk) : List Dt := [dI c.obj, dI c.off, dB c.locked, dI c.readers]
def locRow (p : Int × Int) : List Dt := [dI p.1, dI p.2]
structure RWt where
  kind : Int
  g : Int
  not : Int
def RWt.row (c : RWt) : List Dt := [dI c.kind, dI c.g, dI c.not]
structure RSt where
  count : Int
  gor : Int
  chans : List RCh
  locks : List RLk
  done : List (Int × Int)
  next : List RWt
  obj : Int
  k : Int
  n : Int
def RSt.row (s : RSt) : List Dt := [dI s.count, dI s.gor, .im (s.chans.map RCh.row), .im (s.locks.map RLk.row), .im (s.done.map locRow), .im (s.next.map RWt.row), dI s.obj, dI s.k, dI s.n]
def RSt.pa (s : RSt) : Pa := .agg s.row
/-- what bounds the numbers of a state -/
structure RSt.ok (s : RSt) : Prop where
  ct : 0 ≤ s.count ∧ s.count ≤ 1000000
  gr : 0 ≤ s.gor ∧ s.gor ≤ 1000000
  ch : s.chans.length ≤ 900000 ∧ ∀ c, c ∈ s.chans → (0 ≤ c.sent ∧ c.sent ≤ 1000000) ∧ (0 ≤ c.recv ∧ c.recv ≤ 1000000)
  lk : s.locks.length ≤ 900000 ∧ ∀ c, c ∈ s.locks → 0 ≤ c.readers ∧ c.readers ≤ 1000000
  dn : s.done.length ≤ 900000
  nx : s.next.length ≤ 900000

def RSt.new : RSt := ⟨0, 1, [], [], [], [], 0, 0, 0⟩
def RSt.channel (s : RSt) (obj n : Int) : RCh := (s.chans.find? (fun c => c.obj == obj)).getD ⟨obj, n, 0, 0, false⟩
def RSt.setChannel (s : RSt) (c : RCh) : RSt := { s with chans := s.chans.filter (fun d => d.obj != c.obj) ++ [c] }
def RSt.lock (s : RSt) (obj off : Int) : RLk := (s.locks.find? (fun c => c.obj == obj && c.off == off)).getD ⟨obj, off, false, 0⟩
def RSt.setLock (s : RSt) (c : RLk) : RSt := { s with locks := s.locks.filter (fun d => d.obj != c.obj || d.off != c.off) ++ [c] }
def RSt.isDone (s : RSt) (obj off : Int) : Bool := s.done.any (fun c => c.1 == obj && c.2 == off)
def RCh.count (c : RCh) (kind : Int) : RCh := if kind = 15 then { c with sent := c.sent + 1 } else if kind = 17 then { c with recv := c.recv + 1 } else c
def RSt.counted (s : RSt) (e : Ev) : RSt := if e.kind = 15 ∨ e.kind = 17 then s.setChannel ((s.channel e.obj e.n).count e.kind) else s
def RSt.begin (s : RSt) (e : Ev) (next : List RWt) : RSt := RSt.counted { s with next := next, obj := e.obj, k := e.k, n := e.n } e

/-- does the event go with what a group wants next -/
def RSt.fits (s : RSt) (w : RWt) (e : Ev) : Bool := !((e.kind != w.kind || (e.obj != s.obj || (e.k != s.k || (e.n != s.n || (decide (0 ≤ w.g) && e.g != w.g))))) || (decide (w.g < 0) && e.g == w.not))
def RWt.known (w : RWt) (g : Int) (x : RWt) : RWt := if w.g < 0 ∧ x.g < 0 then { x with g := g } else x
def RSt.groupR (s : RSt) (e : Ev) : RSt × Bool := match s.next with
  | [] => (s, false)
  | w :: rest => if s.fits w e = true then (RSt.counted { s with next := rest.map (w.known e.g) } e, true) else (s, false)
def RSt.transferR (s : RSt) (e : Ev) : RSt × Bool :=
  if (s.channel e.obj e.n).n ≠ e.n then (s, false)
  else if e.kind = 15 then
    if e.k ≠ (s.channel e.obj e.n).sent then (s, false)
    else if (s.channel e.obj e.n).closed = true then (s, false)
    else if 0 < (s.channel e.obj e.n).n ∧ (s.channel e.obj e.n).sent - (s.channel e.obj e.n).recv < (s.channel e.obj e.n).n then (s.begin e [⟨16, e.g, 0⟩], true)
    else if (s.channel e.obj e.n).n = 0 ∧ 1 < s.gor then (s.begin e [⟨17, -1, e.g⟩, ⟨18, -1, 0⟩, ⟨16, e.g, 0⟩], true)
    else (s, false)
  else if e.kind = 17 then
    if e.k ≠ (s.channel e.obj e.n).recv then (s, false)
    else if (s.channel e.obj e.n).recv < (s.channel e.obj e.n).sent then (s.begin e [⟨18, e.g, 0⟩], true)
    else if (s.channel e.obj e.n).closed = false ∧ 1 < s.gor then (s.begin e [⟨15, -1, e.g⟩, ⟨18, e.g, 0⟩, ⟨16, -1, 0⟩], true)
    else (s, false)
  else if e.kind = 19 then
    if (s.channel e.obj e.n).closed = true then (s, false) else (s.setChannel { s.channel e.obj e.n with closed := true }, true)
  else if e.kind = 20 then (s, (s.channel e.obj e.n).closed && (s.channel e.obj e.n).sent == (s.channel e.obj e.n).recv)
  else (s, false)
def RSt.otherR (s : RSt) (e : Ev) : RSt × Bool :=
  if e.kind = 6 then (s.setLock { s.lock e.obj e.off with locked := true }, !(s.lock e.obj e.off).locked && (s.lock e.obj e.off).readers == 0)
  else if e.kind = 7 then (s.setLock { s.lock e.obj e.off with locked := false }, (s.lock e.obj e.off).locked)
  else if e.kind = 8 then (s.setLock { s.lock e.obj e.off with readers := (s.lock e.obj e.off).readers + 1 }, !(s.lock e.obj e.off).locked)
  else if e.kind = 9 then (s.setLock { s.lock e.obj e.off with readers := (s.lock e.obj e.off).readers - 1 }, decide (0 ≤ (s.lock e.obj e.off).readers - 1))
  else if e.kind = 12 then ({ s with done := s.done ++ [(e.obj, e.off)] }, !s.isDone e.obj e.off)
  else if e.kind = 13 then (s, s.isDone e.obj e.off)
  else if e.kind = 14 then ({ s with gor := s.gor + 1 }, e.k == s.gor)
  else (s, true)
def RSt.partR (s : RSt) (e : Ev) : RSt × Bool := if 0 < s.next.length then s.groupR e else if chanB e.kind = true then s.transferR e else s.otherR e
def RSt.admits (s : RSt) (e : Ev) : Bool := e.valid && decide (s.count < 5000) && decide (e.g < s.gor)
def RSt.addR (s : RSt) (e : Ev) : RSt × Bool :=
  if s.admits e = true ∧ (s.partR e).2 = true then ({ (s.partR e).1 with count := (s.partR e).1.count + 1 }, true) else (s, false)

theorem find_hit {α : Type} {l : List α} {p : α → Bool} {k : Nat} {c : α} (hno : ∀ i c, i < k → l[i]? = some c → p c = false) (hc : l[k]? = some c) (he : p c = true) : l.find? p = some c := by
  rw [List.find?_eq_some_iff_getElem]
  refine ⟨he, k, (List.getElem?_eq_some_iff.1 hc).1, (List.getElem?_eq_some_iff.1 hc).2, fun j hj => ?_⟩
  have h1 := List.getElem?_eq_getElem (show j < l.length by have := (List.getElem?_eq_some_iff.1 hc).1; omega)
  rw [hno j _ hj h1]; rfl
theorem find_miss {α : Type} {l : List α} {p : α → Bool} (hno : ∀ i c, i < l.length → l[i]? = some c → p c = false) : l.find? p = none := by
  rw [List.find?_eq_none]
  intro c hc
  obtain ⟨i, hi, rfl⟩ := List.getElem_of_mem hc
  rw [hno i _ hi (List.getElem?_eq_getElem hi)]; decide
theorem no_succ {α : Type} {l : List α} {p : α → Bool} {k : Nat} {c : α} (hno : ∀ i c, i < k → l[i]? = some c → p c = false) (hc : l[k]? = some c) (he : p c = false) : ∀ i c, i < k + 1 → l[i]? = some c → p c = false := by
  intro i c' hi hc'
  rcases Nat.lt_or_eq_of_le (Nat.le_of_lt_succ hi) with h | h
  · exact hno i c' h hc'
  · subst h; rw [hc] at hc'; cases hc'; exact he
theorem any_miss {α : Type} {l : List α} {p : α → Bool} (hno : ∀ i c, i < l.length → l[i]? = some c → p c = false) : l.any p = false := by
  rw [List.any_eq_false]
  intro c hc
  obtain ⟨i, hi, rfl⟩ := List.getElem_of_mem hc
  rw [hno i _ hi (List.getElem?_eq_getElem hi)]; decide
theorem filter_succ {α : Type} {l : List α} {p : α → Bool} {k : Nat} {c : α} (hc : l[k]? = some c) : (l.take (k + 1)).filter p = (l.take k).filter p ++ (if p c = true then [c] else []) := by
  obtain ⟨hk, rfl⟩ := List.getElem?_eq_some_iff.1 hc
  rw [List.take_succ_eq_append_getElem hk, List.filter_append]
  congr 1
  cases h : p l[k] <;> simp [h]
theorem filter_take_le {α : Type} (l : List α) (p : α → Bool) (k : Nat) : ((l.take k).filter p).length ≤ k :=
  Nat.le_trans (List.length_filter_le _ _) (List.length_take_le _ _)

theorem rows_len {α : Type} {f : α → List Dt} {n : Nat} (h : ∀ x, (f x).length = n) (l : List α) : (∀ r, r ∈ l.map f → r.length = n) = True := by
  apply propext
  refine ⟨fun _ => trivial, fun _ r hr => ?_⟩
  obtain ⟨x, _, rfl⟩ := List.mem_map.1 hr
  exact h x
end Go.Proofs.Ytkdagjlkejefnaa
end
section
set_option linter.unusedSimpArgs false
set_option linter.unusedVariables false
namespace Go.Proofs.Ytkdagjlkejefnaa
open Go

def RCh.conv (c : RCh) : Ch := ⟨c.n, c.sent, c.recv, c.closed⟩
def RLk.conv (c : RLk) : Mu := ⟨c.locked, c.readers⟩
/-- the five shapes of an open group, and the closed one -/
inductive RelG : List RWt → List Int → Int → Int → Prop
  | none (a b : Int) : RelG [] [] a b
  | snd (g b : Int) (h : 0 ≤ g) : RelG [⟨16, g, 0⟩] [16] g b
  | rcv (a g : Int) (h : 0 ≤ g) : RelG [⟨18, g, 0⟩] [18] a g
  | wait (g : Int) (h : 0 ≤ g) : RelG [⟨17, -1, g⟩, ⟨18, -1, 0⟩, ⟨16, g, 0⟩] [17, 18, 16] g (-1)
  | ask (g : Int) (h : 0 ≤ g) : RelG [⟨15, -1, g⟩, ⟨18, g, 0⟩, ⟨16, -1, 0⟩] [15, 18, 16] (-1) g
  | both (a b : Int) (h : 0 ≤ a) (k : 0 ≤ b) : RelG [⟨18, b, 0⟩, ⟨16, a, 0⟩] [18, 16] a b

/-- a receive that waits for its send, a send that waits for its receive -/
def asks (l : List Int) : Int := if l.headD 0 = 15 then 1 else if l.headD 0 = 17 then -1 else 0
structure Rel (r : RSt) (t : TS) : Prop where
  ct : r.count = t.events
  gr : r.gor = t.gor
  ch : ∀ x, t.chans x = (r.chans.find? (fun c => c.obj == x)).map RCh.conv
  lk : ∀ x y, t.mus (x, y) = (r.locks.find? (fun c => c.obj == x && c.off == y)).map RLk.conv
  dn : ∀ x y, (t.done (x, y)).getD false = r.isDone x y
  gp : RelG r.next t.grp.kinds t.grp.snd t.grp.rcv
  go : r.next ≠ [] → t.grp.obj = r.obj ∧ t.grp.k = r.k ∧ t.grp.n = r.n ∧ (t.chans r.obj).isSome = true
  bal : ∀ x c, t.chans x = some c → c.recv ≤ c.sent + (if x = r.obj then asks t.grp.kinds else 0)
  clen : (r.chans.length : Int) ≤ r.count
  cbd : ∀ c, c ∈ r.chans → (0 ≤ c.sent ∧ c.sent ≤ r.count) ∧ (0 ≤ c.recv ∧ c.recv ≤ r.count)
  llen : (r.locks.length : Int) ≤ r.count
  lbd : ∀ c, c ∈ r.locks → 0 ≤ c.readers ∧ c.readers ≤ r.count
  dlen : (r.done.length : Int) ≤ r.count

theorem Rel.new : Rel RSt.new TS.new :=
  ⟨rfl, rfl, fun _ => rfl, fun _ _ => rfl, fun _ _ => rfl, .none _ _, fun h => absurd rfl h, (fun _ _ h => by cases h), (by decide), (fun _ h => by cases h), (by decide), (fun _ h => by cases h), (by decide)⟩
theorem RelG.len {l : List RWt} {k : List Int} {a b : Int} (h : RelG l k a b) : l.length ≤ 3 := by cases h <;> simp
theorem RelG.kinds {l : List RWt} {k : List Int} {a b : Int} (h : RelG l k a b) : k = l.map (·.kind) := by cases h <;> rfl
theorem Rel.ok {r : RSt} {t : TS} (h : Rel r t) (hw : t.wf) : r.ok := by
  have h1 := hw.ev
  have h2 := hw.gr
  have h3 := h.gp.len
  have h4 := h.ct
  have h5 := h.gr
  have h6 := h.clen
  have h7 := h.llen
  have h8 := h.dlen
  refine ⟨by omega, by omega, ⟨by omega, fun c hc => ?_⟩, ⟨by omega, fun c hc => ?_⟩, by omega, by omega⟩
  · have := h.cbd c hc; omega
  · have := h.lbd c hc; omega

/-- looking up behind a replacement -/
theorem find_set {α : Type} (l : List α) (p q : α → Bool) (c : α) (hc : p c = true → ∀ d, d ∈ l → p d = true → q d = false) (hn : p c = false → ∀ d, d ∈ l → p d = true → q d = true) :
    (l.filter q ++ [c]).find? p = if p c = true then some c else l.find? p := by
  rw [List.find?_append]
  cases hp : p c with
  | true =>
    have h1 : (l.filter q).find? p = none := by
      rw [List.find?_eq_none]
      intro x hx h2
      obtain ⟨h3, h4⟩ := List.mem_filter.1 hx
      rw [hc hp x h3 h2] at h4
      cases h4
    simp [h1, hp]
  | false =>
    have h1 : (l.filter q).find? p = l.find? p := by
      have hn' := hn hp
      clear hn hc
      induction l with
      | nil => rfl
      | cons a l ih =>
        have ih' := ih (fun d hd => hn' d (List.mem_cons_of_mem _ hd))
        rw [List.filter_cons, List.find?_cons]
        cases hpa : p a with
        | true => rw [if_pos (hn' a List.mem_cons_self hpa), List.find?_cons, hpa]
        | false =>
          cases hq : q a with
          | true => rw [if_pos rfl, List.find?_cons, hpa]; exact ih'
          | false => rw [if_neg (by decide)]; exact ih'
    simp [h1, hp]
theorem find_setChannel (r : RSt) (c : RCh) (x : Int) : (r.setChannel c).chans.find? (fun d => d.obj == x) = if c.obj = x then some c else r.chans.find? (fun d => d.obj == x) := by
  have := find_set r.chans (fun d => d.obj == x) (fun d => d.obj != c.obj) c (fun h d _ h2 => by simp at h h2 ⊢; rw [h, h2]) (fun h d _ h2 => by simp at h h2 ⊢; rw [h2]; exact fun h3 => h h3.symm)
  simpa [RSt.setChannel] using this
theorem find_setLock (r : RSt) (c : RLk) (x y : Int) : (r.setLock c).locks.find? (fun d => d.obj == x && d.off == y) = if c.obj = x ∧ c.off = y then some c else r.locks.find? (fun d => d.obj == x && d.off == y) := by
  have := find_set r.locks (fun d => d.obj == x && d.off == y) (fun d => d.obj != c.obj || d.off != c.off) c
    (fun h d _ h2 => by simp at h h2 ⊢; rw [h.1, h.2, h2.1, h2.2]; exact ⟨rfl, rfl⟩)
    (fun h d _ h2 => by simp at h h2 ⊢; rw [h2.1, h2.2]; by_cases h3 : c.obj = x
                        · right; exact fun h4 => h h3 h4.symm
                        · left; exact fun h4 => h3 h4.symm)
  simpa [RSt.setLock] using this

theorem Rel.channel {r : RSt} {t : TS} (h : Rel r t) (e : Ev) : (r.channel e.obj e.n).conv = t.chan e ∧ (r.channel e.obj e.n).obj = e.obj := by
  unfold RSt.channel TS.chan
  rw [h.ch]
  cases hf : r.chans.find? (fun c => c.obj == e.obj) with
  | none => exact ⟨rfl, rfl⟩
  | some c => exact ⟨rfl, by have := List.find?_some hf; simpa using this⟩
theorem Rel.lock {r : RSt} {t : TS} (h : Rel r t) (e : Ev) : (r.lock e.obj e.off).conv = t.mu e ∧ (r.lock e.obj e.off).obj = e.obj ∧ (r.lock e.obj e.off).off = e.off := by
  unfold RSt.lock TS.mu
  rw [h.lk]
  cases hf : r.locks.find? (fun c => c.obj == e.obj && c.off == e.off) with
  | none => exact ⟨rfl, rfl, rfl⟩
  | some c => exact ⟨rfl, by have := List.find?_some hf; simp at this; exact this.1, by have := List.find?_some hf; simp at this; exact this.2⟩
theorem Rel.channel_bd {r : RSt} {t : TS} (h : Rel r t) (hc : 0 ≤ r.count) (obj n : Int) : (0 ≤ (r.channel obj n).sent ∧ (r.channel obj n).sent ≤ r.count) ∧ (0 ≤ (r.channel obj n).recv ∧ (r.channel obj n).recv ≤ r.count) := by
  unfold RSt.channel
  cases hf : r.chans.find? (fun c => c.obj == obj) with
  | none => simp [hc]
  | some c => exact h.cbd c (List.mem_of_find?_eq_some hf)
theorem Rel.lock_bd {r : RSt} {t : TS} (h : Rel r t) (hc : 0 ≤ r.count) (obj off : Int) : 0 ≤ (r.lock obj off).readers ∧ (r.lock obj off).readers ≤ r.count := by
  unfold RSt.lock
  cases hf : r.locks.find? (fun c => c.obj == obj && c.off == off) with
  | none => simp [hc]
  | some c => exact h.lbd c (List.mem_of_find?_eq_some hf)
theorem RelG.nil_asks {l : List RWt} {k : List Int} {a b : Int} (h : RelG l k a b) (hl : l = []) : asks k = 0 := by subst hl; cases h; rfl

/-- a channel is put, a group goes on -/
theorem Rel.put {r : RSt} {t : TS} (h : Rel r t) (c : RCh) (hs : 0 ≤ c.sent ∧ c.sent ≤ r.count + 1) (hr : 0 ≤ c.recv ∧ c.recv ≤ r.count + 1) (nx : List RWt) (ob kk nn : Int) (o : Grp) (hg : RelG nx o.kinds o.snd o.rcv)
    (ho : nx ≠ [] → o.obj = ob ∧ o.k = kk ∧ o.n = nn ∧ ob = c.obj) (hb : c.recv ≤ c.sent + asks o.kinds) (hold : ∀ x d, x ≠ c.obj → t.chans x = some d → d.recv ≤ d.sent) :
    Rel { r.setChannel c with next := nx, obj := ob, k := kk, n := nn, count := r.count + 1 } { t with chans := upd t.chans c.obj c.conv, grp := o, events := t.events + 1 } := by
  refine ⟨by simp only [h.ct], h.gr, fun x => ?_, h.lk, h.dn, hg, fun hne => ?_, fun x d hd => ?_, ?_, fun d hd => ?_, ?_, fun d hd => ?_, ?_⟩
  · have h1 := find_setChannel r c x
    dsimp only
    rw [h1]
    by_cases hx : c.obj = x
    · subst hx; rw [upd_same, if_pos rfl]; rfl
    · rw [upd_other _ _ (fun h2 => hx h2.symm), if_neg hx, h.ch]
  · obtain ⟨h1, h2, h3, h4⟩ := ho hne
    exact ⟨h1, h2, h3, by dsimp only; rw [h4, upd_same]; rfl⟩
  · dsimp only at hd ⊢
    by_cases hx : x = c.obj
    · subst hx
      rw [upd_same] at hd; cases hd
      by_cases hn : nx = []
      · rw [hg.nil_asks hn] at hb ⊢
        show c.recv ≤ c.sent + _
        split <;> omega
      · rw [if_pos (ho hn).2.2.2.symm]; exact hb
    · rw [upd_other _ _ hx] at hd
      have := hold x d hx hd
      by_cases hn : nx = []
      · rw [hg.nil_asks hn]; split <;> omega
      · rw [if_neg (fun h2 => hx (h2.trans (ho hn).2.2.2))]; omega
  · have h1 := List.length_filter_le (fun d : RCh => d.obj != c.obj) r.chans
    have h2 := h.clen
    simp only [RSt.setChannel, List.length_append, List.length_cons, List.length_nil]
    omega
  · simp only [RSt.setChannel, List.mem_append, List.mem_filter, List.mem_singleton] at hd
    rcases hd with ⟨hd, _⟩ | rfl
    · have := h.cbd d hd; dsimp only; omega
    · dsimp only; omega
  · have := h.llen; dsimp only [RSt.setChannel]; omega
  · have := h.lbd d hd; dsimp only [RSt.setChannel]; omega
  · have := h.dlen; dsimp only [RSt.setChannel]; omega

/-- only the group goes on -/
theorem Rel.keep {r : RSt} {t : TS} (h : Rel r t) (nx : List RWt) (o : Grp) (hg : RelG nx o.kinds o.snd o.rcv) (ho : nx ≠ [] → o.obj = r.obj ∧ o.k = r.k ∧ o.n = r.n ∧ (t.chans r.obj).isSome = true) (ha : asks o.kinds = asks t.grp.kinds) :
    Rel { r with next := nx, count := r.count + 1 } { t with grp := o, events := t.events + 1 } := by
  refine ⟨by simp only [h.ct], h.gr, h.ch, h.lk, h.dn, hg, ho, fun x d hd => ?_, ?_, fun d hd => ?_, ?_, fun d hd => ?_, ?_⟩
  · dsimp only; rw [ha]; exact h.bal x d hd
  · have := h.clen; dsimp only; omega
  · have := h.cbd d hd; dsimp only; omega
  · have := h.llen; dsimp only; omega
  · have := h.lbd d hd; dsimp only; omega
  · have := h.dlen; dsimp only; omega
/-- a mutex is put -/
theorem Rel.putLock {r : RSt} {t : TS} (h : Rel r t) (c : RLk) (hr : 0 ≤ c.readers ∧ c.readers ≤ r.count + 1) :
    Rel { r.setLock c with count := r.count + 1 } { t with mus := upd t.mus (c.obj, c.off) c.conv, events := t.events + 1 } := by
  refine ⟨by simp only [h.ct], h.gr, h.ch, fun x y => ?_, h.dn, h.gp, h.go, h.bal, ?_, fun d hd => ?_, ?_, fun d hd => ?_, ?_⟩
  · have h1 := find_setLock r c x y
    dsimp only
    rw [h1]
    by_cases hx : c.obj = x ∧ c.off = y
    · obtain ⟨rfl, rfl⟩ := hx; rw [upd_same, if_pos ⟨rfl, rfl⟩]; rfl
    · rw [upd_other _ _ (fun h2 => hx (by cases h2; exact ⟨rfl, rfl⟩)), if_neg hx, h.lk]
  · have := h.clen; dsimp only [RSt.setLock]; omega
  · have := h.cbd d hd; dsimp only [RSt.setLock]; omega
  · have h1 := List.length_filter_le (fun d : RLk => d.obj != c.obj || d.off != c.off) r.locks
    have h2 := h.llen
    simp only [RSt.setLock, List.length_append, List.length_cons, List.length_nil]
    omega
  · simp only [RSt.setLock, List.mem_append, List.mem_filter, List.mem_singleton] at hd
    rcases hd with ⟨hd, _⟩ | rfl
    · have := h.lbd d hd; dsimp only; omega
    · dsimp only; omega
  · have := h.dlen; dsimp only [RSt.setLock]; omega

def Ans (p : RSt × Bool) (o : Option TS) : Prop := match o with
  | some t' => p.2 = true ∧ Rel { p.1 with count := p.1.count + 1 } { t' with events := t'.events + 1 }
  | none => p.2 = false

theorem Rel.other {r : RSt} {t : TS} (h : Rel r t) (hc : 0 ≤ r.count) (e : Ev) (hn : r.next = []) : Ans (r.otherR e) (t.simple e) := by
  obtain ⟨hm, ho, hf⟩ := h.lock e
  have hb := h.lock_bd hc e.obj e.off
  have hd := h.dn e.obj e.off
  unfold RSt.otherR TS.simple
  rw [← hm, hd]
  clear hm
  generalize r.lock e.obj e.off = m at ho hf hb ⊢
  obtain ⟨mo, mf, ml, mr⟩ := m
  dsimp only [RLk.conv] at ho hf hb ⊢
  subst ho; subst hf
  have same : Rel { r with count := r.count + 1 } { t with events := t.events + 1 } := Rel.keep h r.next t.grp h.gp h.go rfl
  by_cases k6 : e.kind = 6
  · rw [if_pos k6, if_pos k6]
    by_cases hl : ml = true ∨ 0 < mr
    · rw [if_pos hl]
      show (!ml && mr == 0) = false
      rcases hl with rfl | hl
      · rfl
      · rw [beq_eq_false_iff_ne.2 (by omega), Bool.and_false]
    · rw [if_neg hl]
      have h1 : ml = false := by cases ml <;> simp at hl ⊢
      have h2 : mr = 0 := by omega
      subst h1; subst h2
      exact ⟨rfl, Rel.putLock h ⟨e.obj, e.off, true, 0⟩ ⟨by dsimp only; omega, by dsimp only; omega⟩⟩
  rw [if_neg k6, if_neg k6]
  by_cases k7 : e.kind = 7
  · rw [if_pos k7, if_pos k7]
    cases ml with
    | false => rw [if_pos rfl]; rfl
    | true => rw [if_neg (by decide)]; exact ⟨rfl, Rel.putLock h ⟨e.obj, e.off, false, mr⟩ ⟨hb.1, by dsimp only; omega⟩⟩
  rw [if_neg k7, if_neg k7]
  by_cases k8 : e.kind = 8
  · rw [if_pos k8, if_pos k8]
    cases ml with
    | true => rw [if_pos rfl]; rfl
    | false => rw [if_neg (by decide)]; exact ⟨rfl, Rel.putLock h ⟨e.obj, e.off, false, mr + 1⟩ ⟨by dsimp only; omega, by dsimp only; omega⟩⟩
  rw [if_neg k8, if_neg k8]
  by_cases k9 : e.kind = 9
  · rw [if_pos k9, if_pos k9]
    by_cases hl : mr = 0
    · rw [if_pos hl]; subst hl; rfl
    · rw [if_neg hl]
      exact ⟨decide_eq_true (show 0 ≤ mr - 1 by omega), Rel.putLock h ⟨e.obj, e.off, ml, mr - 1⟩ ⟨by dsimp only; omega, by dsimp only; omega⟩⟩
  rw [if_neg k9, if_neg k9]
  by_cases k12 : e.kind = 12
  · rw [if_pos k12, if_pos k12]
    cases hdo : r.isDone e.obj e.off with
    | true => rw [if_pos rfl]; rfl
    | false =>
      rw [if_neg (by decide)]
      refine ⟨rfl, by simp only [h.ct], h.gr, h.ch, h.lk, fun x y => ?_, h.gp, h.go, h.bal, ?_, fun d hd => ?_, ?_, fun d hd => ?_, ?_⟩
      · unfold RSt.isDone
        dsimp only
        rw [List.any_append]
        by_cases hx : (x, y) = (e.obj, e.off)
        · cases hx; rw [upd_same]; simp
        · rw [upd_other _ _ hx, h.dn]
          have : ((e.obj == x) && (e.off == y)) = false := by
            rw [Bool.eq_false_iff]
            intro h2
            simp only [Bool.and_eq_true, beq_iff_eq] at h2
            exact hx (by rw [h2.1, h2.2])
          unfold RSt.isDone
          simp [this]
      · have := h.clen; dsimp only; omega
      · have := h.cbd d hd; dsimp only; omega
      · have := h.llen; dsimp only; omega
      · have := h.lbd d hd; dsimp only; omega
      · have := h.dlen; simp only [List.length_append, List.length_cons, List.length_nil]; omega
  rw [if_neg k12, if_neg k12]
  by_cases k13 : e.kind = 13
  · rw [if_pos k13, if_pos k13]
    cases hdo : r.isDone e.obj e.off with
    | true => rw [if_pos rfl]; exact ⟨rfl, same⟩
    | false => rw [if_neg (by decide)]; rfl
  rw [if_neg k13, if_neg k13]
  by_cases k14 : e.kind = 14
  · rw [if_pos k14, if_pos k14, h.gr]
    by_cases hk : e.k = t.gor
    · rw [if_neg (fun h => h hk)]
      refine ⟨beq_iff_eq.2 hk, by simp only [h.ct], ?_, h.ch, h.lk, h.dn, h.gp, h.go, h.bal, ?_, fun d hd => ?_, ?_, fun d hd => ?_, ?_⟩
      · rfl
      · have := h.clen; dsimp only; omega
      · have := h.cbd d hd; dsimp only; omega
      · have := h.llen; dsimp only; omega
      · have := h.lbd d hd; dsimp only; omega
      · have := h.dlen; dsimp only; omega
    · rw [if_pos hk]; exact beq_eq_false_iff_ne.2 hk
  rw [if_neg k14, if_neg k14]
  exact ⟨rfl, same⟩
end Go.Proofs.Ytkdagjlkejefnaa
end
section
set_option linter.unusedSimpArgs false
set_option linter.unusedVariables false
namespace Go.Proofs.Ytkdagjlkejefnaa
open Go

theorem fits_eq {r : RSt} {o : Grp} {w : RWt} {l : List RWt} {e : Ev} (hg : RelG (w :: l) o.kinds o.snd o.rcv) (h1 : o.obj = r.obj) (h2 : o.k = r.k) (h3 : o.n = r.n) : r.fits w e = o.fits e := by
  obtain ⟨kinds, ob, k, n, snd, rcv⟩ := o
  dsimp only at hg h1 h2 h3
  subst h1; subst h2; subst h3
  rw [Bool.eq_iff_iff]
  unfold RSt.fits Grp.fits Grp.own Grp.other sendsB
  cases hg <;> (by_cases hk : e.kind = 15 ∨ e.kind = 16) <;> simp [hk] <;> omega

theorem RelG.inv {w : RWt} {l : List RWt} {k : List Int} {a b : Int} (h : RelG (w :: l) k a b) :
    (w = ⟨16, a, 0⟩ ∧ l = [] ∧ k = [16] ∧ 0 ≤ a) ∨ (w = ⟨18, b, 0⟩ ∧ l = [] ∧ k = [18] ∧ 0 ≤ b) ∨ (w = ⟨17, -1, a⟩ ∧ l = [⟨18, -1, 0⟩, ⟨16, a, 0⟩] ∧ k = [17, 18, 16] ∧ 0 ≤ a) ∨
    (w = ⟨15, -1, b⟩ ∧ l = [⟨18, b, 0⟩, ⟨16, -1, 0⟩] ∧ k = [15, 18, 16] ∧ 0 ≤ b) ∨ (w = ⟨18, b, 0⟩ ∧ l = [⟨16, a, 0⟩] ∧ k = [18, 16] ∧ 0 ≤ a ∧ 0 ≤ b) := by
  cases h with
  | snd g b h => exact .inl ⟨rfl, rfl, rfl, h⟩
  | rcv a g h => exact .inr (.inl ⟨rfl, rfl, rfl, h⟩)
  | wait g h => exact .inr (.inr (.inl ⟨rfl, rfl, rfl, h⟩))
  | ask g h => exact .inr (.inr (.inr (.inl ⟨rfl, rfl, rfl, h⟩)))
  | both a b h k => exact .inr (.inr (.inr (.inr ⟨rfl, rfl, rfl, h, k⟩)))
theorem upd_id {κ : Type} [DecidableEq κ] {α : Type} {f : κ → Option α} {x : κ} {v : α} (h : f x = some v) : upd f x v = f := by
  funext y
  by_cases hy : y = x
  · subst hy; rw [upd_same, h]
  · rw [upd_other _ _ hy]
theorem TS.count_id {t : TS} {e : Ev} {c : Ch} (h : t.chans e.obj = some c) (h5 : e.kind ≠ 15) (h7 : e.kind ≠ 17) : t.count e = t := by
  unfold TS.count Ch.count
  rw [h, Option.getD_some, if_neg h5, if_neg h7, upd_id h]

theorem Rel.group {r : RSt} {t : TS} (h : Rel r t) (e : Ev) (hv : 0 ≤ e.g) (hc : 0 ≤ r.count) (hn : r.next ≠ []) : Ans (r.groupR e) (t.proceed e) := by
  obtain ⟨h1, h2, h3, h4⟩ := h.go hn
  obtain ⟨c, hc4⟩ := Option.isSome_iff_exists.1 h4
  have hgp := h.gp
  unfold RSt.groupR TS.proceed
  cases hnx : r.next with
  | nil => exact absurd hnx hn
  | cons w l =>
    rw [hnx] at hgp
    dsimp only
    rw [fits_eq hgp h1 h2 h3]
    cases hf : t.grp.fits e with
    | false => rw [if_neg (by decide), if_neg (by decide)]; rfl
    | true =>
      rw [if_pos rfl, if_pos rfl]
      have hfit := hf
      unfold Grp.fits at hfit
      simp only [Bool.and_eq_true, decide_eq_true_eq, Bool.not_eq_true', Bool.or_eq_false_iff, decide_eq_false_iff_not] at hfit
      obtain ⟨⟨f1, f2, f3, f4⟩, f5, f6⟩ := hfit
      have hbal := h.bal
      have hob : e.obj = r.obj := f2.trans h1
      have hc5 : t.chans e.obj = some c := by rw [hob]; exact hc4
      -- the channel of the group
      have hch : (r.channel e.obj e.n).conv = c ∧ (r.channel e.obj e.n).obj = e.obj := by
        have h5 := h.channel e
        unfold TS.chan at h5
        rw [hc5] at h5
        exact h5
      have hbd := h.channel_bd hc e.obj e.n
      generalize hd : r.channel e.obj e.n = d at hch hbd
      obtain ⟨hcd, hdo⟩ := hch
      refine ⟨rfl, ?_⟩
      dsimp only
      unfold RSt.counted
      rcases hgp.inv with ⟨rfl, rfl, hk, g0⟩ | ⟨rfl, rfl, hk, g0⟩ | ⟨rfl, rfl, hk, g0⟩ | ⟨rfl, rfl, hk, g0⟩ | ⟨rfl, rfl, hk, g0, g1⟩
      · have hek : e.kind = 16 := by rw [f1, hk]; rfl
        have hgn : t.grp.next e = { t.grp with kinds := [], snd := e.g } := by unfold Grp.next sendsB; rw [if_pos (by simp [hek]), hk]; rfl
        rw [if_neg (by omega), TS.count_id hc5 (by omega) (by omega), hgn]
        exact Rel.keep h [] _ (.none _ _) (fun h => absurd rfl h) (by rw [hk]; rfl)
      · have hek : e.kind = 18 := by rw [f1, hk]; rfl
        have hgn : t.grp.next e = { t.grp with kinds := [], rcv := e.g } := by unfold Grp.next sendsB; rw [if_neg (by simp [hek]), hk]; rfl
        rw [if_neg (by omega), TS.count_id hc5 (by omega) (by omega), hgn]
        exact Rel.keep h [] _ (.none _ _) (fun h => absurd rfl h) (by rw [hk]; rfl)
      · have hek : e.kind = 17 := by rw [f1, hk]; rfl
        have hgn : t.grp.next e = { t.grp with kinds := [18, 16], rcv := e.g } := by unfold Grp.next sendsB; rw [if_neg (by simp [hek]), hk]; rfl
        have hb := hbal _ _ hc4
        rw [if_pos rfl, hk] at hb
        rw [if_pos (.inr hek), hgn]
        have hb' : c.recv ≤ c.sent + (-1) := hb
        have := Rel.put h { d with recv := d.recv + 1 } (by dsimp only; omega) (by dsimp only; omega) [⟨18, e.g, 0⟩, ⟨16, t.grp.snd, 0⟩] r.obj r.k r.n { t.grp with kinds := [18, 16], rcv := e.g } (.both _ _ g0 hv)
          (fun _ => ⟨h1, h2, h3, by show r.obj = d.obj; rw [hdo, hob]⟩) (by rw [← hcd] at hb'; show d.recv + 1 ≤ d.sent + 0; unfold RCh.conv at hb'; dsimp only at hb'; omega)
          (fun x y hx hy => by have h6 := hbal x y hy; rw [if_neg (fun h7 => hx (by show x = d.obj; rw [h7, hdo, hob]))] at h6; omega)
        have hd2 : RSt.channel { r with next := List.map ((⟨17, -1, t.grp.snd⟩ : RWt).known e.g) [⟨18, -1, 0⟩, ⟨16, t.grp.snd, 0⟩] } e.obj e.n = d := hd
        have hnx2 : List.map ((⟨17, -1, t.grp.snd⟩ : RWt).known e.g) [⟨18, -1, 0⟩, ⟨16, t.grp.snd, 0⟩] = [⟨18, e.g, 0⟩, ⟨16, t.grp.snd, 0⟩] := by
          simp only [List.map_cons, List.map_nil, RWt.known]
          rw [if_pos (by decide), if_neg (fun h => by omega)]
        have ht : t.count e = { t with chans := upd t.chans d.obj ({ d with recv := d.recv + 1 } : RCh).conv } := by
          unfold TS.count Ch.count
          rw [hc5, hek, hdo, Option.getD_some, if_neg (by decide), if_pos rfl, ← hcd]; rfl
        rw [hd2, hnx2, ht]
        unfold RCh.count
        rw [if_neg (by omega), if_pos hek]
        exact this
      · have hek : e.kind = 15 := by rw [f1, hk]; rfl
        have hgn : t.grp.next e = { t.grp with kinds := [18, 16], snd := e.g } := by unfold Grp.next sendsB; rw [if_pos (by simp [hek]), hk]; rfl
        have hb := hbal _ _ hc4
        rw [if_pos rfl, hk] at hb
        rw [if_pos (.inl hek), hgn]
        have hb' : c.recv ≤ c.sent + 1 := hb
        have := Rel.put h { d with sent := d.sent + 1 } (by dsimp only; omega) (by dsimp only; omega) [⟨18, t.grp.rcv, 0⟩, ⟨16, e.g, 0⟩] r.obj r.k r.n { t.grp with kinds := [18, 16], snd := e.g } (.both _ _ hv g0)
          (fun _ => ⟨h1, h2, h3, by show r.obj = d.obj; rw [hdo, hob]⟩) (by rw [← hcd] at hb'; show d.recv ≤ d.sent + 1 + 0; unfold RCh.conv at hb'; dsimp only at hb'; omega)
          (fun x y hx hy => by have h6 := hbal x y hy; rw [if_neg (fun h7 => hx (by show x = d.obj; rw [h7, hdo, hob]))] at h6; omega)
        have hd2 : RSt.channel { r with next := List.map ((⟨15, -1, t.grp.rcv⟩ : RWt).known e.g) [⟨18, t.grp.rcv, 0⟩, ⟨16, -1, 0⟩] } e.obj e.n = d := hd
        have hnx2 : List.map ((⟨15, -1, t.grp.rcv⟩ : RWt).known e.g) [⟨18, t.grp.rcv, 0⟩, ⟨16, -1, 0⟩] = [⟨18, t.grp.rcv, 0⟩, ⟨16, e.g, 0⟩] := by
          simp only [List.map_cons, List.map_nil, RWt.known]
          rw [if_neg (fun h => by omega), if_pos (by decide)]
        have ht : t.count e = { t with chans := upd t.chans d.obj ({ d with sent := d.sent + 1 } : RCh).conv } := by
          unfold TS.count Ch.count
          rw [hc5, hek, hdo, Option.getD_some, if_pos rfl, ← hcd]; rfl
        rw [hd2, hnx2, ht]
        unfold RCh.count
        rw [if_pos hek]
        exact this
      · have hek : e.kind = 18 := by rw [f1, hk]; rfl
        have hgn : t.grp.next e = { t.grp with kinds := [16], rcv := e.g } := by unfold Grp.next sendsB; rw [if_neg (by simp [hek]), hk]; rfl
        rw [if_neg (by omega), TS.count_id hc5 (by omega) (by omega), hgn]
        have hnx2 : List.map ((⟨18, t.grp.rcv, 0⟩ : RWt).known e.g) [⟨16, t.grp.snd, 0⟩] = [⟨16, t.grp.snd, 0⟩] := by
          simp only [List.map_cons, List.map_nil, RWt.known]
          rw [if_neg (fun h => by omega)]
        rw [hnx2]
        exact Rel.keep h [⟨16, t.grp.snd, 0⟩] { t.grp with kinds := [16], rcv := e.g } (.snd _ _ g0) (fun _ => ⟨h1, h2, h3, h4⟩) (by rw [hk]; rfl)

theorem set_count (r : RSt) (c : RCh) : (r.setChannel c).count = r.count := rfl
theorem Rel.transfer {r : RSt} {t : TS} (h : Rel r t) (e : Ev) (hv : 0 ≤ e.g) (hc : 0 ≤ r.count) (hgor : 1 ≤ r.gor) (hn : r.next = []) : Ans (r.transferR e) (t.operate e) := by
  obtain ⟨hm, ho⟩ := h.channel e
  have hb := h.channel_bd hc e.obj e.n
  have hgr := h.gr
  have hbal : ∀ x c, t.chans x = some c → c.recv ≤ c.sent := fun x c hx => by
    have h1 := h.bal x c hx
    have h2 := h.gp.nil_asks hn
    rw [h2] at h1; split at h1 <;> omega
  have hbc : (r.channel e.obj e.n).recv ≤ (r.channel e.obj e.n).sent := by
    have h1 := hm
    unfold TS.chan at h1
    cases hc : t.chans e.obj with
    | none => rw [hc] at h1; have h2 := congrArg Ch.recv h1; have h3 := congrArg Ch.sent h1; dsimp only [RCh.conv, ch0] at h2 h3; omega
    | some c => rw [hc] at h1; have h4 := hbal _ _ hc; have h2 := congrArg Ch.recv h1; have h3 := congrArg Ch.sent h1; dsimp only [RCh.conv] at h2 h3; omega
  have hbegin : ∀ (nx : List RWt), RSt.begin r e nx = if e.kind = 15 ∨ e.kind = 17 then ({ r.setChannel ((r.channel e.obj e.n).count e.kind) with next := nx, obj := e.obj, k := e.k, n := e.n } : RSt) else { r with next := nx, obj := e.obj, k := e.k, n := e.n } := fun nx => by
    unfold RSt.begin RSt.counted; split <;> rfl
  unfold RSt.transferR TS.operate
  simp only [hbegin]
  rw [← hm]
  clear hm hbegin
  generalize r.channel e.obj e.n = d at ho hb hbc ⊢
  dsimp only [RCh.conv, Ch.missing, TS.start]
  have put : ∀ (c : RCh) (nx : List RWt) (o : Grp), c.obj = d.obj → (0 ≤ c.sent ∧ c.sent ≤ r.count + 1) → (0 ≤ c.recv ∧ c.recv ≤ r.count + 1) → RelG nx o.kinds o.snd o.rcv → (o.obj = e.obj ∧ o.k = e.k ∧ o.n = e.n) → c.recv ≤ c.sent + asks o.kinds →
      Rel { r.setChannel c with next := nx, obj := e.obj, k := e.k, n := e.n, count := r.count + 1 } { t with chans := upd t.chans e.obj c.conv, grp := o, events := t.events + 1 } := fun c nx o h1 h2 h3 h4 h5 h6 => by
    have := Rel.put h c h2 h3 nx e.obj e.k e.n o h4 (fun _ => ⟨h5.1, h5.2.1, h5.2.2, by rw [h1, ho]⟩) h6 (fun x y _ hy => hbal x y hy)
    rw [show c.obj = e.obj by rw [h1, ho]] at this
    exact this
  by_cases q1 : d.n = e.n
  case neg => simp only [q1, ne_eq, not_true_eq_false, not_false_eq_true, if_true, if_false, reduceIte, Int.reduceEq, true_or, or_true, false_or, or_false, or_self, true_and, and_true, false_and, and_false, and_self, Option.map_some, Option.map_none, Bool.false_eq_true, reduceCtorEq, decide_eq_false_iff_not, Bool.true_and, Bool.false_and, Bool.true_eq_false]; rfl
  simp only [q1, ne_eq, not_true_eq_false, not_false_eq_true, if_true, if_false, reduceIte, Int.reduceEq, true_or, or_true, false_or, or_false, or_self, true_and, and_true, false_and, and_false, and_self, Option.map_some, Option.map_none, Bool.false_eq_true, reduceCtorEq, decide_eq_false_iff_not, Bool.true_and, Bool.false_and, Bool.true_eq_false]
  by_cases k15 : e.kind = 15
  · simp only [k15, ne_eq, not_true_eq_false, not_false_eq_true, if_true, if_false, reduceIte, Int.reduceEq, true_or, or_true, false_or, or_false, or_self, true_and, and_true, false_and, and_false, and_self, Option.map_some, Option.map_none, Bool.false_eq_true, reduceCtorEq, decide_eq_false_iff_not, Bool.true_and, Bool.false_and, Bool.true_eq_false, RCh.count, Ch.count]
    by_cases q2 : e.k = d.sent
    case neg => simp only [q2, ne_eq, not_true_eq_false, not_false_eq_true, if_true, if_false, reduceIte, Int.reduceEq, true_or, or_true, false_or, or_false, or_self, true_and, and_true, false_and, and_false, and_self, Option.map_some, Option.map_none, Bool.false_eq_true, reduceCtorEq, decide_eq_false_iff_not, Bool.true_and, Bool.false_and, Bool.true_eq_false]; rfl
    simp only [q2, ne_eq, not_true_eq_false, not_false_eq_true, if_true, if_false, reduceIte, Int.reduceEq, true_or, or_true, false_or, or_false, or_self, true_and, and_true, false_and, and_false, and_self, Option.map_some, Option.map_none, Bool.false_eq_true, reduceCtorEq, decide_eq_false_iff_not, Bool.true_and, Bool.false_and, Bool.true_eq_false]
    cases q3 : d.closed with
    | true => simp only [ne_eq, not_true_eq_false, not_false_eq_true, if_true, if_false, reduceIte, Int.reduceEq, true_or, or_true, false_or, or_false, or_self, true_and, and_true, false_and, and_false, and_self, Option.map_some, Option.map_none, Bool.false_eq_true, reduceCtorEq, decide_eq_false_iff_not, Bool.true_and, Bool.false_and, Bool.true_eq_false]; rfl
    | false =>
      simp only [ne_eq, not_true_eq_false, not_false_eq_true, if_true, if_false, reduceIte, Int.reduceEq, true_or, or_true, false_or, or_false, or_self, true_and, and_true, false_and, and_false, and_self, Option.map_some, Option.map_none, Bool.false_eq_true, reduceCtorEq, decide_eq_false_iff_not, Bool.true_and, Bool.false_and, Bool.true_eq_false]
      by_cases q4 : d.sent - d.recv < e.n
      · rw [if_pos ⟨by omega, q4⟩, if_pos q4]
        refine ⟨rfl, ?_⟩
        have := put { d with sent := d.sent + 1 } [⟨16, e.g, 0⟩] ⟨[16], e.obj, e.k, e.n, e.g, -1⟩ rfl (by dsimp only; omega) (by dsimp only; omega) (.snd _ _ hv) ⟨rfl, rfl, rfl⟩ (by show d.recv ≤ d.sent + 1 + 0; omega)
        simpa only [RCh.conv, set_count, q1, q2, q3] using this
      · rw [if_neg (fun h => q4 h.2), if_neg q4]
        by_cases q5 : e.n = 0 ∧ ¬ t.gor = 1
        · rw [if_pos ⟨q5.1, by omega⟩, if_pos q5]
          refine ⟨rfl, ?_⟩
          have := put { d with sent := d.sent + 1 } [⟨17, -1, e.g⟩, ⟨18, -1, 0⟩, ⟨16, e.g, 0⟩] ⟨[17, 18, 16], e.obj, e.k, e.n, e.g, -1⟩ rfl (by dsimp only; omega) (by dsimp only; omega) (.wait _ hv) ⟨rfl, rfl, rfl⟩ (by show d.recv ≤ d.sent + 1 + (-1); omega)
          simpa only [RCh.conv, set_count, q1, q2, q3] using this
        · rw [if_neg (fun h => q5 ⟨h.1, by omega⟩), if_neg q5]; rfl
  simp only [k15, ne_eq, not_true_eq_false, not_false_eq_true, if_true, if_false, reduceIte, Int.reduceEq, true_or, or_true, false_or, or_false, or_self, true_and, and_true, false_and, and_false, and_self, Option.map_some, Option.map_none, Bool.false_eq_true, reduceCtorEq, decide_eq_false_iff_not, Bool.true_and, Bool.false_and, Bool.true_eq_false]
  by_cases k17 : e.kind = 17
  · simp only [k17, ne_eq, not_true_eq_false, not_false_eq_true, if_true, if_false, reduceIte, Int.reduceEq, true_or, or_true, false_or, or_false, or_self, true_and, and_true, false_and, and_false, and_self, Option.map_some, Option.map_none, Bool.false_eq_true, reduceCtorEq, decide_eq_false_iff_not, Bool.true_and, Bool.false_and, Bool.true_eq_false, RCh.count, Ch.count]
    by_cases q2 : e.k = d.recv
    case neg => simp only [q2, ne_eq, not_true_eq_false, not_false_eq_true, if_true, if_false, reduceIte, Int.reduceEq, true_or, or_true, false_or, or_false, or_self, true_and, and_true, false_and, and_false, and_self, Option.map_some, Option.map_none, Bool.false_eq_true, reduceCtorEq, decide_eq_false_iff_not, Bool.true_and, Bool.false_and, Bool.true_eq_false]; rfl
    simp only [q2, ne_eq, not_true_eq_false, not_false_eq_true, if_true, if_false, reduceIte, Int.reduceEq, true_or, or_true, false_or, or_false, or_self, true_and, and_true, false_and, and_false, and_self, Option.map_some, Option.map_none, Bool.false_eq_true, reduceCtorEq, decide_eq_false_iff_not, Bool.true_and, Bool.false_and, Bool.true_eq_false]
    by_cases q4 : d.recv < d.sent
    · rw [if_pos q4, if_pos q4]
      refine ⟨rfl, ?_⟩
      have := put { d with recv := d.recv + 1 } [⟨18, e.g, 0⟩] ⟨[18], e.obj, e.k, e.n, -1, e.g⟩ rfl (by dsimp only; omega) (by dsimp only; omega) (.rcv _ _ hv) ⟨rfl, rfl, rfl⟩ (by show d.recv + 1 ≤ d.sent + 0; omega)
      simpa only [RCh.conv, set_count, q1, q2] using this
    · rw [if_neg q4, if_neg q4]
      by_cases q5 : d.closed = false ∧ ¬ t.gor = 1
      · rw [if_pos ⟨q5.1, by omega⟩, if_pos q5]
        refine ⟨rfl, ?_⟩
        have := put { d with recv := d.recv + 1 } [⟨15, -1, e.g⟩, ⟨18, e.g, 0⟩, ⟨16, -1, 0⟩] ⟨[15, 18, 16], e.obj, e.k, e.n, -1, e.g⟩ rfl (by dsimp only; omega) (by dsimp only; omega) (.ask _ hv) ⟨rfl, rfl, rfl⟩ (by show d.recv + 1 ≤ d.sent + 1; omega)
        simpa only [RCh.conv, set_count, q1, q2] using this
      · rw [if_neg (fun h => q5 ⟨h.1, by omega⟩), if_neg q5]; rfl
  simp only [k17, ne_eq, not_true_eq_false, not_false_eq_true, if_true, if_false, reduceIte, Int.reduceEq, true_or, or_true, false_or, or_false, or_self, true_and, and_true, false_and, and_false, and_self, Option.map_some, Option.map_none, Bool.false_eq_true, reduceCtorEq, decide_eq_false_iff_not, Bool.true_and, Bool.false_and, Bool.true_eq_false]
  by_cases k19 : e.kind = 19
  · simp only [k19, ne_eq, not_true_eq_false, not_false_eq_true, if_true, if_false, reduceIte, Int.reduceEq, true_or, or_true, false_or, or_false, or_self, true_and, and_true, false_and, and_false, and_self, Option.map_some, Option.map_none, Bool.false_eq_true, reduceCtorEq, decide_eq_false_iff_not, Bool.true_and, Bool.false_and, Bool.true_eq_false]
    cases q3 : d.closed with
    | true => simp only [ne_eq, not_true_eq_false, not_false_eq_true, if_true, if_false, reduceIte, Int.reduceEq, true_or, or_true, false_or, or_false, or_self, true_and, and_true, false_and, and_false, and_self, Option.map_some, Option.map_none, Bool.false_eq_true, reduceCtorEq, decide_eq_false_iff_not, Bool.true_and, Bool.false_and, Bool.true_eq_false]; rfl
    | false =>
      simp only [ne_eq, not_true_eq_false, not_false_eq_true, if_true, if_false, reduceIte, Int.reduceEq, true_or, or_true, false_or, or_false, or_self, true_and, and_true, false_and, and_false, and_self, Option.map_some, Option.map_none, Bool.false_eq_true, reduceCtorEq, decide_eq_false_iff_not, Bool.true_and, Bool.false_and, Bool.true_eq_false]
      refine ⟨rfl, ?_⟩
      have h1 := Rel.put h { d with closed := true } (by dsimp only; omega) (by dsimp only; omega) r.next r.obj r.k r.n t.grp h.gp (fun h2 => absurd hn h2) (by rw [h.gp.nil_asks hn]; dsimp only; omega) (fun x y _ hy => hbal x y hy)
      simp only [RCh.conv, q1, ho] at h1
      rw [← q1, ho]
      rw [← q1] at h1
      exact h1
  simp only [k19, ne_eq, not_true_eq_false, not_false_eq_true, if_true, if_false, reduceIte, Int.reduceEq, true_or, or_true, false_or, or_false, or_self, true_and, and_true, false_and, and_false, and_self, Option.map_some, Option.map_none, Bool.false_eq_true, reduceCtorEq, decide_eq_false_iff_not, Bool.true_and, Bool.false_and, Bool.true_eq_false]
  by_cases k20 : e.kind = 20
  · simp only [k20, ne_eq, not_true_eq_false, not_false_eq_true, if_true, if_false, reduceIte, Int.reduceEq, true_or, or_true, false_or, or_false, or_self, true_and, and_true, false_and, and_false, and_self, Option.map_some, Option.map_none, Bool.false_eq_true, reduceCtorEq, decide_eq_false_iff_not, Bool.true_and, Bool.false_and, Bool.true_eq_false]
    show Ans (r, d.closed && d.sent == d.recv) (if d.closed = true ∧ d.sent = d.recv then some t else none)
    by_cases q4 : d.closed = true ∧ d.sent = d.recv
    · rw [if_pos q4]
      refine ⟨?_, Rel.keep h r.next t.grp h.gp h.go rfl⟩
      dsimp only
      rw [q4.1, beq_iff_eq.2 q4.2]; rfl
    · rw [if_neg q4]
      show (d.closed && d.sent == d.recv) = false
      rw [Bool.eq_false_iff]
      intro h1
      simp only [Bool.and_eq_true, beq_iff_eq] at h1
      exact q4 h1
  simp only [k20, ne_eq, not_true_eq_false, not_false_eq_true, if_true, if_false, reduceIte, Int.reduceEq, true_or, or_true, false_or, or_false, or_self, true_and, and_true, false_and, and_false, and_self, Option.map_some, Option.map_none, Bool.false_eq_true, reduceCtorEq, decide_eq_false_iff_not, Bool.true_and, Bool.false_and, Bool.true_eq_false]
  rfl

theorem Rel.step {r : RSt} {t : TS} (h : Rel r t) (hw : t.wf) (e : Ev) : match t.add e with
    | some t' => ∃ r', r.addR e = (r', true) ∧ Rel r' t'
    | none => r.addR e = (r, false) := by
  have had : r.admits e = t.admits e := by unfold RSt.admits TS.admits; rw [h.ct, h.gr]
  unfold TS.add RSt.addR
  rw [had]
  cases ha : t.admits e with
  | false => simp
  | true =>
    have hv : e.valid = true := by unfold TS.admits at ha; simp only [Bool.and_eq_true] at ha; exact ha.1.1
    have hg := (Ev.valid_g hv).1
    have hc : 0 ≤ r.count := by rw [h.ct]; exact hw.ev.1
    have hgr : 1 ≤ r.gor := by rw [h.gr]; exact hw.gr.1
    have hans : Ans (r.partR e) (t.part e) := by
      have hk := h.gp.kinds
      by_cases hn : r.next = []
      · have h1 : r.partR e = if chanB e.kind = true then r.transferR e else r.otherR e := by unfold RSt.partR; rw [hn]; exact if_neg (Nat.lt_irrefl 0)
        have h2 : t.part e = if chanB e.kind = true then t.operate e else t.simple e := by unfold TS.part TS.isOpen; rw [hk, hn]; exact if_neg (by simp)
        rw [h1, h2]
        by_cases hch : chanB e.kind = true
        · rw [if_pos hch, if_pos hch]; exact h.transfer e hg hc hgr hn
        · rw [if_neg hch, if_neg hch]; exact h.other hc e hn
      · have hpos : 0 < r.next.length := List.length_pos_iff.2 hn
        have h1 : r.partR e = r.groupR e := by unfold RSt.partR; exact if_pos hpos
        have h2 : t.part e = t.proceed e := by unfold TS.part TS.isOpen; rw [hk, List.length_map]; exact if_pos (decide_eq_true hpos)
        rw [h1, h2]
        exact h.group e hg hc hn
    rw [if_pos rfl]
    unfold Ans at hans
    cases hp : t.part e with
    | none =>
      rw [hp] at hans
      rw [if_neg (by rw [hans]; simp)]
      rfl
    | some t' =>
      rw [hp] at hans
      rw [if_pos ⟨rfl, hans.1⟩]
      exact ⟨_, rfl, hans.2⟩
end Go.Proofs.Ytkdagjlkejefnaa
end
section
set_option linter.unusedSimpArgs false
set_option linter.unusedVariables false
namespace Go.Proofs.Ytkdagjlkejefnaa
open Go

theorem steps_rel {r : RSt} {s t : TS} (hr : Rel r s) (hw : s.wf) {l : List Ev} (h : s.steps l = some t) : ∃ r', Rel r' t := by
  induction l generalizing r s with
  | nil => simp [TS.steps] at h; subst h; exact ⟨r, hr⟩
  | cons e l ih =>
    simp only [TS.steps, Option.bind_eq_some_iff] at h
    obtain ⟨u, hu, hs⟩ := h
    have := hr.step hw e
    rw [hu] at this
    obtain ⟨r', _, h2⟩ := this
    exact ih h2 (TS.add_wf hw hu) hs
/-- the kinds that an open group waits for -/
def TS.kok (t : TS) : Prop := t.isOpen = true → 15 ≤ t.grp.kinds.headD 0 ∧ t.grp.kinds.headD 0 ≤ 18
theorem Rel.kok {r : RSt} {t : TS} (h : Rel r t) : t.kok := fun ho => by
  have hg := h.gp
  unfold TS.isOpen at ho
  generalize r.next = nx at hg
  generalize t.grp.snd = sa at hg
  generalize t.grp.rcv = sb at hg
  generalize t.grp.kinds = ks at hg ho ⊢
  cases hg <;> simp at ho ⊢

/-- where an event that is possible comes from -/
theorem add_cases {t u : TS} {e : Ev} (h : t.add e = some u) : e.valid = true ∧ ∃ v, { v with events := v.events + 1 } = u ∧ ((t.isOpen = true ∧ t.proceed e = some v) ∨ (t.isOpen = false ∧ chanB e.kind = true ∧ t.operate e = some v) ∨ (t.isOpen = false ∧ chanB e.kind = false ∧ t.simple e = some v)) := by
  unfold TS.add at h
  split at h
  · rename_i ha
    simp only [Option.map_eq_some_iff] at h
    obtain ⟨v, hv, rfl⟩ := h
    unfold TS.admits at ha
    simp only [Bool.and_eq_true] at ha
    refine ⟨ha.1.1, v, rfl, ?_⟩
    unfold TS.part at hv
    split at hv
    · rename_i ho; exact .inl ⟨ho, hv⟩
    · rename_i ho
      have ho : t.isOpen = false := by simpa using ho
      split at hv
      · rename_i hc; exact .inr (.inl ⟨ho, hc, hv⟩)
      · rename_i hc; exact .inr (.inr ⟨ho, by simpa using hc, hv⟩)
  · cases h
theorem proceed_eq {t v : TS} {e : Ev} (h : t.proceed e = some v) : t.grp.fits e = true ∧ v = { t.count e with grp := t.grp.next e } := by
  unfold TS.proceed at h
  split at h
  · rename_i hf; cases h; exact ⟨hf, rfl⟩
  · cases h
theorem operate_mus {t v : TS} {e : Ev} (h : t.operate e = some v) : v.mus = t.mus := by
  unfold TS.operate at h
  dsimp only at h
  repeat' split at h
  all_goals first
    | (cases h; done)
    | (cases h; rfl)
    | (simp only [Option.map_eq_some_iff] at h; obtain ⟨ks, _, rfl⟩ := h; rfl)
def TS.locked (t : TS) (x : Int × Int) : Bool := ((t.mus x).getD mu0).locked
/-- a locked mutex stays so up to its unlock, and is not locked again -/
theorem locked_keep {t u : TS} {e : Ev} (hk : t.kok) (h : t.add e = some u) {x : Int × Int} (hl : t.locked x = true) :
    ((e.obj, e.off) = x ∧ e.kind = 7) ∨ (u.locked x = true ∧ ((e.obj, e.off) = x → e.kind ≠ 6 ∧ e.kind ≠ 8)) := by
  obtain ⟨_, v, rfl, hv⟩ := add_cases h
  rcases hv with ⟨ho, hv⟩ | ⟨ho, hc, hv⟩ | ⟨ho, hc, hv⟩
  · obtain ⟨hf, rfl⟩ := proceed_eq hv
    have hkk := hk ho
    unfold Grp.fits at hf
    simp only [Bool.and_eq_true, decide_eq_true_eq] at hf
    exact .inr ⟨hl, fun _ => by have := hf.1.1; omega⟩
  · have := operate_mus hv
    unfold chanB at hc
    simp only [decide_eq_true_eq] at hc
    exact .inr ⟨by unfold TS.locked at hl ⊢; dsimp only; rw [this]; exact hl, fun _ => by omega⟩
  · by_cases hx : (e.obj, e.off) = x
    · subst hx
      have hm : (t.mu e).locked = true := hl
      unfold TS.simple at hv
      dsimp only at hv
      by_cases k6 : e.kind = 6
      · rw [if_pos k6, if_pos (.inl hm)] at hv; cases hv
      rw [if_neg k6] at hv
      by_cases k7 : e.kind = 7
      · exact .inl ⟨rfl, k7⟩
      rw [if_neg k7] at hv
      by_cases k8 : e.kind = 8
      · rw [if_pos k8, if_pos hm] at hv; cases hv
      rw [if_neg k8] at hv
      refine .inr ⟨?_, fun _ => ⟨k6, k8⟩⟩
      by_cases k9 : e.kind = 9
      · rw [if_pos k9] at hv
        split at hv
        · cases hv
        · cases hv
          unfold TS.locked
          dsimp only
          rw [upd_same]; exact hm
      rw [if_neg k9] at hv
      repeat' split at hv
      all_goals first
        | (cases hv; done)
        | (cases hv; exact hl)
    · refine .inr ⟨?_, fun h => absurd h hx⟩
      have hne : x ≠ (e.obj, e.off) := fun h => hx h.symm
      unfold TS.simple at hv
      dsimp only at hv
      unfold TS.locked at hl ⊢
      repeat' split at hv
      all_goals first
        | (cases hv; done)
        | (cases hv; dsimp only; rw [upd_other _ _ hne]; exact hl)
        | (cases hv; exact hl)
theorem lock_locks {t u : TS} {e : Ev} (hk : t.kok) (h : t.add e = some u) (h6 : e.kind = 6) : u.locked (e.obj, e.off) = true := by
  obtain ⟨_, v, rfl, hv⟩ := add_cases h
  rcases hv with ⟨ho, hv⟩ | ⟨ho, hc, hv⟩ | ⟨ho, hc, hv⟩
  · obtain ⟨hf, rfl⟩ := proceed_eq hv
    have hkk := hk ho
    unfold Grp.fits at hf
    simp only [Bool.and_eq_true, decide_eq_true_eq] at hf
    have := hf.1.1; omega
  · unfold chanB at hc
    simp only [decide_eq_true_eq] at hc; omega
  · unfold TS.simple at hv
    dsimp only at hv
    rw [if_pos h6] at hv
    split at hv
    · cases hv
    · cases hv
      unfold TS.locked
      dsimp only
      rw [upd_same]; rfl
/-- the scan behind a lock -/
def exclIn (x y : Int) : List Ev → Bool
  | [] => true
  | b :: bs => if b.obj ≠ x then exclIn x y bs else if b.off ≠ y then exclIn x y bs else if b.kind = 6 ∨ b.kind = 8 then false else if b.kind = 7 then true else exclIn x y bs
theorem excl_rest {r : RSt} {t u : TS} (hr : Rel r t) (hw : t.wf) {x y : Int} (hl : t.locked (x, y) = true) {l : List Ev} (h : t.steps l = some u) : exclIn x y l = true := by
  induction l generalizing r t with
  | nil => rfl
  | cons e l ih =>
    simp only [TS.steps, Option.bind_eq_some_iff] at h
    obtain ⟨v, hv, hs⟩ := h
    have hst := hr.step hw e
    rw [hv] at hst
    obtain ⟨r', _, hr'⟩ := hst
    have hkeep := locked_keep hr.kok hv hl
    simp only [exclIn]
    by_cases ho : e.obj = x
    · by_cases hf : e.off = y
      · rw [if_neg (by omega), if_neg (by omega)]
        rcases hkeep with ⟨_, h7⟩ | ⟨hl', hn⟩
        · rw [if_neg (by omega), if_pos h7]
        · have := hn (by rw [ho, hf])
          rw [if_neg (by omega)]
          split
          · rfl
          · exact ih hr' (TS.add_wf hw hv) hl' hs
      · rw [if_neg (by omega), if_pos hf]
        rcases hkeep with ⟨hh, _⟩ | ⟨hl', _⟩
        · simp only [Prod.mk.injEq] at hh; exact absurd hh.2 hf
        · exact ih hr' (TS.add_wf hw hv) hl' hs
    · rw [if_pos ho]
      rcases hkeep with ⟨hh, _⟩ | ⟨hl', _⟩
      · simp only [Prod.mk.injEq] at hh; exact absurd hh.1 ho
      · exact ih hr' (TS.add_wf hw hv) hl' hs
theorem excl_valid {l : List Ev} (hc : chk l = l.length) {i : Nat} {a : Ev} (ha : l[i]? = some a) (h6 : a.kind = 6) : exclIn a.obj a.off (l.drop (i + 1)) = true := by
  obtain ⟨u, hu⟩ := TS.chk_steps TS.new l (Nat.le_refl _)
  unfold chk at hc
  rw [hc, List.take_length] at hu
  obtain ⟨hi, hai⟩ := List.getElem?_eq_some_iff.1 ha
  have hsplit : l = l.take i ++ (a :: l.drop (i + 1)) := by rw [← hai, ← List.drop_eq_getElem_cons hi, List.take_append_drop]
  rw [hsplit, TS.steps_append, Option.bind_eq_some_iff] at hu
  obtain ⟨t, ht, hu⟩ := hu
  simp only [TS.steps, Option.bind_eq_some_iff] at hu
  obtain ⟨v, hv, hu⟩ := hu
  obtain ⟨r, hr⟩ := steps_rel Rel.new TS.wf_new ht
  have hw := TS.steps_wf TS.wf_new ht
  have hst := hr.step hw a
  rw [hv] at hst
  obtain ⟨r', _, hr'⟩ := hst
  exact excl_rest hr' (TS.add_wf hw hv) (lock_locks hr.kok hv h6) hu
end Go.Proofs.Ytkdagjlkejefnaa
end
section
set_option linter.unusedSimpArgs false
set_option linter.unusedVariables false
namespace Go.Proofs.Ytkdagjlkejefnaa
open Go.RowKit Go.Maps

/-- Everything but the blocks named in L is as it was. -/
structure But (L : List Nat) (w w' : World) : Prop where
  os : w'.os = w.os
  tape : w'.tape = w.tape
  output : w'.output = w.output
  size : w.heap.size ≤ w'.heap.size
  block : ∀ k, k < w.heap.size → k ∉ L → w'.heap[k]? = w.heap[k]?

theorem But.refl (L : List Nat) (w : World) : But L w w := ⟨rfl, rfl, rfl, Nat.le_refl _, fun _ _ _ => rfl⟩
theorem But.trans {L : List Nat} {a b c : World} (h : But L a b) (k : But L b c) : But L a c :=
  ⟨k.os.trans h.os, k.tape.trans h.tape, k.output.trans h.output, Nat.le_trans h.size k.size, fun i hi hn => (k.block i (Nat.lt_of_lt_of_le hi h.size) hn).trans (h.block i hi hn)⟩
theorem But.mono {L L' : List Nat} {a b : World} (h : But L a b) (hs : ∀ x ∈ L, x ∈ L' ∨ a.heap.size ≤ x) : But L' a b :=
  ⟨h.os, h.tape, h.output, h.size, fun i hi hn => h.block i hi (fun hm => by rcases hs i hm with h1 | h1; exact hn h1; omega)⟩
theorem But.drewN {L : List Nat} {a b : World} (h : But L a b) (n : Nat) : But L a (b.drewN n) := ⟨h.os, h.tape, h.output, h.size, h.block⟩
theorem But.drew {L : List Nat} {a b : World} (h : But L a b) : But L a b.drew := ⟨h.os, h.tape, h.output, h.size, h.block⟩
theorem But.alloc {L : List Nat} {a b : World} (h : But L a b) (o : Obj) : But L a (b.alloc o) :=
  h.trans ⟨rfl, rfl, rfl, by simp, fun k hk _ => Below.heap_alloc _ _ _ hk⟩
theorem But.setCell {L : List Nat} {a b : World} (h : But L a b) {p : Addr} (hp : p.block ∈ L ∨ a.heap.size ≤ p.block) (u : Value) : But L a (b.setCell p u) :=
  ⟨h.os, h.tape, h.output, by simpa [World.setCell] using h.size, fun k hk hn => (Below.heap_setCell _ _ _ _ (by rintro rfl; rcases hp with h1 | h1; exact hn h1; omega)).trans (h.block k hk hn)⟩
theorem But.below {L : List Nat} {a b c : World} (h : But L a b) (hb : Below b.heap.size b c) : But L a c :=
  h.trans ⟨hb.os, hb.tape, hb.output, hb.size, fun k hk _ => hb.block k hk⟩
theorem But.grown {L : List Nat} {a b c : World} (h : But L a b) {g : Nat} (hg : b.grownBy c (some g)) (hL : g ∈ L ∨ a.heap.size ≤ g) : But L a c :=
  ⟨hg.os.trans h.os, hg.tape.trans h.tape, hg.output.trans h.output, Nat.le_trans h.size hg.size, fun k hk hn =>
    (hg.block k (Nat.lt_of_lt_of_le hk h.size) (by rintro he; cases he; rcases hL with h1 | h1; exact hn h1; omega)).trans (h.block k hk hn)⟩
theorem But.to_below {w w' : World} (h : But [] w w') : Below w.heap.size w w' := ⟨h.os, h.tape, h.output, h.size, fun k hk => h.block k hk (by simp)⟩

theorem But.cell {L : List Nat} {w w' : World} (h : But L w w') {p : Addr} (hp : p.block < w.heap.size) (hL : p.block ∉ L) : w'.cell? p = w.cell? p := World.cell?_of_block (w := w) (h.block p.block hp hL)
theorem But.frozen {L : List Nat} {w w' : World} (h : But L w w') {p : Addr} (hp : p.block < w.heap.size) (hL : p.block ∉ L) : w'.frozen? p = w.frozen? p := World.frozen?_of_block (w := w) (h.block p.block hp hL)

/-- An element kept as it is. -/
def heldE (v : Value) : Option (DataW Value × List MemPlace) := some (.held v, [])


/-- The keys of type k, as the Lean type κ has them. -/
structure KeyT (P : Program) (k : TypeId) {κ : Type} (kv : κ → Value) (ok : κ → Prop) : Prop where
  keyed : Keyed P k
  reads : ∀ x, ok x → ∃ l, keyOf P k (kv x) = some l
  inj : ∀ x y, kv x = kv y → x = y

/-- Block b is a map of at most n entries; at the key x it holds f x. -/
def MapOf {κ : Type} (kv : κ → Value) (w : World) (P : Program) (k : TypeId) (b n : Nat) (f : κ → Option Value) : Prop :=
  ∃ D, w.ownsMap P k heldE b n D ∧ ∀ x l, keyOf P k (kv x) = some l → D.atKey l .nil = (match f x with | some v => .held v | none => .nil)

section
variable {κ : Type} [DecidableEq κ] {kv : κ → Value} {ok : κ → Prop}
variable {P : Program} {k e t : TypeId} {w w' : World} {b n : Nat} {f : κ → Option Value}

omit [DecidableEq κ] in
theorem MapOf.made (w : World) (P : Program) (k : TypeId) : MapOf kv (w.alloc (.map #[] 0)) P k w.heap.size 0 (fun _ => none) :=
  ⟨_, World.ownsMap_made w P k heldE, fun _ _ _ => rfl⟩
omit [DecidableEq κ] in
theorem MapOf.lt (h : MapOf kv w P k b n f) : b < w.heap.size := let ⟨_, h, _⟩ := h; h.lt
omit [DecidableEq κ] in
theorem MapOf.keep (h : MapOf kv w P k b n f) (hb : w'.heap[b]? = w.heap[b]?) : MapOf kv w' P k b n f :=
  let ⟨D, ⟨es, cl, h1, h2⟩, h3⟩ := h
  ⟨D, ⟨es, cl, hb.trans h1, h2⟩, h3⟩
omit [DecidableEq κ] in
theorem MapOf.but {L : List Nat} (h : MapOf kv w P k b n f) (hb : But L w w') (hL : b ∉ L) : MapOf kv w' P k b n f := h.keep (hb.block b h.lt hL)
omit [DecidableEq κ] in
theorem MapOf.mono (h : MapOf kv w P k b n f) {n' : Nat} (hn : n ≤ n') : MapOf kv w P k b n' f :=
  let ⟨D, h1, h3⟩ := h
  ⟨D, h1.mono hn, h3⟩
omit [DecidableEq κ] in
theorem MapOf.drewN (h : MapOf kv w P k b n f) (m : Nat) : MapOf kv (w.drewN m) P k b n f := h
omit [DecidableEq κ] in
theorem MapOf.alloc (h : MapOf kv w P k b n f) (o : Obj) : MapOf kv (w.alloc o) P k b n f := h.keep (Below.heap_alloc _ _ _ h.lt)
omit [DecidableEq κ] in
theorem MapOf.setCell (h : MapOf kv w P k b n f) {p : Addr} (hp : b ≠ p.block) (u : Value) : MapOf kv (w.setCell p u) P k b n f := h.keep (Below.heap_setCell _ _ _ _ hp)
omit [DecidableEq κ] in
theorem MapOf.congr (h : MapOf kv w P k b n f) {g : κ → Option Value} (hg : ∀ x, f x = g x) : MapOf kv w P k b n g := by
  have : f = g := funext hg
  rwa [this] at h

omit [DecidableEq κ] in
theorem MapOf.look (h : MapOf kv w P k b n f) (K : KeyT P k kv ok) (ht : P.underlying t = some (.map k e)) {z : Value} (hz : ∀ w, (zeroValue e).run P w = .ok z w) (x : κ) (hx : ok x) :
    (Instr.lookup t (.map (some b)) (kv x) false).run P w = .ok ((f x).getD z) w := by
  obtain ⟨D, ⟨es, clock, hb, F, _, rfl⟩, hf⟩ := h
  obtain ⟨kl, hkey⟩ := K.reads x hx
  have h3 := hf x kl hkey
  rcases Maps.fit_look false K.keyed ht (hz w) hb F hkey with ⟨hrun, _, hat⟩ | ⟨e0, y, _, _, hrun, hRv, hat, _⟩
  · rw [hat] at h3
    cases hfk : f x with
    | none => simpa using hrun
    | some v => rw [hfk] at h3; cases h3
  · rw [hat] at h3
    simp only [heldE, Option.some.injEq] at hRv
    subst hRv
    cases hfk : f x with
    | none => rw [hfk] at h3; cases h3
    | some v => rw [hfk] at h3; simp only [DataW.held.injEq] at h3; subst h3; simpa using hrun

omit [DecidableEq κ] in
theorem MapOf.look_ok (h : MapOf kv w P k b n f) (K : KeyT P k kv ok) (ht : P.underlying t = some (.map k e)) {z : Value} (hz : ∀ w, (zeroValue e).run P w = .ok z w) (x : κ) (hx : ok x) :
    (Instr.lookup t (.map (some b)) (kv x) true).run P w = .ok (.tuple #[(f x).getD z, .bool (f x).isSome]) w := by
  obtain ⟨D, ⟨es, clock, hb, F, _, rfl⟩, hf⟩ := h
  obtain ⟨kl, hkey⟩ := K.reads x hx
  have h3 := hf x kl hkey
  rcases Maps.fit_look true K.keyed ht (hz w) hb F hkey with ⟨hrun, _, hat⟩ | ⟨e0, y, _, _, hrun, hRv, hat, _⟩
  · rw [hat] at h3
    cases hfk : f x with
    | none => simpa using hrun
    | some v => rw [hfk] at h3; cases h3
  · rw [hat] at h3
    simp only [heldE, Option.some.injEq] at hRv
    subst hRv
    cases hfk : f x with
    | none => rw [hfk] at h3; cases h3
    | some v => rw [hfk] at h3; simp only [DataW.held.injEq] at h3; subst h3; simpa using hrun

theorem MapOf.put (h : MapOf kv w P k b n f) (K : KeyT P k kv ok) (ht : P.underlying t = some (.map k e)) (hn : n < maxLen) (x : κ) (hx : ok x) (v : Value) :
    ∃ w', (Instr.mapUpdate t (.map (some b)) (kv x) v).run P w = .ok () w' ∧ MapOf kv w' P k b (n + 1) (upd f x v) ∧ w.grownBy w' (some b) := by
  obtain ⟨D, hown, hf⟩ := h
  obtain ⟨kl, hkey⟩ := K.reads x hx
  obtain ⟨w', hrun, h1, h2⟩ := hown.update K.keyed ht hn hkey (val := v) (d := .held v) (ps := []) rfl
  refine ⟨w', hrun, ⟨_, h1, fun y l hy => ?_⟩, h2⟩
  unfold upd
  by_cases hyx : y = x
  · subst hyx
    rw [hkey] at hy
    cases hy
    rw [if_pos rfl, atKey_put_same hown.isMap (K.keyed.key hkey)]
  · rw [if_neg hyx]
    have hne : l ≠ kl := by
      rintro rfl
      exact hyx (K.inj _ _ (K.keyed.inj hy hkey))
    rw [atKey_put_other hne]
    exact hf y l hy

theorem wpList_put (w : World) {ops : Array Oper} {rest : List Oper} {o : Oper} {a : Act} {Q : Exit → Act → World → Prop}
    (hg : o.guard = none) (m x v : Operand) (t : TypeId) (hop : o.op = Op.mapUpdate t m x v) (K : KeyT P k kv ok) (ht : P.underlying t = some (.map k e))
    (hm : a.eval m = .map (some b)) (h : MapOf kv w P k b n f) (hn : n < maxLen) (y : κ) (hx : a.eval x = kv y) (hy : ok y) (val : Value) (hv : a.eval v = val)
    (hK : ∀ w', MapOf kv w' P k b (n + 1) (upd f y val) → w.grownBy w' (some b) → wpList P ops Q rest (a.put o.dst undef) w') :
    wpList P ops Q (o :: rest) a w := by
  refine wpList_plain hg fun K' hK' => ?_
  obtain ⟨w', hrun, r1, r2⟩ := h.put K ht hn y hy val
  unfold Oper.wp
  simp [execOp, hop, hm, hx, hv, hrun, Result.andThen]
  exact hK' _ _ (hK w' r1 r2)

theorem KeyT.int {P : Program} {k : TypeId} (hk : P.underlying k = some (.int .i64)) : KeyT P k (fun x : Int => Value.int .i64 x) (fun x => (Lit.int .i64 x).wf = true) :=
  ⟨int_keyed hk, fun x hx => ⟨_, keyOf_int_mk hk hx⟩, fun x y h => by injection h⟩

/-- A struct of two ints as a key. -/
def locV (x : Int × Int) : Value := .agg #[.int .i64 x.1, .int .i64 x.2]
theorem keyLits_int {P : Program} {t : TypeId} (ht : P.underlying t = some (.int .i64)) (d : Nat) {a : Int} (h : (Lit.int .i64 a).wf = true) : P.keyLits (d + 1) t [.int .i64 a] = some [.int .i64 a] := by
  simp [Program.keyLits, ht, h]
theorem keyOf_loc {P : Program} {k t : TypeId} {f0 f1 : Field} (hk : P.underlying k = some (.struct #[f0, f1])) (ht : P.underlying t = some (.int .i64)) (h0 : f0.type = t) (h1 : f1.type = t) (o0 : f0.offset = 0) (o1 : f1.offset = 1)
    (hn : ((#[f0, f1] : Array Field).all (·.name != "_")) = true) (hc : P.cellsOf k = 2) (hct : P.cellsOf t = 1) (hkt : P.keyType k = true) (hz : 0 < P.types.size) {a b : Int} (ha : (Lit.int .i64 a).wf = true) (hb : (Lit.int .i64 b).wf = true) :
    keyOf P k (locV (a, b)) = some (.string (keyBytes [.int .i64 a, .int .i64 b])) := by
  obtain ⟨d, hd⟩ : ∃ d, P.types.size = d + 1 := ⟨P.types.size - 1, by omega⟩
  have e1 : P.keyLits (d + 1 + 1) k [.int .i64 a, .int .i64 b] = some [.int .i64 a, .int .i64 b] := by
    unfold Program.keyLits
    rw [hk]
    dsimp only
    rw [if_pos ⟨by simp [hc], hn⟩]
    simp [h0, h1, o0, o1, hct, keyLits_int ht d ha, keyLits_int ht d hb]
  unfold keyOf locV
  rw [hk]
  dsimp only
  rw [if_pos (by simp [hkt, Value.formed, hk, hc]), hd]
  simp only [Value.cells]
  rw [e1]
  rfl
theorem KeyT.loc {P : Program} {k t : TypeId} {f0 f1 : Field} (K : Keyed P k) (hk : P.underlying k = some (.struct #[f0, f1])) (ht : P.underlying t = some (.int .i64)) (h0 : f0.type = t) (h1 : f1.type = t) (o0 : f0.offset = 0) (o1 : f1.offset = 1)
    (hn : ((#[f0, f1] : Array Field).all (·.name != "_")) = true) (hc : P.cellsOf k = 2) (hct : P.cellsOf t = 1) (hkt : P.keyType k = true) (hz : 0 < P.types.size) :
    KeyT P k locV (fun x => (Lit.int .i64 x.1).wf = true ∧ (Lit.int .i64 x.2).wf = true) :=
  ⟨K, fun x hx => ⟨_, keyOf_loc hk ht h0 h1 o0 o1 hn hc hct hkt hz hx.1 hx.2⟩, fun x y h => by
    obtain ⟨a, b⟩ := x
    obtain ⟨c, d⟩ := y
    simp [locV] at h
    simp [h]⟩
theorem wf_i64 {x : Int} (h : I64 x) : (Lit.int .i64 x).wf = true := by
  simp [Lit.wf, IntKind.min, IntKind.max, IntKind.signed, IntKind.bits]; exact ⟨h.1, by have := h.2; omega⟩
end
end Go.Proofs.Ytkdagjlkejefnaa
end
section
set_option linter.unusedSimpArgs false
set_option linter.unusedVariables false
namespace Go.Proofs.Ytkdagjlkejefnaa
open Go.RowKit

theorem ret_bool {a b : Bool} (h : a = b) : Ending.returned (.bool a) = .returned (.bool b) := by rw [h]
theorem ret_int {a b : Int} (h : a = b) : Ending.returned (.int .i64 a) = .returned (.int .i64 b) := by rw [h]

theorem numbered_any (k : Int) (w : World) : Calls Try.prog 65 #[.int .i64 k] w fun e w' => e = .returned (.bool (numberedB k)) ∧ w = w' := by
  go_enter Try.func65, Try.ntmps65
  go_wp2
  all_goals (go_ret; refine ⟨ret_bool ?_, rfl⟩; simp [numberedB]; omega)
theorem isKind_any (k : Int) (w : World) : Calls Try.prog 64 #[.int .i64 k] w fun e w' => e = .returned (.bool (isKindB k)) ∧ w = w' := by
  go_enter Try.func64, Try.ntmps64
  go_wp2
  all_goals (go_ret; refine ⟨ret_bool ?_, rfl⟩; simp [isKindB]; omega)
theorem channel_any (k : Int) (w : World) : Calls Try.prog 44 #[.int .i64 k] w fun e w' => e = .returned (.bool (chanB k)) ∧ w = w' := by
  go_enter Try.func44, Try.ntmps44
  go_wp2_with ((go_at_call 65; refine (numbered_any _ _).mono ?_; rintro e w' ⟨rfl, rfl⟩))
  all_goals (go_ret; refine ⟨ret_bool ?_, rfl⟩; unfold numberedB at *; unfold chanB; simp only [decide_eq_true_eq] at *; rw [Bool.eq_iff_iff]; simp; omega)
theorem memory_any (k : Int) (w : World) : Calls Try.prog 49 #[.int .i64 k] w fun e w' => e = .returned (.bool (memB k)) ∧ w = w' := by
  go_enter Try.func49, Try.ntmps49
  go_wp2
  all_goals (go_ret; refine ⟨ret_bool ?_, rfl⟩; unfold memB; rw [Bool.eq_iff_iff]; simp; try omega)

theorem idx7 (x0 x1 x2 x3 x4 x5 x6 : Value) :
    (∀ w, (Instr.index 92 (.agg #[x0, x1, x2, x3, x4, x5, x6]) (.int .i64 0)).run Try.prog w = .ok x0 w) ∧ (∀ w, (Instr.index 92 (.agg #[x0, x1, x2, x3, x4, x5, x6]) (.int .i64 1)).run Try.prog w = .ok x1 w) ∧
    (∀ w, (Instr.index 92 (.agg #[x0, x1, x2, x3, x4, x5, x6]) (.int .i64 2)).run Try.prog w = .ok x2 w) ∧ (∀ w, (Instr.index 92 (.agg #[x0, x1, x2, x3, x4, x5, x6]) (.int .i64 3)).run Try.prog w = .ok x3 w) ∧
    (∀ w, (Instr.index 92 (.agg #[x0, x1, x2, x3, x4, x5, x6]) (.int .i64 4)).run Try.prog w = .ok x4 w) ∧ (∀ w, (Instr.index 92 (.agg #[x0, x1, x2, x3, x4, x5, x6]) (.int .i64 5)).run Try.prog w = .ok x5 w) ∧
    (∀ w, (Instr.index 92 (.agg #[x0, x1, x2, x3, x4, x5, x6]) (.int .i64 6)).run Try.prog w = .ok x6 w) :=
  ⟨fun _ => by kernel_rfl, fun _ => by kernel_rfl, fun _ => by kernel_rfl, fun _ => by kernel_rfl, fun _ => by kernel_rfl, fun _ => by kernel_rfl, fun _ => by kernel_rfl⟩

set_option maxHeartbeats 4000000 in
set_option maxRecDepth 100000 in
theorem evalid_any (e : Ev) (w : World) : Calls Try.prog 42 #[e.val] w fun r w' => r = .returned (.bool e.valid) ∧ Below w.heap.size w w' := by
  obtain ⟨g, kind, obj, off, k, n, fn, pc, stack⟩ := e
  unfold Ev.val
  obtain ⟨i0, i1, i2, i3, i4, i5, i6⟩ := idx7 (.int .i64 obj) (.int .i64 off) (.int .i64 k) (.int .i64 n) (.int .i64 fn) (.int .i64 pc) (.int .i64 stack)
  go_enter Try.func42, Try.ntmps42
  go_wp2_with (first | (go_at_call 64; refine (isKind_any _ _).mono ?_; rintro e w' ⟨rfl, rfl⟩))
  all_goals try (refine wp_loop_rounds 8 ?_)
  all_goals try (repeat any_goals (rw [rounds_succ]; go_wp2_with (first | (go_at_call 65; refine (numbered_any _ _).mono ?_; rintro e w' ⟨rfl, rfl⟩) | (go_at_call 44; refine (channel_any _ _).mono ?_; rintro e w' ⟨rfl, rfl⟩))))
  all_goals (go_ret; refine ⟨ret_bool ?_, (Below.refl _ _).alloc (Nat.le_refl _) _⟩)
  all_goals (simp only [isKindB, chanB, numberedB, decide_eq_true_eq, beq_iff_eq, beq_eq_false_iff_ne, ne_eq, decide_eq_false_iff_not] at *)
  all_goals (unfold Ev.valid Ev.rest; rw [Bool.eq_iff_iff]; simp only [isKindB, rangeB, Bool.and_eq_true, decide_eq_true_eq, Bool.ite_eq_true_distrib, Bool.false_eq_true, false_iff, true_iff, beq_iff_eq, Bool.or_eq_true])
  all_goals clear i0 i1 i2 i3 i4 i5 i6
  all_goals go_light
  all_goals first | omega | (split <;> omega) | (split <;> first | omega | (split <;> omega)) | (split <;> first | omega | (split <;> first | omega | (split <;> omega)))
end Go.Proofs.Ytkdagjlkejefnaa
end
section
set_option linter.unusedSimpArgs false
set_option linter.unusedVariables false
namespace Go.Proofs.Ytkdagjlkejefnaa
open Go.RowKit

def Ch.val (c : Ch) : Value := .agg #[.int .i64 c.cap, .int .i64 c.sent, .int .i64 c.recv, .bool c.closed]
def Mu.val (m : Mu) : Value := .agg #[.bool m.locked, .int .i64 m.readers]
def iK (x : Int) : Value := .int .i64 x
def chanMap (f : Int → Option Ch) (x : Int) : Option Value := (f x).map Ch.val
def muMap (f : Int × Int → Option Mu) (x : Int × Int) : Option Value := (f x).map Mu.val
def doneMap (f : Int × Int → Option Bool) (x : Int × Int) : Option Value := (f x).map Value.bool

theorem chanMap_upd (f : Int → Option Ch) (x : Int) (c : Ch) : upd (chanMap f) x c.val = chanMap (upd f x c) := by
  funext y; unfold upd chanMap; by_cases h : y = x <;> simp [h]
theorem muMap_upd (f : Int × Int → Option Mu) (x : Int × Int) (c : Mu) : upd (muMap f) x c.val = muMap (upd f x c) := by
  funext y; unfold upd muMap; by_cases h : y = x <;> simp [h]
theorem doneMap_upd (f : Int × Int → Option Bool) (x : Int × Int) (c : Bool) : upd (doneMap f) x (.bool c) = doneMap (upd f x c) := by
  funext y; unfold upd doneMap; by_cases h : y = x <;> simp [h]

theorem zeroCh (w : World) : (zeroValue 71).run Try.prog w = .ok ch0.val w := by kernel_rfl
theorem zeroMu (w : World) : (zeroValue 74).run Try.prog w = .ok mu0.val w := by kernel_rfl
theorem zeroB (w : World) : (zeroValue 4).run Try.prog w = .ok (.bool false) w := by kernel_rfl
theorem keyI : KeyT Try.prog 3 iK (fun x => (Lit.int .i64 x).wf = true) := KeyT.int Try.underlying3
theorem laidOut : laidOutB Try.prog = true := by kernel_rfl
theorem keyedL : Maps.Keyed Try.prog 48 := Maps.Keyed.of_law (deep_law_gate laidOut (of_decide_eq_true (by kernel_rfl)) (of_decide_eq_true (by kernel_rfl)) (by kernel_rfl) (by kernel_rfl))
theorem keyL : KeyT Try.prog 48 locV (fun x => (Lit.int .i64 x.1).wf = true ∧ (Lit.int .i64 x.2).wf = true) :=
  KeyT.loc keyedL Try.underlying48 Try.underlying3 rfl rfl rfl rfl (by kernel_rfl) (by kernel_rfl) (by kernel_rfl) (by kernel_rfl) (of_decide_eq_true (by kernel_rfl))

/-- the slice v of ints reads as xs, outside of block sb -/
def KindsAt (w : World) (v : Value) (xs : List Int) (sb : Nat) : Prop :=
  ∃ A c, v = .slice A xs.length c ∧ xs.length ≤ c ∧ (0 < xs.length → ∃ b o, A = some ⟨b, o, none⟩ ∧ b ≠ sb ∧ ∀ i x, xs[i]? = some x → w.cell? ⟨b, o + i, none⟩ = some (.int .i64 x))

def TCells (s : TS) (bc bm bd : Nat) (kv : Value) : Array Value :=
  #[.int .i64 s.events, .int .i64 s.gor, .map (some bc), .map (some bm), .map (some bd), kv, .int .i64 s.grp.obj, .int .i64 s.grp.k, .int .i64 s.grp.n, .int .i64 s.grp.snd, .int .i64 s.grp.rcv]
/-- the state s lies in block sb, its maps in bc, bm, bd -/
structure TRep (w : World) (sb bc bm bd N : Nat) (s : TS) (kv : Value) : Prop where
  row : w.heap[sb]? = some (.cells (TCells s bc bm bd kv) 66 (0, 0))
  kinds : KindsAt w kv s.grp.kinds sb
  chans : MapOf iK w Try.prog 3 bc N (chanMap s.chans)
  mus : MapOf locV w Try.prog 48 bm N (muMap s.mus)
  done : MapOf locV w Try.prog 48 bd N (doneMap s.done)
  ncm : bc ≠ bm
  ncd : bc ≠ bd
  nmd : bm ≠ bd

theorem MapOf.ne_cells {κ : Type} {kv : κ → Value} {w : World} {P : Program} {k b n : Nat} {f : κ → Option Value} (h : MapOf kv w P k b n f) {g : Nat} {cs : Array Value} {t : TypeId} {fr : Nat × Nat} (hg : w.heap[g]? = some (.cells cs t fr)) : b ≠ g := by
  rintro rfl
  obtain ⟨_, ⟨es, cl, h1, _⟩, _⟩ := h
  rw [hg] at h1
  cases h1

theorem KindsAt.keep {w w' : World} {v : Value} {xs : List Int} {sb : Nat} (h : KindsAt w v xs sb) {L : List Nat} (hb : But L w w') (hL : ∀ b cs t fr, w.heap[b]? = some (.cells cs t fr) → b ≠ sb → b ∉ L) : KindsAt w' v xs sb := by
  obtain ⟨A, c, h1, h2, h3⟩ := h
  refine ⟨A, c, h1, h2, fun hn => ?_⟩
  obtain ⟨b, o, hA, hne, hc⟩ := h3 hn
  refine ⟨b, o, hA, hne, fun i x hx => ?_⟩
  have h4 := hc i x hx
  have hlt := block_lt_of_cell h4
  have hblk : ∃ cs t fr, w.heap[b]? = some (.cells cs t fr) := by
    unfold World.cell? at h4
    dsimp only at h4
    split at h4
    · rename_i cs t fr hh; exact ⟨cs, t, fr, hh⟩
    · cases h4
  obtain ⟨cs, t, fr, hh⟩ := hblk
  exact (World.cell?_of_block (w := w) (a := ⟨b, o + i, none⟩) (hb.block b hlt (hL b cs t fr hh hne))).trans h4

section
variable {w w' : World} {sb bc bm bd N : Nat} {s : TS} {kv : Value}
theorem TRep.cell (h : TRep w sb bc bm bd N s kv) (j : Nat) : w.cell? ⟨sb, j, none⟩ = (TCells s bc bm bd kv)[j]? := cell_of_row w sb j _ _ _ h.row
theorem TRep.frozen (h : TRep w sb bc bm bd N s kv) (j : Nat) : w.frozen? ⟨sb, j, none⟩ = false := frozen_of_row w sb j _ _ h.row
theorem TRep.lt (h : TRep w sb bc bm bd N s kv) : sb < w.heap.size := by
  rcases Nat.lt_or_ge sb w.heap.size with hlt | hge
  · exact hlt
  · have := h.row; rw [Array.getElem?_eq_none hge] at this; cases this
/-- nothing of the state is touched -/
theorem TRep.but (h : TRep w sb bc bm bd N s kv) {L : List Nat} (hb : But L w w') (h0 : sb ∉ L) (h1 : bc ∉ L) (h2 : bm ∉ L) (h3 : bd ∉ L) (hL : ∀ b cs t fr, w.heap[b]? = some (.cells cs t fr) → b ≠ sb → b ∉ L) : TRep w' sb bc bm bd N s kv :=
  ⟨(hb.block sb h.lt h0).trans h.row, h.kinds.keep hb hL, h.chans.but hb h1, h.mus.but hb h2, h.done.but hb h3, h.ncm, h.ncd, h.nmd⟩
theorem TRep.below (h : TRep w sb bc bm bd N s kv) (hb : Below w.heap.size w w') : TRep w' sb bc bm bd N s kv :=
  h.but (L := []) ⟨hb.os, hb.tape, hb.output, hb.size, fun k hk _ => hb.block k hk⟩ (by simp) (by simp) (by simp) (by simp) (fun _ _ _ _ _ _ => by simp)
theorem TRep.mono (h : TRep w sb bc bm bd N s kv) {N' : Nat} (hn : N ≤ N') : TRep w sb bc bm bd N' s kv :=
  ⟨h.row, h.kinds, h.chans.mono hn, h.mus.mono hn, h.done.mono hn, h.ncm, h.ncd, h.nmd⟩
/-- only the map of the channels is turned -/
theorem TRep.new_chans (h : TRep w sb bc bm bd N s kv) (hb : But [bc] w w') {N' : Nat} {f : Int → Option Ch} {M : Nat} (hm : MapOf iK w' Try.prog 3 bc M (chanMap f)) (hM : M ≤ N') (hN : N ≤ N') : TRep w' sb bc bm bd N' { s with chans := f } kv :=
  ⟨(hb.block sb h.lt (by simpa using Ne.symm (h.chans.ne_cells h.row))).trans h.row, h.kinds.keep hb (fun b cs t fr hc _ hm => by
      simp only [List.mem_singleton] at hm; subst hm; exact absurd rfl (h.chans.ne_cells hc)), hm.mono hM, (h.mus.but hb (by simpa using Ne.symm h.ncm)).mono hN, (h.done.but hb (by simpa using Ne.symm h.ncd)).mono hN, h.ncm, h.ncd, h.nmd⟩
/-- only the map of the mutexes is turned -/
theorem TRep.new_mus (h : TRep w sb bc bm bd N s kv) (hb : But [bm] w w') {N' : Nat} {f : Int × Int → Option Mu} {M : Nat} (hm : MapOf locV w' Try.prog 48 bm M (muMap f)) (hM : M ≤ N') (hN : N ≤ N') : TRep w' sb bc bm bd N' { s with mus := f } kv :=
  ⟨(hb.block sb h.lt (by simpa using Ne.symm (h.mus.ne_cells h.row))).trans h.row, h.kinds.keep hb (fun b cs t fr hc _ hm => by
      simp only [List.mem_singleton] at hm; subst hm; exact absurd rfl (h.mus.ne_cells hc)), (h.chans.but hb (by simpa using h.ncm)).mono hN, hm.mono hM, (h.done.but hb (by simpa using Ne.symm h.nmd)).mono hN, h.ncm, h.ncd, h.nmd⟩
/-- only the map of what is done is turned -/
theorem TRep.new_done (h : TRep w sb bc bm bd N s kv) (hb : But [bd] w w') {N' : Nat} {f : Int × Int → Option Bool} {M : Nat} (hm : MapOf locV w' Try.prog 48 bd M (doneMap f)) (hM : M ≤ N') (hN : N ≤ N') : TRep w' sb bc bm bd N' { s with done := f } kv :=
  ⟨(hb.block sb h.lt (by simpa using Ne.symm (h.done.ne_cells h.row))).trans h.row, h.kinds.keep hb (fun b cs t fr hc _ hm => by
      simp only [List.mem_singleton] at hm; subst hm; exact absurd rfl (h.done.ne_cells hc)), (h.chans.but hb (by simpa using h.ncd)).mono hN, (h.mus.but hb (by simpa using h.nmd)).mono hN, hm.mono hM, h.ncm, h.ncd, h.nmd⟩
/-- the two counters, in the first two cells -/
theorem TRep.new_row (h : TRep w sb bc bm bd N s kv) (hb : But [sb] w w') {ev gor : Int} (hr : w'.heap[sb]? = some (.cells (TCells { s with events := ev, gor := gor } bc bm bd kv) 66 (0, 0))) {N' : Nat} (hN : N ≤ N') : TRep w' sb bc bm bd N' { s with events := ev, gor := gor } kv :=
  ⟨hr, h.kinds.keep hb (fun b cs t fr hc hne hm => hne (by simpa using hm)), (h.chans.but hb (by simpa using h.chans.ne_cells h.row)).mono hN, (h.mus.but hb (by simpa using h.mus.ne_cells h.row)).mono hN, (h.done.but hb (by simpa using h.done.ne_cells h.row)).mono hN, h.ncm, h.ncd, h.nmd⟩
end

theorem sends_any (k : Int) (w : World) : Calls Try.prog 66 #[.int .i64 k] w fun e w' => e = .returned (.bool (sendsB k)) ∧ w = w' := by
  go_enter Try.func66, Try.ntmps66
  go_wp2
  all_goals (go_ret; refine ⟨ret_bool ?_, rfl⟩; unfold sendsB; rw [Bool.eq_iff_iff]; simp; try omega)

theorem open_any {sb bc bm bd N : Nat} {s : TS} {kv : Value} (w : World) (h : TRep w sb bc bm bd N s kv) : Calls Try.prog 23 #[.pointer (some ⟨sb, 0, none⟩)] w fun e w' => e = .returned (.bool s.isOpen) ∧ w = w' := by
  obtain ⟨A, c, hkv, hlc, _⟩ := h.kinds
  have c5 : w.cell? ⟨sb, 5, none⟩ = some (.slice A s.grp.kinds.length c) := by rw [h.cell 5, ← hkv]; rfl
  clear h hkv hlc
  go_enter Try.func23, Try.ntmps23
  go_wp2
  go_ret
  refine ⟨ret_bool ?_, rfl⟩
  unfold TS.isOpen
  simp

set_option maxRecDepth 100000 in
set_option maxHeartbeats 1000000 in
theorem count_any (sb bc n : Nat) (f : Int → Option Ch) (e : Ev) (w : World) (hc : w.cell? ⟨sb, 2, none⟩ = some (.map (some bc)))
    (hm : MapOf iK w Try.prog 3 bc n (chanMap f)) (hn : n < maxLen) (hobj : I64 e.obj) (hb : ∀ c, (f e.obj).getD ch0 = c → (0 ≤ c.sent ∧ c.sent ≤ 5000) ∧ (0 ≤ c.recv ∧ c.recv ≤ 5000)) :
    Calls Try.prog 67 #[.pointer (some ⟨sb, 0, none⟩), e.val] w fun r w' => r = .returned (.tuple #[]) ∧ MapOf iK w' Try.prog 3 bc (n + 1) (chanMap (upd f e.obj (((f e.obj).getD ch0).count e.kind))) ∧ But [bc] w w' := by
  have hb0 := hb _ rfl
  clear hb
  obtain ⟨c, hcc⟩ : ∃ c, (f e.obj).getD ch0 = c := ⟨_, rfl⟩
  rw [hcc] at hb0 ⊢
  obtain ⟨⟨hs, hs2⟩, hr, hr2⟩ := hb0
  have hval : (chanMap f e.obj).getD ch0.val = c.val := by
    rw [← hcc]; unfold chanMap; cases f e.obj <;> rfl
  obtain ⟨g, kind, obj, off, k, en, fn, pc, stack⟩ := e
  dsimp only at hcc hobj hval ⊢
  -- what is counted, under names of its own
  obtain ⟨c', hc'⟩ : ∃ c', c.count kind = c' := ⟨_, rfl⟩
  rw [hc']
  obtain ⟨cap, sent, recv, closed⟩ := c
  obtain ⟨cap', sent', recv', closed'⟩ := c'
  dsimp only at hs hs2 hr hr2
  unfold Ev.val
  have hl : ∀ o : Obj, (Instr.lookup 60 (.map (some bc)) (.int .i64 obj) false).run Try.prog ((w.alloc o).drew) = .ok (.agg #[.int .i64 cap, .int .i64 sent, .int .i64 recv, .bool closed]) ((w.alloc o).drew) := fun o => by
    have h1 : MapOf iK (w.alloc o).drew Try.prog 3 bc n (chanMap f) := hm.alloc o
    have h2 := h1.look keyI Try.underlying60 zeroCh obj (wf_i64 hobj)
    rw [hval] at h2; exact h2
  have hl2 : ∀ o o2 : Obj, (Instr.lookup 60 (.map (some bc)) (.int .i64 obj) false).run Try.prog (((w.alloc o).alloc o2).drew) = .ok (.agg #[.int .i64 cap, .int .i64 sent, .int .i64 recv, .bool closed]) (((w.alloc o).alloc o2).drew) := fun o o2 => by
    have h1 : MapOf iK ((w.alloc o).alloc o2).drew Try.prog 3 bc n (chanMap f) := (hm.alloc o).alloc o2
    have h2 := h1.look keyI Try.underlying60 zeroCh obj (wf_i64 hobj)
    rw [hval] at h2; exact h2
  have hlt := block_lt_of_cell hc
  dsimp only at hlt
  have HM := Lib.hid hm; clear hm
  have HCC := Lib.hid hcc; clear hcc
  have HV := Lib.hid hval; clear hval
  have HC := Lib.hid hc'; clear hc'
  go_enter Try.func67, Try.ntmps67
  go_wp2
  go_region
  go_upto_block 0 with fail
  go_cut [] (fun wx => MapOf iK wx Try.prog 3 bc n (chanMap f) ∧ But [bc] w wx ∧ wx.cell? ⟨sb, 2, none⟩ = some (.map (some bc)) ∧ wx.cell? ⟨w.heap.size, 2, none⟩ = some (.int .i64 obj) ∧
    wx.cell? ⟨w.heap.size + 1, 0, none⟩ = some (.int .i64 cap') ∧ wx.cell? ⟨w.heap.size + 1, 1, none⟩ = some (.int .i64 sent') ∧ wx.cell? ⟨w.heap.size + 1, 2, none⟩ = some (.int .i64 recv') ∧ wx.cell? ⟨w.heap.size + 1, 3, none⟩ = some (.bool closed'))
  case first =>
    go_wp2
    all_goals go_meet
    all_goals (case' rel => refine ⟨(HM.out.alloc _).alloc _, (((But.refl _ _).alloc _).alloc _).drew, ?_⟩)
    all_goals (have hc' := HC.out; unfold Ch.count at hc')
    all_goals go_light
    all_goals clear hl hl2
    all_goals simp_all [go_sem]
  case rest =>
    obtain ⟨hm1, hbut, hc2, hobj2, h0, h1, h2, h3⟩ := hcut
    obtain ⟨w1, hput, hm2, hg⟩ := (show MapOf iK wc.drew Try.prog 3 bc n (chanMap f) from hm1).put keyI Try.underlying60 hn obj (wf_i64 hobj) (.agg #[.int .i64 cap', .int .i64 sent', .int .i64 recv', .bool closed'])
    unfold iK at hput
    have hfin : MapOf iK w1 Try.prog 3 bc (n + 1) (chanMap (upd f obj ⟨cap', sent', recv', closed'⟩)) ∧ But [bc] w w1 := by
      refine ⟨?_, ?_⟩
      · rw [← chanMap_upd]; exact hm2
      · exact (hbut.drewN 0).drew.grown hg (.inl (by simp))
    have HF := Lib.hid hfin; clear hfin hm1 hm2 hg hbut
    go_wp2
    go_region
    go_end0
    exact ⟨rfl, HF.out⟩
end Go.Proofs.Ytkdagjlkejefnaa
end
section
set_option linter.unusedSimpArgs false
set_option linter.unusedVariables false
namespace Go.Proofs.Ytkdagjlkejefnaa
open Go.RowKit

set_option maxRecDepth 100000 in
set_option maxHeartbeats 4000000 in
theorem operate_any {sb bc bm bd N : Nat} {s : TS} {kv : Value} (w : World) (h : TRep w sb bc bm bd N s kv) (hs : s.wf) (hN : N + 2 < maxLen) (e : Ev) (hv : e.valid = true) (hk : chanB e.kind = true) :
    Calls Try.prog 45 #[.pointer (some ⟨sb, 0, none⟩), e.val] w fun r w' => r = .returned (.bool (s.operate e).isSome) ∧ (∃ kv', TRep w' sb bc bm bd (N + 2) ((s.operate e).getD s) kv') ∧ But [sb, bc] w w' := by
  have hbd := TS.chan_bd hs hv hk
  have hvo := Ev.valid_obj hv
  have hiobj : I64 e.obj := ⟨by omega, by omega⟩
  have hval : ((chanMap s.chans e.obj).getD ch0.val) = ((s.chans e.obj).getD ch0).val := by unfold chanMap; cases s.chans e.obj <;> rfl
  have hsome : (chanMap s.chans e.obj).isSome = (s.chans e.obj).isSome := by unfold chanMap; cases s.chans e.obj <;> rfl
  obtain ⟨cr, hcr⟩ : ∃ c, (s.chans e.obj).getD ch0 = c := ⟨_, rfl⟩
  obtain ⟨kn, hkn⟩ : ∃ b, (s.chans e.obj).isSome = b := ⟨_, rfl⟩
  rw [hcr] at hval
  rw [hkn] at hsome
  obtain ⟨c, hc⟩ : ∃ c, s.chan e = c := ⟨_, rfl⟩
  have hck : c = if kn = true then cr else { cr with cap := e.n } := by
    rw [← hc, ← hkn, ← hcr]; unfold TS.chan; cases s.chans e.obj <;> rfl
  rw [hc] at hbd
  obtain ⟨⟨hs1, hs2⟩, ⟨hr1, hr2⟩, hc1, hc2⟩ := hbd
  have hev := hs.ev
  have hs3 : c.sent ≤ 5000 := by omega
  have hr3 : c.recv ≤ 5000 := by omega
  have c1 : w.cell? ⟨sb, 1, none⟩ = some (.int .i64 s.gor) := h.cell 1
  have c2 : w.cell? ⟨sb, 2, none⟩ = some (.map (some bc)) := h.cell 2
  have hlt := h.lt
  have hm := h.chans
  have HH := Lib.hid h; clear h
  have HS := Lib.hid hs; clear hs
  have HCc := Lib.hid hc; clear hc
  have HCR := Lib.hid hcr; clear hcr
  have HKN := Lib.hid hkn; clear hkn
  obtain ⟨g, kind, obj, off, k, en, fn, pc, stack⟩ := e
  obtain ⟨rcap, rsent, rrecv, rclosed⟩ := cr
  obtain ⟨cap, sent, recv, closed⟩ := c
  dsimp only at *
  have hl : ∀ o : Obj, (Instr.lookup 60 (.map (some bc)) (.int .i64 obj) true).run Try.prog ((w.alloc o).drew) = .ok (.tuple #[.agg #[.int .i64 rcap, .int .i64 rsent, .int .i64 rrecv, .bool rclosed], .bool kn]) ((w.alloc o).drew) := fun o => by
    have h1 : MapOf iK (w.alloc o).drew Try.prog 3 bc N (chanMap s.chans) := hm.alloc o
    have h2 := h1.look_ok keyI Try.underlying60 zeroCh obj (wf_i64 hiobj)
    rw [hval, hsome] at h2; exact h2
  have hl2 : ∀ o o2 : Obj, (Instr.lookup 60 (.map (some bc)) (.int .i64 obj) true).run Try.prog (((w.alloc o).alloc o2).drew) = .ok (.tuple #[.agg #[.int .i64 rcap, .int .i64 rsent, .int .i64 rrecv, .bool rclosed], .bool kn]) (((w.alloc o).alloc o2).drew) := fun o o2 => by
    have h1 : MapOf iK ((w.alloc o).alloc o2).drew Try.prog 3 bc N (chanMap s.chans) := (hm.alloc o).alloc o2
    have h2 := h1.look_ok keyI Try.underlying60 zeroCh obj (wf_i64 hiobj)
    rw [hval, hsome] at h2; exact h2
  have HM := Lib.hid hm; clear hm
  have HV := Lib.hid hval; clear hval
  have HSo := Lib.hid hsome; clear hsome
  have HCK := Lib.hid hck; clear hck
  unfold Ev.val
  go_enter Try.func45, Try.ntmps45
  go_wp2
  go_region
  go_upto_if 20 with fail
  go_cut [] (fun wx => Below w.heap.size w wx ∧ w.heap.size + 1 < wx.heap.size ∧
    wx.cell? ⟨w.heap.size, 0, none⟩ = some (.int .i64 g) ∧ wx.cell? ⟨w.heap.size, 1, none⟩ = some (.int .i64 kind) ∧ wx.cell? ⟨w.heap.size, 2, none⟩ = some (.int .i64 obj) ∧ wx.cell? ⟨w.heap.size, 3, none⟩ = some (.int .i64 off) ∧
    wx.cell? ⟨w.heap.size, 4, none⟩ = some (.int .i64 k) ∧ wx.cell? ⟨w.heap.size, 5, none⟩ = some (.int .i64 en) ∧ wx.cell? ⟨w.heap.size, 6, none⟩ = some (.int .i64 fn) ∧ wx.cell? ⟨w.heap.size, 7, none⟩ = some (.int .i64 pc) ∧ wx.cell? ⟨w.heap.size, 8, none⟩ = some (.int .i64 stack) ∧
    wx.heap[w.heap.size + 1]? = some (.cells #[.int .i64 cap, .int .i64 sent, .int .i64 recv, .bool closed] 71 (0, 0)))
  case first =>
    go_wp2
    all_goals go_meet
    all_goals (case' rel => refine ⟨(((Below.refl _ _).alloc (Nat.le_refl _) _).alloc (by simp) _).drew, by simp, ?_⟩)
    all_goals (have hck := HCK.out; simp_all only [Bool.not_eq_true', Bool.not_eq_false', if_true, if_false, Bool.false_eq_true, Ch.mk.injEq])
    all_goals (obtain ⟨rfl, rfl, rfl, rfl⟩ := hck)
    all_goals (refine ⟨?_, ?_, ?_, ?_, ?_, ?_, ?_, ?_, ?_, heap_alloc2_new w _ _⟩ <;> simp [go_sem])
  case rest =>
    obtain ⟨wa, rfl⟩ : ∃ wa : World, wa = wc := ⟨_, rfl⟩
    obtain ⟨hb0, hz, e0, e1, e2, e3, e4, e5, e6, e7, e8, hrow⟩ := hcut
    have k0 : wa.cell? ⟨w.heap.size + 1, 0, none⟩ = some (.int .i64 cap) := cell_of_row wa _ 0 _ _ _ hrow
    have k1 : wa.cell? ⟨w.heap.size + 1, 1, none⟩ = some (.int .i64 sent) := cell_of_row wa _ 1 _ _ _ hrow
    have k2 : wa.cell? ⟨w.heap.size + 1, 2, none⟩ = some (.int .i64 recv) := cell_of_row wa _ 2 _ _ _ hrow
    have k3 : wa.cell? ⟨w.heap.size + 1, 3, none⟩ = some (.bool closed) := cell_of_row wa _ 3 _ _ _ hrow
    have kf : wa.frozen? ⟨w.heap.size + 1, 3, none⟩ = false := frozen_of_row wa _ 3 _ _ hrow
    have d1 : wa.cell? ⟨sb, 1, none⟩ = some (.int .i64 s.gor) := (hb0.cell (p := ⟨sb, 1, none⟩) hlt).trans c1
    have d2 : wa.cell? ⟨sb, 2, none⟩ = some (.map (some bc)) := (hb0.cell (p := ⟨sb, 2, none⟩) hlt).trans c2
    have hlt2 : sb < wa.heap.size := by omega
    have hlt3 : w.heap.size < wa.heap.size := by omega
    clear hl hl2 c1 c2
    have HB0 := Lib.hid hb0; clear hb0
    have HROW := Lib.hid hrow; clear hrow
    have hno : ∀ w' : World, s.operate ⟨g, kind, obj, off, k, en, fn, pc, stack⟩ = none → Below w.heap.size w w' → Ending.returned (.bool false) = .returned (.bool (s.operate ⟨g, kind, obj, off, k, en, fn, pc, stack⟩).isSome) ∧ (∃ kv', TRep w' sb bc bm bd (N + 2) ((s.operate ⟨g, kind, obj, off, k, en, fn, pc, stack⟩).getD s) kv') ∧ But [sb, bc] w w' := fun w' ho hb => by
      rw [ho]; exact ⟨rfl, ⟨kv, (HH.out.below hb).mono (by omega)⟩, (But.refl _ _).below hb⟩
    have HNO := Lib.hid hno; clear hno
    go_upto_block 0 with fail
    · rename_i hne
      go_ret
      exact HNO.out _ (TS.op_nA HCc.out hne) HB0.out
    · go_cut [] (fun wx => ∃ (l : List Int) (snd rcv : Int) (gb : Nat), s.operate ⟨g, kind, obj, off, k, en, fn, pc, stack⟩ = some (s.start ⟨g, kind, obj, off, k, en, fn, pc, stack⟩ ⟨cap, sent, recv, closed⟩ l snd rcv) ∧ Below w.heap.size w wx ∧ w.heap.size + 1 < wx.heap.size ∧ wa.heap.size < wx.heap.size ∧ w.heap.size < gb ∧ gb ≠ sb ∧
        wx.cell? ⟨w.heap.size, 0, none⟩ = some (.int .i64 g) ∧ wx.cell? ⟨w.heap.size, 1, none⟩ = some (.int .i64 kind) ∧ wx.cell? ⟨w.heap.size, 2, none⟩ = some (.int .i64 obj) ∧ wx.cell? ⟨w.heap.size, 3, none⟩ = some (.int .i64 off) ∧
        wx.cell? ⟨w.heap.size, 4, none⟩ = some (.int .i64 k) ∧ wx.cell? ⟨w.heap.size, 5, none⟩ = some (.int .i64 en) ∧ wx.cell? ⟨w.heap.size, 6, none⟩ = some (.int .i64 fn) ∧ wx.cell? ⟨w.heap.size, 7, none⟩ = some (.int .i64 pc) ∧ wx.cell? ⟨w.heap.size, 8, none⟩ = some (.int .i64 stack) ∧
        wx.cell? ⟨w.heap.size + 1, 0, none⟩ = some (.int .i64 cap) ∧ wx.cell? ⟨w.heap.size + 1, 1, none⟩ = some (.int .i64 sent) ∧ wx.cell? ⟨w.heap.size + 1, 2, none⟩ = some (.int .i64 recv) ∧ wx.cell? ⟨w.heap.size + 1, 3, none⟩ = some (.bool closed) ∧
        wx.cell? ⟨wa.heap.size, 0, none⟩ = some (.slice (some ⟨gb, 0, none⟩) l.length l.length) ∧ wx.cell? ⟨wa.heap.size, 1, none⟩ = some (.int .i64 obj) ∧ wx.cell? ⟨wa.heap.size, 2, none⟩ = some (.int .i64 k) ∧ wx.cell? ⟨wa.heap.size, 3, none⟩ = some (.int .i64 en) ∧
        wx.cell? ⟨wa.heap.size, 4, none⟩ = some (.int .i64 snd) ∧ wx.cell? ⟨wa.heap.size, 5, none⟩ = some (.int .i64 rcv) ∧ (∀ i x, l[i]? = some x → wx.cell? ⟨gb, i, none⟩ = some (.int .i64 x)))
      case first =>
        go_wp2_with fail
        all_goals (have hcc := HCc.out)
        all_goals first
          | (go_meet; first
            | refine ⟨[16], g, -1, wa.heap.size + 1, TS.op_s15a hcc ‹_› ‹_› ‹_› ‹_› ‹_›, ?_⟩
            | refine ⟨[17, 18, 16], g, -1, wa.heap.size + 1, TS.op_s15b hcc ‹_› ‹_› ‹_› ‹_› ‹_› ‹_› ‹_›, ?_⟩
            | refine ⟨[18], -1, g, wa.heap.size + 1, TS.op_s17a hcc ‹_› ‹_› ‹_› ‹_›, ?_⟩
            | refine ⟨[15, 18, 16], -1, g, wa.heap.size + 1, TS.op_s17b hcc ‹_› ‹_› ‹_› ‹_› ‹_› ‹_›, ?_⟩)
          | (go_ret; refine HNO.out _ ?_ (HB0.out.alloc (by omega) _); first | exact TS.op_nB hcc ‹_› ‹_› | exact TS.op_n20 hcc ‹_› ‹_› | exact TS.op_nD hcc ‹_› ‹_› | exact TS.op_nE hcc ‹_› ‹_› | exact TS.op_nF hcc ‹_› ‹_› ‹_› | exact TS.op_nG hcc ‹_› ‹_› ‹_› | exact TS.op_nH hcc ‹_› ‹_› | exact TS.op_nI hcc ‹_› ‹_› ‹_› | exact TS.op_nJ hcc ‹_› ‹_› ‹_› | exact TS.op_nK hcc ‹_› ‹_› ‹_› ‹_›)
          | skip
        · -- close
          have hmw : MapOf iK wa Try.prog 3 bc N (chanMap s.chans) := HM.out.keep (HB0.out.block bc HM.out.lt)
          have hbl := HM.out.lt
          generalize hW : World.alloc (World.setCell _ _ _) _ = W
          have f1 : W.cell? ⟨sb, 2, none⟩ = some (.map (some bc)) := by rw [← hW]; clear hW; simp [go_sem, *]
          have f2 : W.cell? ⟨w.heap.size, 2, none⟩ = some (.int .i64 obj) := by rw [← hW]; clear hW; simp [go_sem, *]
          have f3 : W.cell? ⟨w.heap.size + 1, 0, none⟩ = some (.int .i64 cap) := by rw [← hW]; clear hW; simp [go_sem, *]
          have f4 : W.cell? ⟨w.heap.size + 1, 1, none⟩ = some (.int .i64 sent) := by rw [← hW]; clear hW; simp [go_sem, *]
          have f5 : W.cell? ⟨w.heap.size + 1, 2, none⟩ = some (.int .i64 recv) := by rw [← hW]; clear hW; simp [go_sem, *]
          have f6 : W.cell? ⟨w.heap.size + 1, 3, none⟩ = some (.bool true) := by rw [← hW]; clear hW; simp [go_sem, *]
          have hmW : MapOf iK W Try.prog 3 bc N (chanMap s.chans) := by rw [← hW]; exact (hmw.setCell (by simp; omega) _).alloc _
          have hBW : Below w.heap.size w W := by rw [← hW]; exact (HB0.out.setCell (by simp) _).alloc (by simp; omega) _
          obtain ⟨w1, hput, hm2, hg⟩ := (show MapOf iK W.drew Try.prog 3 bc N (chanMap s.chans) from hmW).put keyI Try.underlying60 (by omega) obj (wf_i64 hiobj) (.agg #[.int .i64 cap, .int .i64 sent, .int .i64 recv, .bool true])
          unfold iK at hput
          have hfin : TRep w1 sb bc bm bd (N + 2) { s with chans := upd s.chans obj ⟨cap, sent, recv, true⟩ } kv ∧ But [sb, bc] w w1 := by
            have hbt : But [bc] w w1 := ((But.refl _ _).below hBW).drew.grown hg (.inl (by simp))
            exact ⟨HH.out.new_chans hbt (by rw [← chanMap_upd]; exact hm2) (by omega) (by omega), hbt.mono (by simp)⟩
          have HF := Lib.hid hfin; clear hfin hm2 hg hBW hmW hmw hW HNO
          have hop := TS.op_s19 hcc ‹_› ‹_› ‹_›
          have HOP := Lib.hid hop; clear hop hcc
          go_region
          go_wp2
          go_ret
          rw [HOP.out]
          exact ⟨rfl, ⟨_, HF.out.1⟩, HF.out.2⟩
        · -- a receive of a closed channel
          have hop := TS.op_s20 hcc ‹_› ‹_› ‹_›
          go_ret
          rw [hop]
          refine ⟨ret_bool ?_, ⟨kv, ?_⟩, (But.refl _ _).below (HB0.out.alloc (by omega) _)⟩
          · by_cases hsr : sent = recv <;> simp [hsr]
          · have hgd : (if sent = recv then some s else none).getD s = s := by split <;> rfl
            rw [hgd]
            exact (HH.out.below (HB0.out.alloc (by omega) _)).mono (by omega)
        all_goals clear hcc HNO
        all_goals refine ⟨(HB0.out.alloc (by omega) _).alloc (by simp; omega) _, by simp; omega, by simp; omega, by omega, by omega, ?_⟩
        all_goals go_light
        all_goals refine ⟨?_, ?_, ?_, ?_, ?_, ?_, ?_, ?_, ?_, ?_, ?_, ?_, ?_, ?_, ?_, ?_, ?_, ?_, ?_, ?_⟩
        all_goals first | (simp [go_sem, *]; done) | (rintro (_ | _ | _ | i) x hx <;> simp at hx <;> subst hx <;> simp [go_sem])
      case rest =>
        obtain ⟨l, snd, rcv, gb, hop, hb1, z1, z2, z3, z4, e0, e1, e2, e3, e4, e5, e6, e7, e8, k0, k1, k2, k3, o0, o1, o2, o3, o4, o5, hl⟩ := hcut
        clear d1 d2 hlt2
        have hbl := HM.out.lt
        have hne : bc ≠ sb := HM.out.ne_cells HH.out.row
        have hmc : MapOf iK wc Try.prog 3 bc N (chanMap s.chans) := HM.out.keep (hb1.block bc hbl)
        obtain ⟨w1, hput, hm2, hg⟩ := (show MapOf iK wc.drew Try.prog 3 bc N (chanMap s.chans) from hmc).put keyI Try.underlying60 (by omega) obj (wf_i64 hiobj) (.agg #[.int .i64 cap, .int .i64 sent, .int .i64 recv, .bool closed])
        unfold iK at hput
        have hb2 : But [bc] wc w1 := (But.refl _ _).drew.grown hg (.inl (by simp))
        have hrow0 : wc.heap[sb]? = some (.cells (TCells s bc bm bd kv) 66 (0, 0)) := (hb1.block sb hlt).trans HH.out.row
        have hrow1 : w1.heap[sb]? = some (.cells (TCells s bc bm bd kv) 66 (0, 0)) := (hb2.block sb (by omega) (by simpa using Ne.symm hne)).trans hrow0
        have d2 : wc.cell? ⟨sb, 2, none⟩ = some (.map (some bc)) := cell_of_row wc sb 2 _ _ _ hrow0
        have s5 : w1.cell? ⟨sb, 5, none⟩ = some kv := cell_of_row w1 sb 5 _ _ _ hrow1
        have s6 : w1.cell? ⟨sb, 6, none⟩ = some (.int .i64 s.grp.obj) := cell_of_row w1 sb 6 _ _ _ hrow1
        have s7 : w1.cell? ⟨sb, 7, none⟩ = some (.int .i64 s.grp.k) := cell_of_row w1 sb 7 _ _ _ hrow1
        have s8 : w1.cell? ⟨sb, 8, none⟩ = some (.int .i64 s.grp.n) := cell_of_row w1 sb 8 _ _ _ hrow1
        have s9 : w1.cell? ⟨sb, 9, none⟩ = some (.int .i64 s.grp.snd) := cell_of_row w1 sb 9 _ _ _ hrow1
        have s10 : w1.cell? ⟨sb, 10, none⟩ = some (.int .i64 s.grp.rcv) := cell_of_row w1 sb 10 _ _ _ hrow1
        have sf : ∀ j, w1.frozen? ⟨sb, j, none⟩ = false := fun j => frozen_of_row w1 sb j _ _ hrow1
        have keepc : ∀ b j v, b < wc.heap.size → b ≠ bc → wc.cell? ⟨b, j, none⟩ = some v → w1.cell? ⟨b, j, none⟩ = some v := fun b j v h1 h2 h3 => (hb2.cell (p := ⟨b, j, none⟩) h1 (by simpa using h2)).trans h3
        have f0 := keepc _ _ _ (by omega) (by omega) e0
        have f1 := keepc _ _ _ (by omega) (by omega) e1
        have f2 := keepc _ _ _ (by omega) (by omega) e2
        have f3 := keepc _ _ _ (by omega) (by omega) e3
        have f4 := keepc _ _ _ (by omega) (by omega) e4
        have f5 := keepc _ _ _ (by omega) (by omega) e5
        have f6 := keepc _ _ _ (by omega) (by omega) e6
        have f7 := keepc _ _ _ (by omega) (by omega) e7
        have f8 := keepc _ _ _ (by omega) (by omega) e8
        have p0 := keepc _ _ _ (by omega) (by omega) o0
        have p1 := keepc _ _ _ (by omega) (by omega) o1
        have p2 := keepc _ _ _ (by omega) (by omega) o2
        have p3 := keepc _ _ _ (by omega) (by omega) o3
        have p4 := keepc _ _ _ (by omega) (by omega) o4
        have p5 := keepc _ _ _ (by omega) (by omega) o5
        have HL := Lib.hid hl; clear hl
        have HM2 := Lib.hid hm2; clear hm2 hmc hg
        have HB1 := Lib.hid hb1; clear hb1
        have HB2 := Lib.hid hb2; clear hb2
        have HOP := Lib.hid hop; clear hop
        have HR1 := Lib.hid hrow1; clear hrow1 hrow0 keepc HNO
        go_wp2
        go_region
        go_wp2_with fail
        generalize hW : World.setCell _ _ _ = W2
        have hrow2 : W2.heap[sb]? = some (.cells (TCells (s.start ⟨g, kind, obj, off, k, en, fn, pc, stack⟩ ⟨cap, sent, recv, closed⟩ l snd rcv) bc bm bd (.slice (some ⟨gb, 0, none⟩) l.length l.length)) 66 (0, 0)) := by
          rw [← hW]
          exact heap_setCell_same _ _ _ _ _ _ (heap_setCell_same _ _ _ _ _ _ (heap_setCell_same _ _ _ _ _ _ (heap_setCell_same _ _ _ _ _ _ (heap_setCell_same _ _ _ _ _ _ (heap_setCell_same _ _ _ _ _ _ HR1.out)))))
        have hb3 : But [sb] w1 W2 := by
          rw [← hW]
          exact ((((((But.refl _ _).setCell (.inl (by simp)) _).setCell (.inl (by simp)) _).setCell (.inl (by simp)) _).setCell (.inl (by simp)) _).setCell (.inl (by simp)) _).setCell (.inl (by simp)) _
        clear hW
        have hm4 : MapOf iK W2 Try.prog 3 bc (N + 1) (chanMap (upd s.chans obj ⟨cap, sent, recv, closed⟩)) := by
          rw [← chanMap_upd]; exact HM2.out.but hb3 (by simpa using hne)
        refine (count_any sb bc (N + 1) (upd s.chans obj ⟨cap, sent, recv, closed⟩) ⟨g, kind, obj, off, k, en, fn, pc, stack⟩ W2 (cell_of_row W2 sb 2 _ _ _ hrow2) hm4 (by omega) hiobj (fun c hc => by rw [upd_same] at hc; cases hc; exact ⟨⟨hs1, hs3⟩, hr1, hr3⟩)).mono ?_
        rintro r w3 ⟨rfl, hm5, hb4⟩
        have hfin : TRep w3 sb bc bm bd (N + 2) (s.start ⟨g, kind, obj, off, k, en, fn, pc, stack⟩ ⟨cap, sent, recv, closed⟩ l snd rcv) (.slice (some ⟨gb, 0, none⟩) l.length l.length) ∧ But [sb, bc] w w3 := by
          have hbt : But [sb, bc] w w3 := (((But.refl _ _).below HB1.out).trans (HB2.out.mono (by simp))).trans ((hb3.mono (by simp)).trans (hb4.mono (by simp)))
          have hsz1 := HB2.out.size
          have hsz2 := hb3.size
          refine ⟨⟨(hb4.block sb (by omega) (by simpa using Ne.symm hne)).trans hrow2, ⟨_, _, rfl, Nat.le_refl _, fun hl0 => ⟨gb, 0, rfl, z4, fun i x hx => ?_⟩⟩, ?_, (HH.out.mus.but hbt ?_).mono (by omega), (HH.out.done.but hbt ?_).mono (by omega), HH.out.ncm, HH.out.ncd, HH.out.nmd⟩, hbt⟩
          · have hx0 := HL.out i x hx
            have hlt0 := block_lt_of_cell hx0
            dsimp only at hlt0
            have hgbc : gb ≠ bc := by omega
            rw [Nat.zero_add]
            exact (hb4.cell (p := ⟨gb, i, none⟩) (by dsimp only; omega) (by simpa using hgbc)).trans ((hb3.cell (p := ⟨gb, i, none⟩) (by dsimp only; omega) (by simpa using z4)).trans ((HB2.out.cell (p := ⟨gb, i, none⟩) hlt0 (by simpa using hgbc)).trans hx0))
          · have h1 : upd (upd s.chans obj ⟨cap, sent, recv, closed⟩) obj (((upd s.chans obj ⟨cap, sent, recv, closed⟩ obj).getD ch0).count kind) = upd s.chans obj ((⟨cap, sent, recv, closed⟩ : Ch).count kind) := by
              rw [upd_upd, upd_same]; rfl
            rw [h1] at hm5
            exact hm5
          · simp only [List.mem_cons, List.not_mem_nil, or_false, not_or]; exact ⟨HH.out.mus.ne_cells HH.out.row, Ne.symm HH.out.ncm⟩
          · simp only [List.mem_cons, List.not_mem_nil, or_false, not_or]; exact ⟨HH.out.done.ne_cells HH.out.row, Ne.symm HH.out.ncd⟩
        have HF := Lib.hid hfin; clear hfin hm5 hb4 hm4 hb3 hrow2
        go_wp2
        go_ret
        rw [HOP.out]
        exact ⟨rfl, ⟨_, HF.out.1⟩, HF.out.2⟩
end Go.Proofs.Ytkdagjlkejefnaa
end
