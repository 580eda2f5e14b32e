/- The plain readings of functions of the program, printed by a program of this claim. No conditions. -/
import Derived.Test.YtkdagjlkejefnaaPp
import Derived.Test.YtkdagjlkejefnaaProg
namespace Go.Proofs.Ytkdagjlkejefnaa
open Go Go.RowKit
set_option linter.unusedSimpArgs false
set_option linter.unusedVariables false
set_option maxRecDepth 100000

def eqsL : List (Nat × List Bool) := [(30, [false, false, false, false, false, false, false, false, false]), (31, [false, false, false, false, false, false, false, false, false]), (47, [false, false]), (48, [false, false]), (70, [false, false, false, true]), (71, [false, false, false, true]), (73, [true, false]), (74, [true, false]), (77, [false, false, false, false, true]), (78, [false, false, false, false, true]), (82, [false, false, false]), (83, [false, false, false]), (87, [false, false, true, false]), (88, [false, false, true, false]), (92, List.replicate 7 false)]
theorem eqsOK : ∀ p, p ∈ eqsL → EqT Try.prog p.1 p.2 := by
  intro p hp
  simp only [eqsL, List.mem_cons, List.not_mem_nil, or_false] at hp
  rcases hp with rfl | rfl | rfl | rfl | rfl | rfl | rfl | rfl | rfl | rfl | rfl | rfl | rfl | rfl | rfl
  · exact eqT_struct Try.underlying30 (by kernel_rfl) (by kernel_rfl) (by kernel_rfl)
  · exact eqT_struct Try.underlying31 (by kernel_rfl) (by kernel_rfl) (by kernel_rfl)
  · exact eqT_struct Try.underlying47 (by kernel_rfl) (by kernel_rfl) (by kernel_rfl)
  · exact eqT_struct Try.underlying48 (by kernel_rfl) (by kernel_rfl) (by kernel_rfl)
  · exact eqT_struct Try.underlying70 (by kernel_rfl) (by kernel_rfl) (by kernel_rfl)
  · exact eqT_struct Try.underlying71 (by kernel_rfl) (by kernel_rfl) (by kernel_rfl)
  · exact eqT_struct Try.underlying73 (by kernel_rfl) (by kernel_rfl) (by kernel_rfl)
  · exact eqT_struct Try.underlying74 (by kernel_rfl) (by kernel_rfl) (by kernel_rfl)
  · exact eqT_struct Try.underlying77 (by kernel_rfl) (by kernel_rfl) (by kernel_rfl)
  · exact eqT_struct Try.underlying78 (by kernel_rfl) (by kernel_rfl) (by kernel_rfl)
  · exact eqT_struct Try.underlying82 (by kernel_rfl) (by kernel_rfl) (by kernel_rfl)
  · exact eqT_struct Try.underlying83 (by kernel_rfl) (by kernel_rfl) (by kernel_rfl)
  · exact eqT_struct Try.underlying87 (by kernel_rfl) (by kernel_rfl) (by kernel_rfl)
  · exact eqT_struct Try.underlying88 (by kernel_rfl) (by kernel_rfl) (by kernel_rfl)
  · exact eqT_array Try.underlying92 (ei := (Try.prog.info? 3).getD default) (by kernel_rfl) (by kernel_rfl) (by kernel_rfl) (by kernel_rfl)
theorem mixedOK : Try.prog.follows .mixedOrders = true := by kernel_rfl

/-! interleave/interleaveref30.Same -/
def pc29 : PC :=
 .seq (.reg false [⟨(some 4), .mv (.v (.bool false)), none, []⟩])
  (.seq (.seq (.reg false [⟨(some 6), .mv (.t 0), none, []⟩,
         ⟨(some 7), .len (.t 6), none, [0]⟩,
         ⟨(some 8), .mv (.t 1), none, []⟩,
         ⟨(some 9), .len (.t 8), none, [2]⟩,
         ⟨(some 10), .bin .neq (.t 7) (.t 9), none, [1, 3]⟩])
    (.cond (.t 10)
      (.seq (.reg false [⟨(some 4), .mv (.v (.bool false)), none, []⟩])
       (.ret))
      (.skip)))
   (.seq (.seq (.reg false [⟨(some 5), .mv (.v (.int .i64 0)), none, []⟩])
     (.block 0 (.loop (.seq (.seq (.reg false [⟨(some 11), .mv (.t 5), none, []⟩,
              ⟨(some 12), .mv (.t 0), none, []⟩,
              ⟨(some 13), .len (.t 12), none, [1]⟩,
              ⟨(some 14), .bin .lss (.t 11) (.t 13), none, [0, 2]⟩])
         (.cond (.t 14)
           (.skip)
           (.exit 0)))
        (.seq (.block 1 (.seq (.reg true [⟨(some 17), .mv (.t 0), none, []⟩,
                ⟨(some 18), .mv (.t 5), none, []⟩,
                ⟨(some 19), .ixs 9 (.t 17) (.t 18), none, [0, 1]⟩,
                ⟨(some 20), .load (some 9) (.t 19), none, [2]⟩,
                ⟨(some 21), .mv (.t 1), none, []⟩,
                ⟨(some 22), .mv (.t 5), none, []⟩,
                ⟨(some 23), .ixs 9 (.t 21) (.t 22), none, [4, 5]⟩,
                ⟨(some 24), .load (some 9) (.t 23), none, [6]⟩,
                ⟨(some 25), .eqs true [false, false, false, false, false, false, false, false, false] (.t 20) (.t 24), none, [3, 7]⟩])
           (.cond (.t 25)
             (.seq (.reg false [⟨(some 4), .mv (.v (.bool false)), none, []⟩])
              (.ret))
             (.skip))))
         (.reg false [⟨(some 15), .mv (.t 5), none, []⟩,
              ⟨(some 16), .bin .add (.t 15) (.v (.int .i64 1)), none, [0]⟩,
              ⟨(some 5), .mv (.t 16), none, [1, 0, 1]⟩]))))))
    (.seq (.reg false [⟨(some 4), .mv (.v (.bool true)), none, []⟩])
     (.ret))))
def pr29 : List PR := [.t 4]
abbrev ms29_0 : List Nat := [11, 12, 13, 14, 17, 18, 19, 20, 21, 22, 23, 24, 25, 4, 15, 16, 5]
abbrev os29_0 : List Nat := []
theorem bd29 : Try.f29.body = some (Try.f29.body.getD .skip) := by kernel_rfl
theorem cp29 : compC Try.prog Try.f29.ntmps eqsL (Try.f29.body.getD .skip) = some pc29 := by kernel_rfl
theorem sp29 {env : Env} (hE : EnvOK Try.prog env) {R : List Pa → List Pa → Prop} (hR : ∀ ps rs, R ps rs → ps.length ≤ 26 ∧ pwp env pc29 (fun e s => (e = .normal ∨ e = .ret) ∧ s.res pr29 = some rs) (St.init ps)) : Spec Try.prog 29 R :=
  fn_sound hE eqsOK mixedOK Try.func29 bd29 cp29 (by kernel_rfl) (by kernel_rfl) hR

/-! interleave/interleavelaw30.TraceProject -/
def pc10 : PC :=
 .seq (.reg false [⟨(some 5), .box (.t 2), none, []⟩,
       ⟨(some 6), .mv (.v (.bool false)), none, []⟩])
  (.seq (.seq (.reg false [⟨(some 10), .call 12 [], none, []⟩,
         ⟨(some 11), .un .not (.t 10), none, [0]⟩])
    (.cond (.t 11)
      (.seq (.reg false [⟨(some 6), .mv (.v (.bool false)), none, []⟩])
       (.ret))
      (.skip)))
   (.seq (.seq (.reg false [⟨(some 12), .mv (.t 0), none, []⟩,
          ⟨(some 13), .len (.t 12), none, [0]⟩,
          ⟨(some 14), .bin .gtr (.t 13) (.v (.int .i64 100)), none, [1]⟩])
     (.cond (.t 14)
       (.seq (.reg false [⟨(some 6), .mv (.v (.bool true)), none, []⟩])
        (.ret))
       (.skip)))
    (.seq (.reg true [⟨(some 15), .mv (.t 0), none, []⟩,
          ⟨(some 16), .load (some 2) (.t 5), none, []⟩,
          ⟨(some 17), .call 27 [(.t 15), (.t 16)], none, [0, 1]⟩,
          ⟨(some 18), .mv (.t 0), none, []⟩,
          ⟨(some 19), .load (some 2) (.t 5), none, []⟩,
          ⟨(some 20), .call 28 [(.t 18), (.t 19)], none, [3, 4, 2]⟩,
          ⟨(some 7), .mv (.t 17), none, [2, 5, 0, 1, 2]⟩,
          ⟨(some 8), .mv (.t 20), none, [5, 6, 0, 1, 2, 3, 4, 5, 6]⟩])
     (.seq (.seq (.reg false [⟨(some 21), .mv (.t 7), none, []⟩,
            ⟨(some 22), .len (.t 21), none, [0]⟩,
            ⟨(some 23), .mv (.t 8), none, []⟩,
            ⟨(some 24), .len (.t 23), none, [2]⟩,
            ⟨(some 25), .bin .neq (.t 22) (.t 24), none, [1, 3]⟩,
            ⟨(some 26), .mv (.t 25), none, [4]⟩,
            ⟨(some 27), .mv (.t 0), (some (26, false)), [5]⟩,
            ⟨(some 28), .mv (.t 1), (some (26, false)), [5]⟩,
            ⟨(some 29), .call 30 [(.t 27), (.t 28)], (some (26, false)), [6, 7, 5, 5]⟩,
            ⟨(some 30), .mv (.t 0), (some (26, false)), [5]⟩,
            ⟨(some 31), .mv (.t 1), (some (26, false)), [5]⟩,
            ⟨(some 32), .call 31 [(.t 30), (.t 31)], (some (26, false)), [9, 10, 8, 5]⟩,
            ⟨(some 33), .call 29 [(.t 29), (.t 32)], (some (26, false)), [8, 11, 11, 5]⟩,
            ⟨(some 34), .un .not (.t 33), (some (26, false)), [12, 5]⟩,
            ⟨(some 35), .pick (.t 26) (.v (.bool true)) (.t 34), none, [5, 13]⟩])
       (.cond (.t 35)
         (.seq (.reg false [⟨(some 6), .mv (.v (.bool false)), none, []⟩])
          (.ret))
         (.skip)))
      (.seq (.seq (.reg false [⟨(some 36), .mv (.t 7), none, []⟩,
             ⟨(some 37), .len (.t 36), none, [0]⟩,
             ⟨(some 38), .mv (.v (.int .i64 0)), none, []⟩])
        (.block 0 (.loop (.seq (.reg false [⟨(some 39), .bin .lss (.t 38) (.t 37), none, []⟩])
           (.seq (.cond (.t 39)
              (.skip)
              (.exit 0))
            (.seq (.block 1 (.seq (.reg false [⟨(some 40), .mv (.t 38), none, []⟩,
                    ⟨(some 9), .mv (.t 40), none, [0, 0]⟩])
               (.seq (.reg true [⟨(some 41), .mv (.t 7), none, []⟩,
                     ⟨(some 42), .mv (.t 9), none, []⟩,
                     ⟨(some 43), .ixs 1 (.t 41) (.t 42), none, [0, 1]⟩,
                     ⟨(some 44), .load none (.t 43), none, [2]⟩,
                     ⟨(some 45), .mv (.t 8), none, []⟩,
                     ⟨(some 46), .mv (.t 9), none, []⟩,
                     ⟨(some 47), .ixs 1 (.t 45) (.t 46), none, [4, 5]⟩,
                     ⟨(some 48), .load none (.t 47), none, [6]⟩,
                     ⟨(some 49), .bin .neq (.t 44) (.t 48), none, [3, 7]⟩])
                (.cond (.t 49)
                  (.seq (.reg false [⟨(some 6), .mv (.v (.bool false)), none, []⟩])
                   (.ret))
                  (.skip)))))
             (.reg false [⟨(some 50), .bin .add (.t 38) (.v (.int .i64 1)), none, []⟩,
                  ⟨(some 38), .mv (.t 50), none, [0]⟩])))))))
       (.seq (.reg false [⟨(some 6), .mv (.v (.bool true)), none, []⟩])
        (.ret)))))))
def pr10 : List PR := [.t 6]
abbrev ms10_0 : List Nat := [39, 40, 9, 41, 42, 43, 44, 45, 46, 47, 48, 49, 6, 50, 38]
abbrev os10_0 : List Nat := []
theorem bd10 : Try.f10.body = some (Try.f10.body.getD .skip) := by kernel_rfl
theorem cp10 : compC Try.prog Try.f10.ntmps eqsL (Try.f10.body.getD .skip) = some pc10 := by kernel_rfl
theorem sp10 {env : Env} (hE : EnvOK Try.prog env) {R : List Pa → List Pa → Prop} (hR : ∀ ps rs, R ps rs → ps.length ≤ 51 ∧ pwp env pc10 (fun e s => (e = .normal ∨ e = .ret) ∧ s.res pr10 = some rs) (St.init ps)) : Spec Try.prog 10 R :=
  fn_sound hE eqsOK mixedOK Try.func10 bd10 cp10 (by kernel_rfl) (by kernel_rfl) hR


end Go.Proofs.Ytkdagjlkejefnaa
