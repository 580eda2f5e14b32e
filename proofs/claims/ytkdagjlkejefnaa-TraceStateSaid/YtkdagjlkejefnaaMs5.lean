/- The plain readings of functions of the program, printed by a program of this claim. No conditions. -/
import Derived.Test.YtkdagjlkejefnaaMs4
import Derived.Test.YtkdagjlkejefnaaProg
namespace Go.Proofs.Ytkdagjlkejefnaa
open Go Go.RowKit
set_option linter.unusedSimpArgs false
set_option linter.unusedVariables false
set_option maxRecDepth 100000

def eqsL : List (Nat × List Bool) := [(30, [false, false, false, false, false, false, false, false, false]), (31, [false, false, false, false, false, false, false, false, false]), (47, [false, false]), (48, [false, false]), (70, [false, false, false, true]), (71, [false, false, false, true]), (73, [true, false]), (74, [true, false]), (77, [false, false, false, false, true]), (78, [false, false, false, false, true]), (82, [false, false, false]), (83, [false, false, false]), (87, [false, false, true, false]), (88, [false, false, true, false]), (92, List.replicate 7 false)]
theorem eqsOK : ∀ p, p ∈ eqsL → EqT Try.prog p.1 p.2 := by
  intro p hp
  simp only [eqsL, List.mem_cons, List.not_mem_nil, or_false] at hp
  rcases hp with rfl | rfl | rfl | rfl | rfl | rfl | rfl | rfl | rfl | rfl | rfl | rfl | rfl | rfl | rfl
  · exact eqT_struct Try.underlying30 (by kernel_rfl) (by kernel_rfl) (by kernel_rfl)
  · exact eqT_struct Try.underlying31 (by kernel_rfl) (by kernel_rfl) (by kernel_rfl)
  · exact eqT_struct Try.underlying47 (by kernel_rfl) (by kernel_rfl) (by kernel_rfl)
  · exact eqT_struct Try.underlying48 (by kernel_rfl) (by kernel_rfl) (by kernel_rfl)
  · exact eqT_struct Try.underlying70 (by kernel_rfl) (by kernel_rfl) (by kernel_rfl)
  · exact eqT_struct Try.underlying71 (by kernel_rfl) (by kernel_rfl) (by kernel_rfl)
  · exact eqT_struct Try.underlying73 (by kernel_rfl) (by kernel_rfl) (by kernel_rfl)
  · exact eqT_struct Try.underlying74 (by kernel_rfl) (by kernel_rfl) (by kernel_rfl)
  · exact eqT_struct Try.underlying77 (by kernel_rfl) (by kernel_rfl) (by kernel_rfl)
  · exact eqT_struct Try.underlying78 (by kernel_rfl) (by kernel_rfl) (by kernel_rfl)
  · exact eqT_struct Try.underlying82 (by kernel_rfl) (by kernel_rfl) (by kernel_rfl)
  · exact eqT_struct Try.underlying83 (by kernel_rfl) (by kernel_rfl) (by kernel_rfl)
  · exact eqT_struct Try.underlying87 (by kernel_rfl) (by kernel_rfl) (by kernel_rfl)
  · exact eqT_struct Try.underlying88 (by kernel_rfl) (by kernel_rfl) (by kernel_rfl)
  · exact eqT_array Try.underlying92 (ei := (Try.prog.info? 3).getD default) (by kernel_rfl) (by kernel_rfl) (by kernel_rfl) (by kernel_rfl)
theorem mixedOK : Try.prog.follows .mixedOrders = true := by kernel_rfl

/-! (interleave/interleaveref30.State).Add -/
def pc20 : PC :=
 .seq (.reg false [⟨(some 2), .box (.t 0), none, []⟩,
       ⟨(some 3), .box (.t 1), none, []⟩,
       ⟨(some 4), .new [(.int .i64 0), (.int .i64 0), (.slice none 0 0), (.slice none 0 0), (.slice none 0 0), (.slice none 0 0), (.int .i64 0), (.int .i64 0), (.int .i64 0)], none, []⟩,
       ⟨(some 5), .mv (.v (.bool false)), none, []⟩])
  (.seq (.seq (.reg false [⟨(some 8), .load (some 9) (.t 3), none, []⟩,
         ⟨(some 9), .call 37 [(.t 8)], none, [0]⟩,
         ⟨(some 10), .un .not (.t 9), none, [1]⟩,
         ⟨(some 11), .mv (.t 10), none, [2, 1]⟩,
         ⟨(some 12), .fld 0 (.t 2), (some (11, false)), [3]⟩,
         ⟨(some 13), .load none (.t 12), (some (11, false)), [4, 3]⟩,
         ⟨(some 14), .bin .geq (.t 13) (.v (.int .i64 5000)), (some (11, false)), [5, 3]⟩,
         ⟨(some 15), .pick (.t 11) (.v (.bool true)) (.t 14), none, [3, 6]⟩,
         ⟨(some 16), .mv (.t 15), none, [7, 3]⟩,
         ⟨(some 17), .fld 0 (.t 3), (some (16, false)), [8]⟩,
         ⟨(some 18), .load none (.t 17), (some (16, false)), [9, 8]⟩,
         ⟨(some 19), .fld 1 (.t 2), (some (16, false)), [8]⟩,
         ⟨(some 20), .load none (.t 19), (some (16, false)), [11, 8]⟩,
         ⟨(some 21), .bin .geq (.t 18) (.t 20), (some (16, false)), [10, 12, 8]⟩,
         ⟨(some 22), .pick (.t 16) (.v (.bool true)) (.t 21), none, [8, 13]⟩])
    (.cond (.t 22)
      (.seq (.reg false [⟨(some 23), .load (some 9) (.t 2), none, []⟩,
            ⟨none, .store 9 (.t 4) (.t 23), none, [0, 0]⟩,
            ⟨(some 5), .mv (.v (.bool false)), none, [1, 0, 1]⟩])
       (.ret))
      (.skip)))
   (.seq (.reg false [⟨(some 6), .new [(.int .i64 0), (.int .i64 0), (.slice none 0 0), (.slice none 0 0), (.slice none 0 0), (.slice none 0 0), (.int .i64 0), (.int .i64 0), (.int .i64 0)], none, []⟩])
    (.seq (.reg false [⟨(some 7), .mv (.v (.bool false)), none, []⟩])
     (.seq (.block 0 (.seq (.reg false [⟨(some 31), .fld 5 (.t 2), none, []⟩,
             ⟨(some 32), .load none (.t 31), none, [0]⟩,
             ⟨(some 33), .len (.t 32), none, [1]⟩,
             ⟨(some 34), .bin .gtr (.t 33) (.v (.int .i64 0)), none, [2]⟩,
             ⟨(some 30), .mv (.t 34), none, [3]⟩])
        (.cond (.t 30)
          (.reg false [⟨(some 36), .load (some 9) (.t 2), none, []⟩,
               ⟨(some 37), .load (some 9) (.t 3), none, []⟩,
               ⟨(some 38), .call 38 [(.t 36), (.t 37)], none, [0, 1]⟩,
               ⟨(some 35), .mv (.t 38), none, [2]⟩,
               ⟨(some 39), .ext (.t 35) 0, none, [3]⟩,
               ⟨(some 40), .ext (.t 35) 1, none, [3]⟩,
               ⟨none, .store 9 (.t 6) (.t 39), none, [4, 2, 0, 1, 2, 3, 4]⟩,
               ⟨(some 7), .mv (.t 40), none, [5, 6, 0, 1, 2, 3, 4, 5, 6]⟩])
          (.seq (.reg false [⟨(some 42), .fld 1 (.t 3), none, []⟩,
                ⟨(some 43), .load none (.t 42), none, [0]⟩,
                ⟨(some 44), .call 39 [(.t 43)], none, [1]⟩,
                ⟨(some 41), .mv (.t 44), none, [2, 2]⟩])
           (.cond (.t 41)
             (.reg false [⟨(some 46), .load (some 9) (.t 2), none, []⟩,
                  ⟨(some 47), .load (some 9) (.t 3), none, []⟩,
                  ⟨(some 48), .call 40 [(.t 46), (.t 47)], none, [0, 1]⟩,
                  ⟨(some 45), .mv (.t 48), none, [2]⟩,
                  ⟨(some 49), .ext (.t 45) 0, none, [3]⟩,
                  ⟨(some 50), .ext (.t 45) 1, none, [3]⟩,
                  ⟨none, .store 9 (.t 6) (.t 49), none, [4, 2, 0, 1, 2, 3, 4]⟩,
                  ⟨(some 7), .mv (.t 50), none, [5, 6, 0, 1, 2, 3, 4, 5, 6]⟩])
             (.reg false [⟨(some 25), .load (some 9) (.t 2), none, []⟩,
                  ⟨(some 26), .load (some 9) (.t 3), none, []⟩,
                  ⟨(some 27), .call 41 [(.t 25), (.t 26)], none, [0, 1]⟩,
                  ⟨(some 24), .mv (.t 27), none, [2]⟩,
                  ⟨(some 28), .ext (.t 24) 0, none, [3]⟩,
                  ⟨(some 29), .ext (.t 24) 1, none, [3]⟩,
                  ⟨none, .store 9 (.t 6) (.t 28), none, [4, 2, 0, 1, 2, 3, 4]⟩,
                  ⟨(some 7), .mv (.t 29), none, [5, 6, 0, 1, 2, 3, 4, 5, 6]⟩]))))))
      (.seq (.seq (.reg false [⟨(some 51), .mv (.t 7), none, []⟩,
             ⟨(some 52), .un .not (.t 51), none, [0]⟩])
        (.cond (.t 52)
          (.seq (.reg false [⟨(some 53), .load (some 9) (.t 2), none, []⟩,
                ⟨none, .store 9 (.t 4) (.t 53), none, [0, 0]⟩,
                ⟨(some 5), .mv (.v (.bool false)), none, [1, 0, 1]⟩])
           (.ret))
          (.skip)))
       (.seq (.reg false [⟨(some 54), .fld 0 (.t 6), none, []⟩,
             ⟨(some 55), .load none (.t 54), none, [0]⟩,
             ⟨(some 56), .bin .add (.t 55) (.v (.int .i64 1)), none, [1]⟩,
             ⟨(some 57), .fld 0 (.t 6), none, [0, 1, 2]⟩,
             ⟨none, .store 1 (.t 57) (.t 56), none, [3, 2, 0, 1, 2]⟩])
        (.seq (.reg false [⟨(some 58), .load (some 9) (.t 6), none, []⟩,
              ⟨none, .store 9 (.t 4) (.t 58), none, [0, 0]⟩,
              ⟨(some 5), .mv (.v (.bool true)), none, [1, 0, 1]⟩])
         (.ret))))))))
def pr20 : List PR := [.c 4 (some 9), .t 5]
theorem bd20 : Try.f20.body = some (Try.f20.body.getD .skip) := by kernel_rfl
theorem cp20 : compC Try.prog Try.f20.ntmps eqsL (Try.f20.body.getD .skip) = some pc20 := by kernel_rfl
theorem sp20 [WInv] {env : Env} (hE : EnvOK Try.prog env) {R : List Pa → List Pa → Prop} (hR : ∀ ps rs, R ps rs → ps.length ≤ 59 ∧ pwp env pc20 (fun e s => (e = .normal ∨ e = .ret) ∧ s.res pr20 = some rs) (St.init ps)) : Spec Try.prog 20 R :=
  fn_sound hE eqsOK mixedOK Try.func20 bd20 cp20 (by kernel_rfl) (by kernel_rfl) hR

/-! (interleave/interleaveref30.State).try -/
def pc34 : PC :=
 .seq (.reg false [⟨(some 3), .box (.t 0), none, []⟩,
       ⟨(some 4), .box (.t 1), none, []⟩,
       ⟨(some 6), .nilRow 22 1, none, []⟩])
  (.seq (.reg true [⟨(some 20), .mv (.t 2), none, []⟩,
        ⟨(some 21), .fld 6 (.t 4), none, []⟩,
        ⟨(some 22), .load none (.t 21), none, [1]⟩,
        ⟨(some 23), .call 35 [(.t 22), (.v (.int .i64 3))], none, [2]⟩,
        ⟨(some 24), .fld 7 (.t 4), none, []⟩,
        ⟨(some 25), .load none (.t 24), none, [4]⟩,
        ⟨(some 26), .call 35 [(.t 25), (.v (.int .i64 5))], none, [5, 3]⟩,
        ⟨(some 27), .build [(.int .i64 0), (.int .i64 0), (.int .i64 0), (.int .i64 0), (.int .i64 0), (.int .i64 0), (.int .i64 0), (.int .i64 0), (.int .i64 0)] [(0, 1, (.t 20)), (6, 1, (.t 23)), (7, 1, (.t 26))], none, [0, 3, 6]⟩,
        ⟨(some 7), .new [(.int .i64 0), (.int .i64 0), (.int .i64 0), (.int .i64 0), (.int .i64 0), (.int .i64 0), (.int .i64 0), (.int .i64 0), (.int .i64 0)], none, []⟩,
        ⟨none, .store 9 (.t 7) (.t 27), none, [8, 7, 6, 0, 1, 2, 3, 4, 5, 6, 7, 8]⟩])
   (.seq (.reg true [⟨(some 28), .fld 2 (.t 4), none, []⟩,
         ⟨(some 29), .load none (.t 28), none, [0]⟩,
         ⟨(some 30), .call 35 [(.t 29), (.v (.int .i64 4))], none, [1]⟩,
         ⟨(some 31), .fld 1 (.t 4), none, []⟩,
         ⟨(some 32), .load none (.t 31), none, [3]⟩,
         ⟨(some 33), .call 35 [(.t 32), (.v (.int .i64 20))], none, [4, 2]⟩,
         ⟨(some 8), .mv (.t 30), none, [2, 5, 0, 1, 2]⟩,
         ⟨(some 9), .mv (.t 33), none, [5, 6, 0, 1, 2, 3, 4, 5, 6]⟩])
    (.seq (.seq (.reg false [⟨(some 34), .mv (.t 9), none, []⟩,
           ⟨(some 35), .bin .eql (.t 34) (.v (.int .i64 0)), none, [0]⟩])
      (.cond (.t 35)
        (.reg false [⟨(some 9), .mv (.v (.int .i64 20)), none, []⟩])
        (.skip)))
     (.seq (.seq (.reg false [⟨(some 36), .mv (.t 9), none, []⟩])
       (.block 0 (.seq (.seq (.reg false [⟨(some 38), .bin .eql (.t 36) (.v (.int .i64 1)), none, []⟩,
               ⟨(some 37), .mv (.t 38), none, [0]⟩])
          (.cond (.t 37)
            (.skip)
            (.seq (.reg false [⟨(some 39), .bin .eql (.t 36) (.v (.int .i64 2)), none, []⟩,
                  ⟨(some 37), .mv (.t 39), none, [0]⟩])
             (.cond (.t 37)
               (.skip)
               (.seq (.reg false [⟨(some 40), .bin .eql (.t 36) (.v (.int .i64 10)), none, []⟩,
                     ⟨(some 37), .mv (.t 40), none, [0]⟩])
                (.cond (.t 37)
                  (.skip)
                  (.reg false [⟨(some 41), .bin .eql (.t 36) (.v (.int .i64 11)), none, []⟩,
                       ⟨(some 37), .mv (.t 41), none, [0]⟩])))))))
         (.cond (.t 37)
           (.seq (.reg true [⟨(some 42), .load (some 9) (.t 7), none, []⟩,
                 ⟨(some 43), .mv (.t 9), none, []⟩,
                 ⟨(some 44), .mv (.t 8), none, []⟩,
                 ⟨(some 45), .fld 3 (.t 4), none, []⟩,
                 ⟨(some 46), .load none (.t 45), none, [3]⟩,
                 ⟨(some 47), .call 35 [(.t 46), (.v (.int .i64 2))], none, [4]⟩,
                 ⟨(some 48), .call 54 [(.t 42), (.t 43), (.t 44), (.t 47)], none, [0, 1, 2, 5, 5]⟩,
                 ⟨(some 49), .bslice 22 1 [(.slice none 0 0)] 1 [(0, 1, (.t 48))], none, [6]⟩,
                 ⟨(some 6), .mv (.t 49), none, [7, 6, 0, 1, 2, 3, 4, 5, 6, 7]⟩])
            (.ret))
           (.seq (.seq (.reg false [⟨(some 51), .bin .eql (.t 36) (.v (.int .i64 3)), none, []⟩,
                  ⟨(some 50), .mv (.t 51), none, [0]⟩])
             (.cond (.t 50)
               (.skip)
               (.seq (.reg false [⟨(some 52), .bin .eql (.t 36) (.v (.int .i64 4)), none, []⟩,
                     ⟨(some 50), .mv (.t 52), none, [0]⟩])
                (.cond (.t 50)
                  (.skip)
                  (.reg false [⟨(some 53), .bin .eql (.t 36) (.v (.int .i64 5)), none, []⟩,
                       ⟨(some 50), .mv (.t 53), none, [0]⟩])))))
            (.cond (.t 50)
              (.seq (.reg true [⟨(some 54), .load (some 9) (.t 7), none, []⟩,
                    ⟨(some 55), .mv (.t 9), none, []⟩,
                    ⟨(some 56), .mv (.t 8), none, []⟩,
                    ⟨(some 57), .call 35 [(.t 56), (.v (.int .i64 2))], none, [2]⟩,
                    ⟨(some 58), .bin .add (.v (.int .i64 6)) (.t 57), none, [3]⟩,
                    ⟨(some 59), .call 54 [(.t 54), (.t 55), (.t 58), (.v (.int .i64 0))], none, [0, 1, 4, 3]⟩,
                    ⟨(some 60), .bslice 22 1 [(.slice none 0 0)] 1 [(0, 1, (.t 59))], none, [5]⟩,
                    ⟨(some 6), .mv (.t 60), none, [6, 5, 0, 1, 2, 3, 4, 5, 6]⟩])
               (.ret))
              (.seq (.seq (.reg false [⟨(some 62), .bin .eql (.t 36) (.v (.int .i64 6)), none, []⟩,
                     ⟨(some 61), .mv (.t 62), none, [0]⟩])
                (.cond (.t 61)
                  (.skip)
                  (.seq (.reg false [⟨(some 63), .bin .eql (.t 36) (.v (.int .i64 7)), none, []⟩,
                        ⟨(some 61), .mv (.t 63), none, [0]⟩])
                   (.cond (.t 61)
                     (.skip)
                     (.seq (.reg false [⟨(some 64), .bin .eql (.t 36) (.v (.int .i64 8)), none, []⟩,
                           ⟨(some 61), .mv (.t 64), none, [0]⟩])
                      (.cond (.t 61)
                        (.skip)
                        (.reg false [⟨(some 65), .bin .eql (.t 36) (.v (.int .i64 9)), none, []⟩,
                             ⟨(some 61), .mv (.t 65), none, [0]⟩])))))))
               (.cond (.t 61)
                 (.seq (.reg false [⟨(some 66), .mv (.t 8), none, []⟩,
                       ⟨(some 67), .call 35 [(.t 66), (.v (.int .i64 2))], none, [0]⟩,
                       ⟨(some 68), .bin .add (.v (.int .i64 10)) (.t 67), none, [1]⟩,
                       ⟨(some 10), .mv (.t 68), none, [2, 1, 0, 1, 2]⟩])
                  (.seq (.reg true [⟨(some 69), .load (some 9) (.t 7), none, []⟩,
                        ⟨(some 70), .mv (.t 9), none, []⟩,
                        ⟨(some 71), .mv (.t 10), none, []⟩,
                        ⟨(some 72), .call 54 [(.t 69), (.t 70), (.t 71), (.v (.int .i64 0))], none, [0, 1, 2]⟩,
                        ⟨(some 73), .load (some 9) (.t 7), none, []⟩,
                        ⟨(some 74), .mv (.t 10), none, []⟩,
                        ⟨(some 75), .call 54 [(.t 73), (.v (.int .i64 7)), (.t 74), (.v (.int .i64 0))], none, [4, 5, 3]⟩,
                        ⟨(some 76), .load (some 9) (.t 7), none, []⟩,
                        ⟨(some 77), .mv (.t 10), none, []⟩,
                        ⟨(some 78), .call 54 [(.t 76), (.v (.int .i64 9)), (.t 77), (.v (.int .i64 0))], none, [7, 8, 6]⟩,
                        ⟨(some 79), .bslice 22 1 [(.slice none 0 0), (.slice none 0 0), (.slice none 0 0)] 3 [(0, 1, (.t 72)), (1, 1, (.t 75)), (2, 1, (.t 78))], none, [3, 6, 9]⟩,
                        ⟨(some 6), .mv (.t 79), none, [10, 9, 0, 1, 2, 3, 4, 5, 6, 7, 8, 9, 10]⟩])
                   (.ret)))
                 (.seq (.seq (.reg false [⟨(some 81), .bin .eql (.t 36) (.v (.int .i64 12)), none, []⟩,
                        ⟨(some 80), .mv (.t 81), none, [0]⟩])
                   (.cond (.t 80)
                     (.skip)
                     (.reg false [⟨(some 82), .bin .eql (.t 36) (.v (.int .i64 13)), none, []⟩,
                          ⟨(some 80), .mv (.t 82), none, [0]⟩])))
                  (.cond (.t 80)
                    (.seq (.reg false [⟨(some 83), .mv (.t 8), none, []⟩,
                          ⟨(some 84), .call 35 [(.t 83), (.v (.int .i64 2))], none, [0]⟩,
                          ⟨(some 85), .bin .add (.v (.int .i64 20)) (.t 84), none, [1]⟩,
                          ⟨(some 11), .mv (.t 85), none, [2, 1, 0, 1, 2]⟩])
                     (.seq (.reg true [⟨(some 86), .load (some 9) (.t 7), none, []⟩,
                           ⟨(some 87), .mv (.t 9), none, []⟩,
                           ⟨(some 88), .mv (.t 11), none, []⟩,
                           ⟨(some 89), .call 54 [(.t 86), (.t 87), (.t 88), (.v (.int .i64 0))], none, [0, 1, 2]⟩,
                           ⟨(some 90), .load (some 9) (.t 7), none, []⟩,
                           ⟨(some 91), .mv (.t 9), none, []⟩,
                           ⟨(some 92), .bin .sub (.v (.int .i64 25)) (.t 91), none, [5]⟩,
                           ⟨(some 93), .mv (.t 11), none, []⟩,
                           ⟨(some 94), .call 54 [(.t 90), (.t 92), (.t 93), (.v (.int .i64 0))], none, [4, 6, 7, 3]⟩,
                           ⟨(some 95), .bslice 22 1 [(.slice none 0 0), (.slice none 0 0)] 2 [(0, 1, (.t 89)), (1, 1, (.t 94))], none, [3, 8]⟩,
                           ⟨(some 6), .mv (.t 95), none, [9, 8, 0, 1, 2, 3, 4, 5, 6, 7, 8, 9]⟩])
                      (.ret)))
                    (.seq (.reg false [⟨(some 97), .bin .eql (.t 36) (.v (.int .i64 14)), none, []⟩,
                          ⟨(some 96), .mv (.t 97), none, [0]⟩])
                     (.cond (.t 96)
                       (.seq (.reg false [⟨(some 98), .fld 1 (.t 3), none, []⟩,
                             ⟨(some 99), .load none (.t 98), none, [0]⟩,
                             ⟨(some 100), .fld 4 (.t 7), none, [0, 1]⟩,
                             ⟨none, .store 1 (.t 100) (.t 99), none, [2, 1, 0, 1]⟩])
                        (.seq (.reg false [⟨(some 101), .load (some 9) (.t 7), none, []⟩,
                              ⟨(some 102), .call 54 [(.t 101), (.v (.int .i64 14)), (.v (.int .i64 0)), (.v (.int .i64 0))], none, [0]⟩,
                              ⟨(some 103), .bslice 22 1 [(.slice none 0 0)] 1 [(0, 1, (.t 102))], none, [1]⟩,
                              ⟨(some 6), .mv (.t 103), none, [2, 1, 0, 1, 2]⟩])
                         (.ret)))
                       (.skip)))))))))))))
      (.seq (.reg true [⟨(some 104), .load (some 9) (.t 3), none, []⟩,
            ⟨(some 105), .mv (.t 8), none, []⟩,
            ⟨(some 106), .call 35 [(.t 105), (.v (.int .i64 3))], none, [1]⟩,
            ⟨(some 107), .bin .add (.v (.int .i64 30)) (.t 106), none, [2]⟩,
            ⟨(some 108), .mv (.t 8), none, []⟩,
            ⟨(some 109), .call 35 [(.t 108), (.v (.int .i64 3))], none, [4, 2]⟩,
            ⟨(some 110), .call 55 [(.t 104), (.t 107), (.t 109)], none, [0, 3, 5, 5]⟩,
            ⟨(some 12), .new [(.int .i64 0), (.int .i64 0), (.int .i64 0), (.int .i64 0), (.bool false)], none, []⟩,
            ⟨none, .store 5 (.t 12) (.t 110), none, [7, 6, 6, 0, 1, 2, 3, 4, 5, 6, 7]⟩])
       (.seq (.reg false [⟨(some 111), .fld 1 (.t 12), none, []⟩,
             ⟨(some 112), .load none (.t 111), none, [0]⟩,
             ⟨(some 113), .fld 5 (.t 7), none, [0, 1]⟩,
             ⟨none, .store 1 (.t 113) (.t 112), none, [2, 1, 0, 1]⟩])
        (.seq (.seq (.reg false [⟨(some 114), .mv (.t 9), none, []⟩,
               ⟨(some 115), .bin .geq (.t 114) (.v (.int .i64 19)), none, [0]⟩])
          (.cond (.t 115)
            (.seq (.reg false [⟨(some 116), .load (some 9) (.t 7), none, []⟩,
                  ⟨(some 117), .mv (.t 9), none, []⟩,
                  ⟨(some 118), .fld 0 (.t 12), none, []⟩,
                  ⟨(some 119), .load none (.t 118), none, [2]⟩,
                  ⟨(some 120), .call 54 [(.t 116), (.t 117), (.t 119), (.v (.int .i64 0))], none, [0, 1, 3]⟩,
                  ⟨(some 121), .bslice 22 1 [(.slice none 0 0)] 1 [(0, 1, (.t 120))], none, [4]⟩,
                  ⟨(some 6), .mv (.t 121), none, [5, 4, 0, 1, 2, 3, 4, 5]⟩])
             (.ret))
            (.skip)))
         (.seq (.reg false [⟨(some 122), .fld 0 (.t 12), none, []⟩,
               ⟨(some 123), .load none (.t 122), none, [0]⟩,
               ⟨(some 124), .fld 2 (.t 7), none, [0, 1]⟩,
               ⟨none, .store 1 (.t 124) (.t 123), none, [2, 1, 0, 1]⟩])
          (.seq (.reg false [⟨(some 125), .load (some 9) (.t 7), none, []⟩,
                ⟨(some 13), .new [(.int .i64 0), (.int .i64 0), (.int .i64 0), (.int .i64 0), (.int .i64 0), (.int .i64 0), (.int .i64 0), (.int .i64 0), (.int .i64 0)], none, []⟩,
                ⟨none, .store 9 (.t 13) (.t 125), none, [1, 0, 0, 1]⟩])
           (.seq (.seq (.reg false [⟨(some 126), .fld 1 (.t 3), none, []⟩,
                  ⟨(some 127), .load none (.t 126), none, [0]⟩,
                  ⟨(some 128), .bin .gtr (.t 127) (.v (.int .i64 1)), none, [1]⟩])
             (.cond (.t 128)
               (.seq (.reg true [⟨(some 129), .mv (.t 2), none, []⟩,
                     ⟨(some 130), .bin .add (.t 129) (.v (.int .i64 1)), none, [0]⟩,
                     ⟨(some 131), .fld 4 (.t 4), none, []⟩,
                     ⟨(some 132), .load none (.t 131), none, [2]⟩,
                     ⟨(some 133), .fld 1 (.t 3), none, []⟩,
                     ⟨(some 134), .load none (.t 133), none, [4]⟩,
                     ⟨(some 135), .bin .sub (.t 134) (.v (.int .i64 1)), none, [5]⟩,
                     ⟨(some 136), .call 35 [(.t 132), (.t 135)], none, [3, 6]⟩,
                     ⟨(some 137), .bin .add (.t 130) (.t 136), none, [1, 7]⟩,
                     ⟨(some 138), .fld 1 (.t 3), none, []⟩,
                     ⟨(some 139), .load none (.t 138), none, [9]⟩,
                     ⟨(some 140), .bin .rem (.t 137) (.t 139), none, [8, 10]⟩,
                     ⟨(some 141), .fld 0 (.t 13), none, [0, 1, 2, 3, 4, 5, 6, 7, 8, 9, 10, 11]⟩,
                     ⟨none, .store 1 (.t 141) (.t 140), none, [12, 11, 7, 0, 1, 2, 3, 4, 5, 6, 7, 8, 9, 10, 11]⟩])
                (.reg false [⟨(some 142), .fld 7 (.t 13), none, []⟩,
                     ⟨(some 143), .load none (.t 142), none, [0]⟩,
                     ⟨(some 144), .bin .add (.t 143) (.v (.int .i64 1)), none, [1]⟩,
                     ⟨(some 145), .fld 7 (.t 13), none, [0, 1, 2]⟩,
                     ⟨none, .store 1 (.t 145) (.t 144), none, [3, 2, 0, 1, 2]⟩]))
               (.skip)))
            (.seq (.seq (.reg false [⟨(some 146), .mv (.t 9), none, []⟩,
                   ⟨(some 147), .bin .geq (.t 146) (.v (.int .i64 17)), none, [0]⟩])
              (.cond (.t 147)
                (.seq (.reg false [⟨(some 148), .fld 3 (.t 12), none, []⟩,
                      ⟨(some 149), .load none (.t 148), none, [0]⟩,
                      ⟨(some 14), .mv (.t 149), none, [1, 0, 1]⟩])
                 (.seq (.reg true [⟨(some 150), .load (some 9) (.t 7), none, []⟩,
                       ⟨(some 151), .mv (.t 14), none, []⟩,
                       ⟨(some 152), .call 56 [(.t 150), (.v (.int .i64 17)), (.t 151)], none, [0, 1]⟩,
                       ⟨(some 153), .load (some 9) (.t 7), none, []⟩,
                       ⟨(some 154), .mv (.t 14), none, []⟩,
                       ⟨(some 155), .call 56 [(.t 153), (.v (.int .i64 18)), (.t 154)], none, [3, 4, 2]⟩,
                       ⟨(some 156), .bslice 31 9 [(.int .i64 0), (.int .i64 0), (.int .i64 0), (.int .i64 0), (.int .i64 0), (.int .i64 0), (.int .i64 0), (.int .i64 0), (.int .i64 0), (.int .i64 0), (.int .i64 0), (.int .i64 0), (.int .i64 0), (.int .i64 0), (.int .i64 0), (.int .i64 0), (.int .i64 0), (.int .i64 0)] 2 [(0, 9, (.t 152)), (9, 9, (.t 155))], none, [2, 5]⟩,
                       ⟨(some 15), .mv (.t 156), none, [6, 5, 0, 1, 2, 3, 4, 5, 6]⟩])
                  (.seq (.reg true [⟨(some 157), .load (some 9) (.t 7), none, []⟩,
                        ⟨(some 158), .mv (.t 14), none, []⟩,
                        ⟨(some 159), .call 56 [(.t 157), (.v (.int .i64 17)), (.t 158)], none, [0, 1]⟩,
                        ⟨(some 160), .load (some 9) (.t 13), none, []⟩,
                        ⟨(some 161), .mv (.t 14), none, []⟩,
                        ⟨(some 162), .call 56 [(.t 160), (.v (.int .i64 15)), (.t 161)], none, [3, 4, 2]⟩,
                        ⟨(some 163), .load (some 9) (.t 7), none, []⟩,
                        ⟨(some 164), .mv (.t 14), none, []⟩,
                        ⟨(some 165), .call 56 [(.t 163), (.v (.int .i64 18)), (.t 164)], none, [6, 7, 5]⟩,
                        ⟨(some 166), .load (some 9) (.t 13), none, []⟩,
                        ⟨(some 167), .mv (.t 14), none, []⟩,
                        ⟨(some 168), .call 56 [(.t 166), (.v (.int .i64 16)), (.t 167)], none, [9, 10, 8]⟩,
                        ⟨(some 169), .bslice 31 9 [(.int .i64 0), (.int .i64 0), (.int .i64 0), (.int .i64 0), (.int .i64 0), (.int .i64 0), (.int .i64 0), (.int .i64 0), (.int .i64 0), (.int .i64 0), (.int .i64 0), (.int .i64 0), (.int .i64 0), (.int .i64 0), (.int .i64 0), (.int .i64 0), (.int .i64 0), (.int .i64 0), (.int .i64 0), (.int .i64 0), (.int .i64 0), (.int .i64 0), (.int .i64 0), (.int .i64 0), (.int .i64 0), (.int .i64 0), (.int .i64 0), (.int .i64 0), (.int .i64 0), (.int .i64 0), (.int .i64 0), (.int .i64 0), (.int .i64 0), (.int .i64 0), (.int .i64 0), (.int .i64 0)] 4 [(0, 9, (.t 159)), (9, 9, (.t 162)), (18, 9, (.t 165)), (27, 9, (.t 168))], none, [2, 5, 8, 11]⟩,
                        ⟨(some 16), .mv (.t 169), none, [12, 11, 0, 1, 2, 3, 4, 5, 6, 7, 8, 9, 10, 11, 12]⟩])
                   (.seq (.reg false [⟨(some 170), .mv (.t 15), none, []⟩,
                         ⟨(some 171), .mv (.t 16), none, []⟩,
                         ⟨(some 172), .bslice 22 1 [(.slice none 0 0), (.slice none 0 0)] 2 [(0, 1, (.t 170)), (1, 1, (.t 171))], none, [0, 1]⟩,
                         ⟨(some 6), .mv (.t 172), none, [2, 0, 1, 2]⟩])
                    (.ret)))))
                (.skip)))
             (.seq (.reg false [⟨(some 173), .fld 2 (.t 12), none, []⟩,
                   ⟨(some 174), .load none (.t 173), none, [0]⟩,
                   ⟨(some 17), .mv (.t 174), none, [1, 0, 1]⟩])
              (.seq (.reg true [⟨(some 175), .load (some 9) (.t 7), none, []⟩,
                    ⟨(some 176), .mv (.t 17), none, []⟩,
                    ⟨(some 177), .call 56 [(.t 175), (.v (.int .i64 15)), (.t 176)], none, [0, 1]⟩,
                    ⟨(some 178), .load (some 9) (.t 7), none, []⟩,
                    ⟨(some 179), .mv (.t 17), none, []⟩,
                    ⟨(some 180), .call 56 [(.t 178), (.v (.int .i64 16)), (.t 179)], none, [3, 4, 2]⟩,
                    ⟨(some 181), .bslice 31 9 [(.int .i64 0), (.int .i64 0), (.int .i64 0), (.int .i64 0), (.int .i64 0), (.int .i64 0), (.int .i64 0), (.int .i64 0), (.int .i64 0), (.int .i64 0), (.int .i64 0), (.int .i64 0), (.int .i64 0), (.int .i64 0), (.int .i64 0), (.int .i64 0), (.int .i64 0), (.int .i64 0)] 2 [(0, 9, (.t 177)), (9, 9, (.t 180))], none, [2, 5]⟩,
                    ⟨(some 18), .mv (.t 181), none, [6, 5, 0, 1, 2, 3, 4, 5, 6]⟩])
               (.seq (.reg true [⟨(some 182), .load (some 9) (.t 7), none, []⟩,
                     ⟨(some 183), .mv (.t 17), none, []⟩,
                     ⟨(some 184), .call 56 [(.t 182), (.v (.int .i64 15)), (.t 183)], none, [0, 1]⟩,
                     ⟨(some 185), .load (some 9) (.t 13), none, []⟩,
                     ⟨(some 186), .mv (.t 17), none, []⟩,
                     ⟨(some 187), .call 56 [(.t 185), (.v (.int .i64 17)), (.t 186)], none, [3, 4, 2]⟩,
                     ⟨(some 188), .load (some 9) (.t 13), none, []⟩,
                     ⟨(some 189), .mv (.t 17), none, []⟩,
                     ⟨(some 190), .call 56 [(.t 188), (.v (.int .i64 18)), (.t 189)], none, [6, 7, 5]⟩,
                     ⟨(some 191), .load (some 9) (.t 7), none, []⟩,
                     ⟨(some 192), .mv (.t 17), none, []⟩,
                     ⟨(some 193), .call 56 [(.t 191), (.v (.int .i64 16)), (.t 192)], none, [9, 10, 8]⟩,
                     ⟨(some 194), .bslice 31 9 [(.int .i64 0), (.int .i64 0), (.int .i64 0), (.int .i64 0), (.int .i64 0), (.int .i64 0), (.int .i64 0), (.int .i64 0), (.int .i64 0), (.int .i64 0), (.int .i64 0), (.int .i64 0), (.int .i64 0), (.int .i64 0), (.int .i64 0), (.int .i64 0), (.int .i64 0), (.int .i64 0), (.int .i64 0), (.int .i64 0), (.int .i64 0), (.int .i64 0), (.int .i64 0), (.int .i64 0), (.int .i64 0), (.int .i64 0), (.int .i64 0), (.int .i64 0), (.int .i64 0), (.int .i64 0), (.int .i64 0), (.int .i64 0), (.int .i64 0), (.int .i64 0), (.int .i64 0), (.int .i64 0)] 4 [(0, 9, (.t 184)), (9, 9, (.t 187)), (18, 9, (.t 190)), (27, 9, (.t 193))], none, [2, 5, 8, 11]⟩,
                     ⟨(some 19), .mv (.t 194), none, [12, 11, 0, 1, 2, 3, 4, 5, 6, 7, 8, 9, 10, 11, 12]⟩])
                (.seq (.reg false [⟨(some 195), .mv (.t 18), none, []⟩,
                      ⟨(some 196), .mv (.t 19), none, []⟩,
                      ⟨(some 197), .bslice 22 1 [(.slice none 0 0), (.slice none 0 0)] 2 [(0, 1, (.t 195)), (1, 1, (.t 196))], none, [0, 1]⟩,
                      ⟨(some 6), .mv (.t 197), none, [2, 0, 1, 2]⟩])
                 (.ret))))))))))))))))
def pr34 : List PR := [.t 6]
theorem bd34 : Try.f34.body = some (Try.f34.body.getD .skip) := by kernel_rfl
theorem cp34 : compC Try.prog Try.f34.ntmps eqsL (Try.f34.body.getD .skip) = some pc34 := by kernel_rfl
theorem sp34 [WInv] {env : Env} (hE : EnvOK Try.prog env) {R : List Pa → List Pa → Prop} (hR : ∀ ps rs, R ps rs → ps.length ≤ 198 ∧ pwp env pc34 (fun e s => (e = .normal ∨ e = .ret) ∧ s.res pr34 = some rs) (St.init ps)) : Spec Try.prog 34 R :=
  fn_sound hE eqsOK mixedOK Try.func34 bd34 cp34 (by kernel_rfl) (by kernel_rfl) hR

/-! (interleave/interleaveref30.State).add -/
def pc36 : PC :=
 .seq (.reg false [⟨(some 2), .box (.t 0), none, []⟩,
       ⟨(some 4), .new [(.int .i64 0), (.int .i64 0), (.slice none 0 0), (.slice none 0 0), (.slice none 0 0), (.slice none 0 0), (.int .i64 0), (.int .i64 0), (.int .i64 0)], none, []⟩,
       ⟨(some 5), .mv (.v (.bool false)), none, []⟩])
  (.seq (.seq (.reg false [⟨(some 6), .mv (.v (.int .i64 0)), none, []⟩])
    (.block 0 (.loop (.seq (.seq (.reg false [⟨(some 9), .mv (.t 6), none, []⟩,
             ⟨(some 10), .mv (.t 1), none, []⟩,
             ⟨(some 11), .len (.t 10), none, [1]⟩,
             ⟨(some 12), .bin .lss (.t 9) (.t 11), none, [0, 2]⟩])
        (.cond (.t 12)
          (.skip)
          (.exit 0)))
       (.seq (.block 1 (.seq (.reg true [⟨(some 16), .load (some 9) (.t 2), none, []⟩,
               ⟨(some 17), .mv (.t 1), none, []⟩,
               ⟨(some 18), .mv (.t 6), none, []⟩,
               ⟨(some 19), .ixs 9 (.t 17) (.t 18), none, [1, 2]⟩,
               ⟨(some 20), .load (some 9) (.t 19), none, [3]⟩,
               ⟨(some 21), .call 20 [(.t 16), (.t 20)], none, [0, 4]⟩,
               ⟨(some 15), .mv (.t 21), none, [5]⟩,
               ⟨(some 22), .ext (.t 15) 0, none, [6]⟩,
               ⟨(some 23), .ext (.t 15) 1, none, [6]⟩,
               ⟨(some 7), .new [(.int .i64 0), (.int .i64 0), (.slice none 0 0), (.slice none 0 0), (.slice none 0 0), (.slice none 0 0), (.int .i64 0), (.int .i64 0), (.int .i64 0)], none, []⟩,
               ⟨none, .store 9 (.t 7) (.t 22), none, [9, 7, 5, 0, 1, 2, 3, 4, 5, 6, 7, 9]⟩,
               ⟨(some 8), .mv (.t 23), none, [8, 10, 0, 1, 2, 3, 4, 5, 6, 7, 8, 9, 10]⟩])
          (.seq (.seq (.reg false [⟨(some 24), .mv (.t 8), none, []⟩,
                 ⟨(some 25), .un .not (.t 24), none, [0]⟩])
            (.cond (.t 25)
              (.seq (.reg false [⟨(some 26), .load (some 9) (.t 2), none, []⟩,
                    ⟨none, .store 9 (.t 4) (.t 26), none, [0, 0]⟩,
                    ⟨(some 5), .mv (.v (.bool false)), none, [1, 0, 1]⟩])
               (.ret))
              (.skip)))
           (.reg false [⟨(some 27), .load (some 9) (.t 7), none, []⟩,
                ⟨none, .store 9 (.t 2) (.t 27), none, [0, 0]⟩]))))
        (.reg false [⟨(some 13), .mv (.t 6), none, []⟩,
             ⟨(some 14), .bin .add (.t 13) (.v (.int .i64 1)), none, [0]⟩,
             ⟨(some 6), .mv (.t 14), none, [1, 0, 1]⟩]))))))
   (.seq (.reg true [⟨(some 28), .load (some 9) (.t 2), none, []⟩,
         ⟨(some 29), .fld 5 (.t 2), none, []⟩,
         ⟨(some 30), .load none (.t 29), none, [1]⟩,
         ⟨(some 31), .len (.t 30), none, [2]⟩,
         ⟨(some 32), .bin .eql (.t 31) (.v (.int .i64 0)), none, [3]⟩,
         ⟨none, .store 9 (.t 4) (.t 28), none, [0, 0]⟩,
         ⟨(some 5), .mv (.t 32), none, [4, 5, 0, 1, 2, 3, 4, 5]⟩])
    (.ret)))
def pr36 : List PR := [.c 4 (some 9), .t 5]
abbrev ms36_0 : List Nat := [9, 10, 11, 12, 16, 17, 18, 19, 20, 21, 15, 22, 23, 7, 8, 24, 25, 26, 5, 27, 13, 14, 6]
abbrev os36_0 : List Nat := [7, 4, 2]
theorem bd36 : Try.f36.body = some (Try.f36.body.getD .skip) := by kernel_rfl
theorem cp36 : compC Try.prog Try.f36.ntmps eqsL (Try.f36.body.getD .skip) = some pc36 := by kernel_rfl
theorem sp36 [WInv] {env : Env} (hE : EnvOK Try.prog env) {R : List Pa → List Pa → Prop} (hR : ∀ ps rs, R ps rs → ps.length ≤ 33 ∧ pwp env pc36 (fun e s => (e = .normal ∨ e = .ret) ∧ s.res pr36 = some rs) (St.init ps)) : Spec Try.prog 36 R :=
  fn_sound hE eqsOK mixedOK Try.func36 bd36 cp36 (by kernel_rfl) (by kernel_rfl) hR

/-! (interleave/interleaveref30.State).group -/
def pc38c0 : PC :=
 .seq (.reg false [⟨(some 92), .mv (.t 7), none, []⟩,
            ⟨(some 93), .fld 5 (.t 2), none, [0]⟩,
            ⟨none, .store 1 (.t 93) (.t 92), none, [1, 0, 0]⟩])
       (.seq (.reg false [⟨(some 94), .load (some 9) (.t 2), none, []⟩,
             ⟨(some 95), .load (some 9) (.t 3), none, []⟩,
             ⟨(some 96), .call 58 [(.t 94), (.t 95)], none, [0, 1]⟩,
             ⟨none, .store 9 (.t 4) (.t 96), none, [2, 2, 0, 1, 2]⟩,
             ⟨(some 5), .mv (.v (.bool true)), none, [3, 0, 1, 2, 3]⟩])
        (.ret))
def pc38c1 : PC :=
 .seq (.reg false [⟨(some 8), .mv (.v (.int .i64 1)), none, []⟩])
       (.block 0 (.loop (.seq (.seq (.reg false [⟨(some 65), .mv (.t 8), none, []⟩,
                ⟨(some 66), .fld 5 (.t 2), none, []⟩,
                ⟨(some 67), .load none (.t 66), none, [1]⟩,
                ⟨(some 68), .len (.t 67), none, [2]⟩,
                ⟨(some 69), .bin .lss (.t 65) (.t 68), none, [0, 3]⟩])
           (.cond (.t 69)
             (.skip)
             (.exit 0)))
          (.seq (.block 1 (.seq (.reg false [⟨(some 72), .fld 5 (.t 2), none, []⟩,
                  ⟨(some 73), .load none (.t 72), none, [0]⟩,
                  ⟨(some 74), .mv (.t 8), none, []⟩,
                  ⟨(some 75), .ixs 3 (.t 73) (.t 74), none, [1, 2]⟩,
                  ⟨(some 76), .load (some 3) (.t 75), none, [3]⟩,
                  ⟨(some 9), .new [(.int .i64 0), (.int .i64 0), (.int .i64 0)], none, []⟩,
                  ⟨none, .store 3 (.t 9) (.t 76), none, [5, 4, 0, 1, 2, 3, 4, 5]⟩])
             (.seq (.seq (.reg false [⟨(some 77), .fld 1 (.t 6), none, []⟩,
                    ⟨(some 78), .load none (.t 77), none, [0]⟩,
                    ⟨(some 79), .bin .lss (.t 78) (.v (.int .i64 0)), none, [1]⟩,
                    ⟨(some 80), .mv (.t 79), none, [2]⟩,
                    ⟨(some 81), .fld 1 (.t 9), (some (80, true)), [3]⟩,
                    ⟨(some 82), .load none (.t 81), (some (80, true)), [4, 3]⟩,
                    ⟨(some 83), .bin .lss (.t 82) (.v (.int .i64 0)), (some (80, true)), [5, 3]⟩,
                    ⟨(some 84), .pick (.t 80) (.t 83) (.v (.bool false)), none, [3, 6]⟩])
               (.cond (.t 84)
                 (.reg false [⟨(some 85), .fld 0 (.t 3), none, []⟩,
                      ⟨(some 86), .load none (.t 85), none, [0]⟩,
                      ⟨(some 87), .fld 1 (.t 9), none, [0, 1]⟩,
                      ⟨none, .store 1 (.t 87) (.t 86), none, [2, 1, 0, 1]⟩])
                 (.skip)))
              (.reg false [⟨(some 88), .mv (.t 7), none, []⟩,
                   ⟨(some 89), .load (some 3) (.t 9), none, []⟩,
                   ⟨(some 90), .bslice 83 3 [(.int .i64 0), (.int .i64 0), (.int .i64 0)] 1 [(0, 3, (.t 89))], none, [1]⟩,
                   ⟨(some 91), .append 83 3 24 (.t 88) (.t 90), none, [0, 2]⟩,
                   ⟨(some 7), .mv (.t 91), none, [3, 3, 0, 1, 2, 3]⟩]))))
           (.reg false [⟨(some 70), .mv (.t 8), none, []⟩,
                ⟨(some 71), .bin .add (.t 70) (.v (.int .i64 1)), none, [0]⟩,
                ⟨(some 8), .mv (.t 71), none, [1, 0, 1]⟩])))))
def pc38c2 : PC :=
 .seq (.reg false [⟨(some 7), .nilRow 83 3, none, []⟩])
     (.seq (pc38c1)
      (pc38c0))
def pc38c3 : PC :=
 .reg false [⟨(some 14), .fld 1 (.t 3), none, []⟩,
          ⟨(some 15), .load none (.t 14), none, [0]⟩,
          ⟨(some 16), .fld 0 (.t 6), none, []⟩,
          ⟨(some 17), .load none (.t 16), none, [2]⟩,
          ⟨(some 18), .bin .neq (.t 15) (.t 17), none, [1, 3]⟩,
          ⟨(some 19), .mv (.t 18), none, [4]⟩,
          ⟨(some 20), .fld 2 (.t 3), (some (19, false)), [5]⟩,
          ⟨(some 21), .load none (.t 20), (some (19, false)), [6, 5]⟩,
          ⟨(some 22), .fld 6 (.t 2), (some (19, false)), [5]⟩,
          ⟨(some 23), .load none (.t 22), (some (19, false)), [8, 5]⟩,
          ⟨(some 24), .bin .neq (.t 21) (.t 23), (some (19, false)), [7, 9, 5]⟩,
          ⟨(some 25), .pick (.t 19) (.v (.bool true)) (.t 24), none, [5, 10]⟩,
          ⟨(some 26), .mv (.t 25), none, [11, 5]⟩,
          ⟨(some 27), .fld 4 (.t 3), (some (26, false)), [12]⟩,
          ⟨(some 28), .load none (.t 27), (some (26, false)), [13, 12]⟩,
          ⟨(some 29), .fld 7 (.t 2), (some (26, false)), [12]⟩,
          ⟨(some 30), .load none (.t 29), (some (26, false)), [15, 12]⟩,
          ⟨(some 31), .bin .neq (.t 28) (.t 30), (some (26, false)), [14, 16, 12]⟩,
          ⟨(some 32), .pick (.t 26) (.v (.bool true)) (.t 31), none, [12, 17]⟩,
          ⟨(some 33), .mv (.t 32), none, [18, 12]⟩,
          ⟨(some 34), .fld 5 (.t 3), (some (33, false)), [19]⟩,
          ⟨(some 35), .load none (.t 34), (some (33, false)), [20, 19]⟩,
          ⟨(some 36), .fld 8 (.t 2), (some (33, false)), [19]⟩,
          ⟨(some 37), .load none (.t 36), (some (33, false)), [22, 19]⟩,
          ⟨(some 38), .bin .neq (.t 35) (.t 37), (some (33, false)), [21, 23, 19]⟩,
          ⟨(some 39), .pick (.t 33) (.v (.bool true)) (.t 38), none, [19, 24]⟩,
          ⟨(some 40), .mv (.t 39), none, [25, 19]⟩,
          ⟨(some 41), .fld 1 (.t 6), (some (40, false)), [26]⟩,
          ⟨(some 42), .load none (.t 41), (some (40, false)), [27, 26]⟩,
          ⟨(some 43), .bin .geq (.t 42) (.v (.int .i64 0)), (some (40, false)), [28, 26]⟩,
          ⟨(some 44), .mv (.t 43), (some (40, false)), [29, 26, 26]⟩,
          ⟨(some 45), .fld 0 (.t 3), (some (44, true)), [30]⟩,
          ⟨(some 46), .load none (.t 45), (some (44, true)), [31, 30]⟩,
          ⟨(some 47), .fld 1 (.t 6), (some (44, true)), [30]⟩,
          ⟨(some 48), .load none (.t 47), (some (44, true)), [33, 30]⟩,
          ⟨(some 49), .bin .neq (.t 46) (.t 48), (some (44, true)), [32, 34, 30]⟩,
          ⟨(some 50), .pick (.t 44) (.t 49) (.v (.bool false)), (some (40, false)), [30, 35, 26]⟩,
          ⟨(some 51), .pick (.t 40) (.v (.bool true)) (.t 50), none, [26, 36]⟩,
          ⟨(some 52), .mv (.t 51), none, [37, 30]⟩,
          ⟨(some 53), .fld 1 (.t 6), (some (52, false)), [38]⟩,
          ⟨(some 54), .load none (.t 53), (some (52, false)), [39, 38]⟩,
          ⟨(some 55), .bin .lss (.t 54) (.v (.int .i64 0)), (some (52, false)), [40, 38]⟩,
          ⟨(some 56), .mv (.t 55), (some (52, false)), [41, 38, 38]⟩,
          ⟨(some 57), .fld 0 (.t 3), (some (56, true)), [42]⟩,
          ⟨(some 58), .load none (.t 57), (some (56, true)), [43, 42]⟩,
          ⟨(some 59), .fld 2 (.t 6), (some (56, true)), [42]⟩,
          ⟨(some 60), .load none (.t 59), (some (56, true)), [45, 42]⟩,
          ⟨(some 61), .bin .eql (.t 58) (.t 60), (some (56, true)), [44, 46, 42]⟩,
          ⟨(some 62), .pick (.t 56) (.t 61) (.v (.bool false)), (some (52, false)), [42, 47, 38]⟩,
          ⟨(some 63), .pick (.t 52) (.v (.bool true)) (.t 62), none, [38, 48]⟩]
def pc38c4 : PC :=
 .seq (pc38c3)
     (.cond (.t 63)
       (.seq (.reg false [⟨(some 64), .load (some 9) (.t 2), none, []⟩,
             ⟨none, .store 9 (.t 4) (.t 64), none, [0, 0]⟩,
             ⟨(some 5), .mv (.v (.bool false)), none, [1, 0, 1]⟩])
        (.ret))
       (.skip))
def pc38 : PC :=
 .seq (.reg false [⟨(some 2), .box (.t 0), none, []⟩,
       ⟨(some 3), .box (.t 1), none, []⟩,
       ⟨(some 4), .new [(.int .i64 0), (.int .i64 0), (.slice none 0 0), (.slice none 0 0), (.slice none 0 0), (.slice none 0 0), (.int .i64 0), (.int .i64 0), (.int .i64 0)], none, []⟩,
       ⟨(some 5), .mv (.v (.bool false)), none, []⟩])
  (.seq (.reg false [⟨(some 10), .fld 5 (.t 2), none, []⟩,
        ⟨(some 11), .load none (.t 10), none, [0]⟩,
        ⟨(some 12), .ixs 3 (.t 11) (.v (.int .i64 0)), none, [1]⟩,
        ⟨(some 13), .load (some 3) (.t 12), none, [2]⟩,
        ⟨(some 6), .new [(.int .i64 0), (.int .i64 0), (.int .i64 0)], none, []⟩,
        ⟨none, .store 3 (.t 6) (.t 13), none, [4, 3, 0, 1, 2, 3, 4]⟩])
   (.seq (pc38c4)
    (pc38c2)))
def pr38 : List PR := [.c 4 (some 9), .t 5]
abbrev ms38_0 : List Nat := [65, 66, 67, 68, 69, 72, 73, 74, 75, 76, 9, 77, 78, 79, 80, 81, 82, 83, 84, 85, 86, 87, 88, 89, 90, 91, 7, 70, 71, 8]
abbrev os38_0 : List Nat := [9, 90, 7]
theorem bd38 : Try.f38.body = some (Try.f38.body.getD .skip) := by kernel_rfl
theorem cp38 : compC Try.prog Try.f38.ntmps eqsL (Try.f38.body.getD .skip) = some pc38 := by kernel_rfl
theorem sp38 [WInv] {env : Env} (hE : EnvOK Try.prog env) {R : List Pa → List Pa → Prop} (hR : ∀ ps rs, R ps rs → ps.length ≤ 97 ∧ pwp env pc38 (fun e s => (e = .normal ∨ e = .ret) ∧ s.res pr38 = some rs) (St.init ps)) : Spec Try.prog 38 R :=
  fn_sound hE eqsOK mixedOK Try.func38 bd38 cp38 (by kernel_rfl) (by kernel_rfl) hR

/-! (interleave/interleaveref30.State).transfer -/
def pc40c0 : PC :=
 .seq (.reg false [⟨(some 59), .fld 1 (.t 6), none, []⟩,
                   ⟨(some 60), .load none (.t 59), none, [0]⟩,
                   ⟨(some 61), .bin .eql (.t 60) (.v (.int .i64 0)), none, [1]⟩,
                   ⟨(some 62), .mv (.t 61), none, [2]⟩,
                   ⟨(some 63), .mv (.t 7), (some (62, true)), [3]⟩,
                   ⟨(some 64), .pick (.t 62) (.t 63) (.v (.bool false)), none, [3, 4]⟩])
              (.cond (.t 64)
                (.seq (.reg false [⟨(some 65), .load (some 9) (.t 2), none, []⟩,
                      ⟨(some 66), .load (some 9) (.t 3), none, []⟩,
                      ⟨(some 67), .fld 0 (.t 3), none, []⟩,
                      ⟨(some 68), .load none (.t 67), none, [2]⟩,
                      ⟨(some 69), .build [(.int .i64 0), (.int .i64 0), (.int .i64 0)] [(0, 1, (.v (.int .i64 17))), (1, 1, (.v (.int .i64 (-1)))), (2, 1, (.t 68))], none, [3]⟩,
                      ⟨(some 70), .build [(.int .i64 0), (.int .i64 0), (.int .i64 0)] [(0, 1, (.v (.int .i64 18))), (1, 1, (.v (.int .i64 (-1))))], none, []⟩,
                      ⟨(some 71), .fld 0 (.t 3), none, []⟩,
                      ⟨(some 72), .load none (.t 71), none, [6]⟩,
                      ⟨(some 73), .build [(.int .i64 0), (.int .i64 0), (.int .i64 0)] [(0, 1, (.v (.int .i64 16))), (1, 1, (.t 72))], none, [7]⟩,
                      ⟨(some 74), .bslice 83 3 [(.int .i64 0), (.int .i64 0), (.int .i64 0), (.int .i64 0), (.int .i64 0), (.int .i64 0), (.int .i64 0), (.int .i64 0), (.int .i64 0)] 3 [(0, 3, (.t 69)), (3, 3, (.t 70)), (6, 3, (.t 73))], none, [4, 5, 8]⟩,
                      ⟨(some 75), .call 59 [(.t 65), (.t 66), (.t 74)], none, [0, 1, 9]⟩,
                      ⟨(some 76), .ext (.t 75) 0, none, [10]⟩,
                      ⟨(some 77), .ext (.t 75) 1, none, [10]⟩,
                      ⟨none, .store 9 (.t 4) (.t 76), none, [11, 10, 0, 1, 2, 3, 4, 5, 6, 7, 8, 9, 10, 11, 12]⟩,
                      ⟨(some 5), .mv (.t 77), none, [12, 13, 0, 1, 2, 3, 4, 5, 6, 7, 8, 9, 10, 11, 12, 13]⟩])
                 (.ret))
                (.skip))
def pc40c1 : PC :=
 .seq (.reg false [⟨(some 100), .fld 4 (.t 6), none, []⟩,
                      ⟨(some 101), .load none (.t 100), none, [0]⟩,
                      ⟨(some 102), .un .not (.t 101), none, [1]⟩,
                      ⟨(some 103), .mv (.t 102), none, [2]⟩,
                      ⟨(some 104), .mv (.t 7), (some (103, true)), [3]⟩,
                      ⟨(some 105), .pick (.t 103) (.t 104) (.v (.bool false)), none, [3, 4]⟩])
                 (.cond (.t 105)
                   (.seq (.reg false [⟨(some 106), .load (some 9) (.t 2), none, []⟩,
                         ⟨(some 107), .load (some 9) (.t 3), none, []⟩,
                         ⟨(some 108), .fld 0 (.t 3), none, []⟩,
                         ⟨(some 109), .load none (.t 108), none, [2]⟩,
                         ⟨(some 110), .build [(.int .i64 0), (.int .i64 0), (.int .i64 0)] [(0, 1, (.v (.int .i64 15))), (1, 1, (.v (.int .i64 (-1)))), (2, 1, (.t 109))], none, [3]⟩,
                         ⟨(some 111), .fld 0 (.t 3), none, []⟩,
                         ⟨(some 112), .load none (.t 111), none, [5]⟩,
                         ⟨(some 113), .build [(.int .i64 0), (.int .i64 0), (.int .i64 0)] [(0, 1, (.v (.int .i64 18))), (1, 1, (.t 112))], none, [6]⟩,
                         ⟨(some 114), .build [(.int .i64 0), (.int .i64 0), (.int .i64 0)] [(0, 1, (.v (.int .i64 16))), (1, 1, (.v (.int .i64 (-1))))], none, []⟩,
                         ⟨(some 115), .bslice 83 3 [(.int .i64 0), (.int .i64 0), (.int .i64 0), (.int .i64 0), (.int .i64 0), (.int .i64 0), (.int .i64 0), (.int .i64 0), (.int .i64 0)] 3 [(0, 3, (.t 110)), (3, 3, (.t 113)), (6, 3, (.t 114))], none, [4, 7, 8]⟩,
                         ⟨(some 116), .call 59 [(.t 106), (.t 107), (.t 115)], none, [0, 1, 9]⟩,
                         ⟨(some 117), .ext (.t 116) 0, none, [10]⟩,
                         ⟨(some 118), .ext (.t 116) 1, none, [10]⟩,
                         ⟨none, .store 9 (.t 4) (.t 117), none, [11, 10, 0, 1, 2, 3, 4, 5, 6, 7, 8, 9, 10, 11, 12]⟩,
                         ⟨(some 5), .mv (.t 118), none, [12, 13, 0, 1, 2, 3, 4, 5, 6, 7, 8, 9, 10, 11, 12, 13]⟩])
                    (.ret))
                   (.skip))
def pc40c2 : PC :=
 .seq (.reg false [⟨(some 23), .fld 1 (.t 3), none, []⟩,
            ⟨(some 24), .load none (.t 23), none, [0]⟩])
       (.block 0 (.seq (.reg false [⟨(some 26), .bin .eql (.t 24) (.v (.int .i64 15)), none, []⟩,
              ⟨(some 25), .mv (.t 26), none, [0]⟩])
         (.cond (.t 25)
           (.seq (.seq (.reg false [⟨(some 27), .fld 4 (.t 3), none, []⟩,
                  ⟨(some 28), .load none (.t 27), none, [0]⟩,
                  ⟨(some 29), .fld 2 (.t 6), none, []⟩,
                  ⟨(some 30), .load none (.t 29), none, [2]⟩,
                  ⟨(some 31), .bin .neq (.t 28) (.t 30), none, [1, 3]⟩,
                  ⟨(some 32), .mv (.t 31), none, [4]⟩,
                  ⟨(some 33), .fld 4 (.t 6), (some (32, false)), [5]⟩,
                  ⟨(some 34), .load none (.t 33), (some (32, false)), [6, 5]⟩,
                  ⟨(some 35), .pick (.t 32) (.v (.bool true)) (.t 34), none, [5, 7]⟩])
             (.cond (.t 35)
               (.seq (.reg false [⟨(some 36), .load (some 9) (.t 2), none, []⟩,
                     ⟨none, .store 9 (.t 4) (.t 36), none, [0, 0]⟩,
                     ⟨(some 5), .mv (.v (.bool false)), none, [1, 0, 1]⟩])
                (.ret))
               (.skip)))
            (.seq (.seq (.reg false [⟨(some 37), .fld 1 (.t 6), none, []⟩,
                   ⟨(some 38), .load none (.t 37), none, [0]⟩,
                   ⟨(some 39), .bin .gtr (.t 38) (.v (.int .i64 0)), none, [1]⟩,
                   ⟨(some 40), .mv (.t 39), none, [2]⟩,
                   ⟨(some 41), .fld 2 (.t 6), (some (40, true)), [3]⟩,
                   ⟨(some 42), .load none (.t 41), (some (40, true)), [4, 3]⟩,
                   ⟨(some 43), .fld 3 (.t 6), (some (40, true)), [3]⟩,
                   ⟨(some 44), .load none (.t 43), (some (40, true)), [6, 3]⟩,
                   ⟨(some 45), .bin .sub (.t 42) (.t 44), (some (40, true)), [5, 7, 3]⟩,
                   ⟨(some 46), .fld 1 (.t 6), (some (40, true)), [3]⟩,
                   ⟨(some 47), .load none (.t 46), (some (40, true)), [9, 3]⟩,
                   ⟨(some 48), .bin .lss (.t 45) (.t 47), (some (40, true)), [8, 10, 3]⟩,
                   ⟨(some 49), .pick (.t 40) (.t 48) (.v (.bool false)), none, [3, 11]⟩])
              (.cond (.t 49)
                (.seq (.reg false [⟨(some 50), .load (some 9) (.t 2), none, []⟩,
                      ⟨(some 51), .load (some 9) (.t 3), none, []⟩,
                      ⟨(some 52), .fld 0 (.t 3), none, []⟩,
                      ⟨(some 53), .load none (.t 52), none, [2]⟩,
                      ⟨(some 54), .build [(.int .i64 0), (.int .i64 0), (.int .i64 0)] [(0, 1, (.v (.int .i64 16))), (1, 1, (.t 53))], none, [3]⟩,
                      ⟨(some 55), .bslice 83 3 [(.int .i64 0), (.int .i64 0), (.int .i64 0)] 1 [(0, 3, (.t 54))], none, [4]⟩,
                      ⟨(some 56), .call 59 [(.t 50), (.t 51), (.t 55)], none, [0, 1, 5]⟩,
                      ⟨(some 57), .ext (.t 56) 0, none, [6]⟩,
                      ⟨(some 58), .ext (.t 56) 1, none, [6]⟩,
                      ⟨none, .store 9 (.t 4) (.t 57), none, [7, 6, 0, 1, 2, 3, 4, 5, 6, 7, 8]⟩,
                      ⟨(some 5), .mv (.t 58), none, [8, 9, 0, 1, 2, 3, 4, 5, 6, 7, 8, 9]⟩])
                 (.ret))
                (.skip)))
             (pc40c0)))
           (.seq (.reg false [⟨(some 79), .bin .eql (.t 24) (.v (.int .i64 17)), none, []⟩,
                 ⟨(some 78), .mv (.t 79), none, [0]⟩])
            (.cond (.t 78)
              (.seq (.seq (.reg false [⟨(some 80), .fld 4 (.t 3), none, []⟩,
                     ⟨(some 81), .load none (.t 80), none, [0]⟩,
                     ⟨(some 82), .fld 3 (.t 6), none, []⟩,
                     ⟨(some 83), .load none (.t 82), none, [2]⟩,
                     ⟨(some 84), .bin .neq (.t 81) (.t 83), none, [1, 3]⟩])
                (.cond (.t 84)
                  (.seq (.reg false [⟨(some 85), .load (some 9) (.t 2), none, []⟩,
                        ⟨none, .store 9 (.t 4) (.t 85), none, [0, 0]⟩,
                        ⟨(some 5), .mv (.v (.bool false)), none, [1, 0, 1]⟩])
                   (.ret))
                  (.skip)))
               (.seq (.seq (.reg false [⟨(some 86), .fld 2 (.t 6), none, []⟩,
                      ⟨(some 87), .load none (.t 86), none, [0]⟩,
                      ⟨(some 88), .fld 3 (.t 6), none, []⟩,
                      ⟨(some 89), .load none (.t 88), none, [2]⟩,
                      ⟨(some 90), .bin .gtr (.t 87) (.t 89), none, [1, 3]⟩])
                 (.cond (.t 90)
                   (.seq (.reg false [⟨(some 91), .load (some 9) (.t 2), none, []⟩,
                         ⟨(some 92), .load (some 9) (.t 3), none, []⟩,
                         ⟨(some 93), .fld 0 (.t 3), none, []⟩,
                         ⟨(some 94), .load none (.t 93), none, [2]⟩,
                         ⟨(some 95), .build [(.int .i64 0), (.int .i64 0), (.int .i64 0)] [(0, 1, (.v (.int .i64 18))), (1, 1, (.t 94))], none, [3]⟩,
                         ⟨(some 96), .bslice 83 3 [(.int .i64 0), (.int .i64 0), (.int .i64 0)] 1 [(0, 3, (.t 95))], none, [4]⟩,
                         ⟨(some 97), .call 59 [(.t 91), (.t 92), (.t 96)], none, [0, 1, 5]⟩,
                         ⟨(some 98), .ext (.t 97) 0, none, [6]⟩,
                         ⟨(some 99), .ext (.t 97) 1, none, [6]⟩,
                         ⟨none, .store 9 (.t 4) (.t 98), none, [7, 6, 0, 1, 2, 3, 4, 5, 6, 7, 8]⟩,
                         ⟨(some 5), .mv (.t 99), none, [8, 9, 0, 1, 2, 3, 4, 5, 6, 7, 8, 9]⟩])
                    (.ret))
                   (.skip)))
                (pc40c1)))
              (.seq (.reg false [⟨(some 120), .bin .eql (.t 24) (.v (.int .i64 19)), none, []⟩,
                    ⟨(some 119), .mv (.t 120), none, [0]⟩])
               (.cond (.t 119)
                 (.seq (.reg false [⟨(some 121), .fld 4 (.t 6), none, []⟩,
                       ⟨(some 122), .load none (.t 121), none, [0]⟩,
                       ⟨(some 123), .un .not (.t 122), none, [1]⟩])
                  (.cond (.t 123)
                    (.seq (.reg false [⟨(some 124), .fld 4 (.t 6), none, []⟩,
                          ⟨none, .store 1 (.t 124) (.v (.bool true)), none, [0]⟩])
                     (.seq (.reg false [⟨(some 125), .load (some 9) (.t 2), none, []⟩,
                           ⟨(some 126), .load (some 5) (.t 6), none, []⟩,
                           ⟨(some 127), .call 60 [(.t 125), (.t 126)], none, [0, 1]⟩,
                           ⟨none, .store 9 (.t 4) (.t 127), none, [2, 2, 0, 1, 2]⟩,
                           ⟨(some 5), .mv (.v (.bool true)), none, [3, 0, 1, 2, 3]⟩])
                      (.ret)))
                    (.skip)))
                 (.seq (.reg false [⟨(some 129), .bin .eql (.t 24) (.v (.int .i64 20)), none, []⟩,
                       ⟨(some 128), .mv (.t 129), none, [0]⟩])
                  (.cond (.t 128)
                    (.seq (.reg true [⟨(some 130), .load (some 9) (.t 2), none, []⟩,
                          ⟨(some 131), .fld 4 (.t 6), none, []⟩,
                          ⟨(some 132), .load none (.t 131), none, [1]⟩,
                          ⟨(some 133), .mv (.t 132), none, [2]⟩,
                          ⟨(some 134), .fld 2 (.t 6), (some (133, true)), [3]⟩,
                          ⟨(some 135), .load none (.t 134), (some (133, true)), [4, 3]⟩,
                          ⟨(some 136), .fld 3 (.t 6), (some (133, true)), [3]⟩,
                          ⟨(some 137), .load none (.t 136), (some (133, true)), [6, 3]⟩,
                          ⟨(some 138), .bin .eql (.t 135) (.t 137), (some (133, true)), [5, 7, 3]⟩,
                          ⟨(some 139), .pick (.t 133) (.t 138) (.v (.bool false)), none, [3, 8]⟩,
                          ⟨none, .store 9 (.t 4) (.t 130), none, [0, 3, 0]⟩,
                          ⟨(some 5), .mv (.t 139), none, [9, 10, 0, 1, 2, 3, 4, 5, 6, 7, 8, 9, 10]⟩])
                     (.ret))
                    (.skip))))))))))
def pc40 : PC :=
 .seq (.reg false [⟨(some 2), .box (.t 0), none, []⟩,
       ⟨(some 3), .box (.t 1), none, []⟩,
       ⟨(some 4), .new [(.int .i64 0), (.int .i64 0), (.slice none 0 0), (.slice none 0 0), (.slice none 0 0), (.slice none 0 0), (.int .i64 0), (.int .i64 0), (.int .i64 0)], none, []⟩,
       ⟨(some 5), .mv (.v (.bool false)), none, []⟩])
  (.seq (.reg false [⟨(some 8), .load (some 9) (.t 2), none, []⟩,
        ⟨(some 9), .fld 2 (.t 3), none, []⟩,
        ⟨(some 10), .load none (.t 9), none, [1]⟩,
        ⟨(some 11), .fld 5 (.t 3), none, []⟩,
        ⟨(some 12), .load none (.t 11), none, [3]⟩,
        ⟨(some 13), .call 55 [(.t 8), (.t 10), (.t 12)], none, [0, 2, 4]⟩,
        ⟨(some 6), .new [(.int .i64 0), (.int .i64 0), (.int .i64 0), (.int .i64 0), (.bool false)], none, []⟩,
        ⟨none, .store 5 (.t 6) (.t 13), none, [6, 5, 5, 0, 1, 2, 3, 4, 5, 6]⟩])
   (.seq (.seq (.reg false [⟨(some 14), .fld 1 (.t 6), none, []⟩,
          ⟨(some 15), .load none (.t 14), none, [0]⟩,
          ⟨(some 16), .fld 5 (.t 3), none, []⟩,
          ⟨(some 17), .load none (.t 16), none, [2]⟩,
          ⟨(some 18), .bin .neq (.t 15) (.t 17), none, [1, 3]⟩])
     (.cond (.t 18)
       (.seq (.reg false [⟨(some 19), .load (some 9) (.t 2), none, []⟩,
             ⟨none, .store 9 (.t 4) (.t 19), none, [0, 0]⟩,
             ⟨(some 5), .mv (.v (.bool false)), none, [1, 0, 1]⟩])
        (.ret))
       (.skip)))
    (.seq (.reg false [⟨(some 20), .fld 1 (.t 2), none, []⟩,
          ⟨(some 21), .load none (.t 20), none, [0]⟩,
          ⟨(some 22), .bin .gtr (.t 21) (.v (.int .i64 1)), none, [1]⟩,
          ⟨(some 7), .mv (.t 22), none, [2, 0, 1, 2]⟩])
     (.seq (pc40c2)
      (.seq (.reg false [⟨(some 140), .load (some 9) (.t 2), none, []⟩,
            ⟨none, .store 9 (.t 4) (.t 140), none, [0, 0]⟩,
            ⟨(some 5), .mv (.v (.bool false)), none, [1, 0, 1]⟩])
       (.ret))))))
def pr40 : List PR := [.c 4 (some 9), .t 5]
theorem bd40 : Try.f40.body = some (Try.f40.body.getD .skip) := by kernel_rfl
theorem cp40 : compC Try.prog Try.f40.ntmps eqsL (Try.f40.body.getD .skip) = some pc40 := by kernel_rfl
theorem sp40 [WInv] {env : Env} (hE : EnvOK Try.prog env) {R : List Pa → List Pa → Prop} (hR : ∀ ps rs, R ps rs → ps.length ≤ 141 ∧ pwp env pc40 (fun e s => (e = .normal ∨ e = .ret) ∧ s.res pr40 = some rs) (St.init ps)) : Spec Try.prog 40 R :=
  fn_sound hE eqsOK mixedOK Try.func40 bd40 cp40 (by kernel_rfl) (by kernel_rfl) hR

/-! (interleave/interleaveref30.State).other -/
def pc41 : PC :=
 .seq (.reg false [⟨(some 2), .box (.t 0), none, []⟩,
       ⟨(some 3), .box (.t 1), none, []⟩,
       ⟨(some 4), .new [(.int .i64 0), (.int .i64 0), (.slice none 0 0), (.slice none 0 0), (.slice none 0 0), (.slice none 0 0), (.int .i64 0), (.int .i64 0), (.int .i64 0)], none, []⟩,
       ⟨(some 5), .mv (.v (.bool false)), none, []⟩])
  (.seq (.reg false [⟨(some 10), .load (some 9) (.t 2), none, []⟩,
        ⟨(some 11), .fld 2 (.t 3), none, []⟩,
        ⟨(some 12), .load none (.t 11), none, [1]⟩,
        ⟨(some 13), .fld 3 (.t 3), none, []⟩,
        ⟨(some 14), .load none (.t 13), none, [3]⟩,
        ⟨(some 15), .call 61 [(.t 10), (.t 12), (.t 14)], none, [0, 2, 4]⟩,
        ⟨(some 6), .new [(.int .i64 0), (.int .i64 0), (.bool false), (.int .i64 0)], none, []⟩,
        ⟨none, .store 4 (.t 6) (.t 15), none, [6, 5, 5, 0, 1, 2, 3, 4, 5, 6]⟩])
   (.seq (.reg false [⟨(some 16), .fld 2 (.t 6), none, []⟩,
         ⟨(some 17), .load none (.t 16), none, [0]⟩,
         ⟨(some 18), .un .not (.t 17), none, [1]⟩,
         ⟨(some 7), .mv (.t 18), none, [2, 0, 1, 2]⟩])
    (.seq (.seq (.reg false [⟨(some 19), .fld 1 (.t 3), none, []⟩,
           ⟨(some 20), .load none (.t 19), none, [0]⟩])
      (.block 0 (.seq (.reg false [⟨(some 22), .bin .eql (.t 20) (.v (.int .i64 6)), none, []⟩,
             ⟨(some 21), .mv (.t 22), none, [0]⟩])
        (.cond (.t 21)
          (.seq (.reg false [⟨(some 23), .fld 2 (.t 6), none, []⟩,
                ⟨none, .store 1 (.t 23) (.v (.bool true)), none, [0]⟩])
           (.seq (.reg true [⟨(some 24), .load (some 9) (.t 2), none, []⟩,
                 ⟨(some 25), .load (some 4) (.t 6), none, []⟩,
                 ⟨(some 26), .call 62 [(.t 24), (.t 25)], none, [0, 1]⟩,
                 ⟨(some 27), .mv (.t 7), none, []⟩,
                 ⟨(some 28), .mv (.t 27), none, [3, 2]⟩,
                 ⟨(some 29), .fld 3 (.t 6), (some (28, true)), [4]⟩,
                 ⟨(some 30), .load none (.t 29), (some (28, true)), [5, 4]⟩,
                 ⟨(some 31), .bin .eql (.t 30) (.v (.int .i64 0)), (some (28, true)), [6, 4]⟩,
                 ⟨(some 32), .pick (.t 28) (.t 31) (.v (.bool false)), none, [4, 7]⟩,
                 ⟨none, .store 9 (.t 4) (.t 26), none, [2, 4, 0, 1, 2]⟩,
                 ⟨(some 5), .mv (.t 32), none, [8, 9, 0, 1, 2, 3, 4, 5, 6, 7, 8, 9]⟩])
            (.ret)))
          (.seq (.reg false [⟨(some 34), .bin .eql (.t 20) (.v (.int .i64 7)), none, []⟩,
                ⟨(some 33), .mv (.t 34), none, [0]⟩])
           (.cond (.t 33)
             (.seq (.reg false [⟨(some 35), .fld 2 (.t 6), none, []⟩,
                   ⟨none, .store 1 (.t 35) (.v (.bool false)), none, [0]⟩])
              (.seq (.reg false [⟨(some 36), .load (some 9) (.t 2), none, []⟩,
                    ⟨(some 37), .load (some 4) (.t 6), none, []⟩,
                    ⟨(some 38), .call 62 [(.t 36), (.t 37)], none, [0, 1]⟩,
                    ⟨(some 39), .mv (.t 7), none, []⟩,
                    ⟨(some 40), .un .not (.t 39), none, [3]⟩,
                    ⟨none, .store 9 (.t 4) (.t 38), none, [2, 2, 0, 1, 2]⟩,
                    ⟨(some 5), .mv (.t 40), none, [4, 5, 0, 1, 2, 3, 4, 5]⟩])
               (.ret)))
             (.seq (.reg false [⟨(some 42), .bin .eql (.t 20) (.v (.int .i64 8)), none, []⟩,
                   ⟨(some 41), .mv (.t 42), none, [0]⟩])
              (.cond (.t 41)
                (.seq (.reg false [⟨(some 43), .fld 3 (.t 6), none, []⟩,
                      ⟨(some 44), .load none (.t 43), none, [0]⟩,
                      ⟨(some 45), .bin .add (.t 44) (.v (.int .i64 1)), none, [1]⟩,
                      ⟨(some 46), .fld 3 (.t 6), none, [0, 1, 2]⟩,
                      ⟨none, .store 1 (.t 46) (.t 45), none, [3, 2, 0, 1, 2]⟩])
                 (.seq (.reg false [⟨(some 47), .load (some 9) (.t 2), none, []⟩,
                       ⟨(some 48), .load (some 4) (.t 6), none, []⟩,
                       ⟨(some 49), .call 62 [(.t 47), (.t 48)], none, [0, 1]⟩,
                       ⟨(some 50), .mv (.t 7), none, []⟩,
                       ⟨none, .store 9 (.t 4) (.t 49), none, [2, 2, 0, 1, 2]⟩,
                       ⟨(some 5), .mv (.t 50), none, [3, 4, 0, 1, 2, 3, 4]⟩])
                  (.ret)))
                (.seq (.reg false [⟨(some 52), .bin .eql (.t 20) (.v (.int .i64 9)), none, []⟩,
                      ⟨(some 51), .mv (.t 52), none, [0]⟩])
                 (.cond (.t 51)
                   (.seq (.reg false [⟨(some 53), .fld 3 (.t 6), none, []⟩,
                         ⟨(some 54), .load none (.t 53), none, [0]⟩,
                         ⟨(some 55), .bin .sub (.t 54) (.v (.int .i64 1)), none, [1]⟩,
                         ⟨(some 56), .fld 3 (.t 6), none, [0, 1, 2]⟩,
                         ⟨none, .store 1 (.t 56) (.t 55), none, [3, 2, 0, 1, 2]⟩])
                    (.seq (.reg true [⟨(some 57), .load (some 9) (.t 2), none, []⟩,
                          ⟨(some 58), .load (some 4) (.t 6), none, []⟩,
                          ⟨(some 59), .call 62 [(.t 57), (.t 58)], none, [0, 1]⟩,
                          ⟨(some 60), .fld 3 (.t 6), none, []⟩,
                          ⟨(some 61), .load none (.t 60), none, [3]⟩,
                          ⟨(some 62), .bin .geq (.t 61) (.v (.int .i64 0)), none, [4]⟩,
                          ⟨none, .store 9 (.t 4) (.t 59), none, [2, 2, 0, 1, 2]⟩,
                          ⟨(some 5), .mv (.t 62), none, [5, 6, 0, 1, 2, 3, 4, 5, 6]⟩])
                     (.ret)))
                   (.seq (.reg false [⟨(some 64), .bin .eql (.t 20) (.v (.int .i64 12)), none, []⟩,
                         ⟨(some 63), .mv (.t 64), none, [0]⟩])
                    (.cond (.t 63)
                      (.seq (.reg false [⟨(some 65), .load (some 9) (.t 2), none, []⟩,
                            ⟨(some 66), .fld 2 (.t 3), none, []⟩,
                            ⟨(some 67), .load none (.t 66), none, [1]⟩,
                            ⟨(some 68), .fld 3 (.t 3), none, []⟩,
                            ⟨(some 69), .load none (.t 68), none, [3]⟩,
                            ⟨(some 70), .call 63 [(.t 65), (.t 67), (.t 69)], none, [0, 2, 4]⟩,
                            ⟨(some 8), .mv (.t 70), none, [5, 5, 0, 1, 2, 3, 4, 5]⟩])
                       (.seq (.reg true [⟨(some 71), .bslice 48 2 [] 0 [], none, []⟩,
                             ⟨(some 72), .fld 4 (.t 2), none, []⟩,
                             ⟨(some 73), .load none (.t 72), none, [1]⟩,
                             ⟨(some 74), .append 48 2 16 (.t 71) (.t 73), none, [0, 2]⟩,
                             ⟨(some 75), .fld 2 (.t 3), none, []⟩,
                             ⟨(some 76), .load none (.t 75), none, [4]⟩,
                             ⟨(some 77), .fld 3 (.t 3), none, []⟩,
                             ⟨(some 78), .load none (.t 77), none, [6]⟩,
                             ⟨(some 79), .build [(.int .i64 0), (.int .i64 0)] [(0, 1, (.t 76)), (1, 1, (.t 78))], none, [5, 7]⟩,
                             ⟨(some 80), .bslice 48 2 [(.int .i64 0), (.int .i64 0)] 1 [(0, 2, (.t 79))], none, [8]⟩,
                             ⟨(some 81), .append 48 2 16 (.t 74) (.t 80), none, [3, 9, 3]⟩,
                             ⟨(some 82), .fld 4 (.t 2), none, [0, 1, 2, 3, 4, 5, 6, 7, 8, 9, 10]⟩,
                             ⟨none, .store 1 (.t 82) (.t 81), none, [11, 10, 10, 0, 1, 2, 3, 4, 5, 6, 7, 8, 9, 10]⟩])
                        (.seq (.reg false [⟨(some 83), .load (some 9) (.t 2), none, []⟩,
                              ⟨(some 84), .mv (.t 8), none, []⟩,
                              ⟨(some 85), .un .not (.t 84), none, [1]⟩,
                              ⟨none, .store 9 (.t 4) (.t 83), none, [0, 0]⟩,
                              ⟨(some 5), .mv (.t 85), none, [2, 3, 0, 1, 2, 3]⟩])
                         (.ret))))
                      (.seq (.reg false [⟨(some 87), .bin .eql (.t 20) (.v (.int .i64 13)), none, []⟩,
                            ⟨(some 86), .mv (.t 87), none, [0]⟩])
                       (.cond (.t 86)
                         (.seq (.reg true [⟨(some 88), .load (some 9) (.t 2), none, []⟩,
                               ⟨(some 89), .load (some 9) (.t 2), none, []⟩,
                               ⟨(some 90), .fld 2 (.t 3), none, []⟩,
                               ⟨(some 91), .load none (.t 90), none, [2]⟩,
                               ⟨(some 92), .fld 3 (.t 3), none, []⟩,
                               ⟨(some 93), .load none (.t 92), none, [4]⟩,
                               ⟨(some 94), .call 63 [(.t 89), (.t 91), (.t 93)], none, [1, 3, 5]⟩,
                               ⟨none, .store 9 (.t 4) (.t 88), none, [0, 6, 0]⟩,
                               ⟨(some 5), .mv (.t 94), none, [6, 7, 0, 1, 2, 3, 4, 5, 6, 7]⟩])
                          (.ret))
                         (.seq (.reg false [⟨(some 96), .bin .eql (.t 20) (.v (.int .i64 14)), none, []⟩,
                               ⟨(some 95), .mv (.t 96), none, [0]⟩])
                          (.cond (.t 95)
                            (.seq (.reg false [⟨(some 97), .fld 1 (.t 2), none, []⟩,
                                  ⟨(some 98), .load none (.t 97), none, [0]⟩,
                                  ⟨(some 9), .mv (.t 98), none, [1, 0, 1]⟩])
                             (.seq (.reg false [⟨(some 99), .fld 1 (.t 2), none, []⟩,
                                   ⟨(some 100), .load none (.t 99), none, [0]⟩,
                                   ⟨(some 101), .bin .add (.t 100) (.v (.int .i64 1)), none, [1]⟩,
                                   ⟨(some 102), .fld 1 (.t 2), none, [0, 1, 2]⟩,
                                   ⟨none, .store 1 (.t 102) (.t 101), none, [3, 2, 0, 1, 2]⟩])
                              (.seq (.reg true [⟨(some 103), .load (some 9) (.t 2), none, []⟩,
                                    ⟨(some 104), .fld 4 (.t 3), none, []⟩,
                                    ⟨(some 105), .load none (.t 104), none, [1]⟩,
                                    ⟨(some 106), .mv (.t 9), none, []⟩,
                                    ⟨(some 107), .bin .eql (.t 105) (.t 106), none, [2, 3]⟩,
                                    ⟨none, .store 9 (.t 4) (.t 103), none, [0, 0]⟩,
                                    ⟨(some 5), .mv (.t 107), none, [4, 5, 0, 1, 2, 3, 4, 5]⟩])
                               (.ret))))
                            (.skip)))))))))))))))))
     (.seq (.reg false [⟨(some 108), .load (some 9) (.t 2), none, []⟩,
           ⟨none, .store 9 (.t 4) (.t 108), none, [0, 0]⟩,
           ⟨(some 5), .mv (.v (.bool true)), none, [1, 0, 1]⟩])
      (.ret)))))
def pr41 : List PR := [.c 4 (some 9), .t 5]
theorem bd41 : Try.f41.body = some (Try.f41.body.getD .skip) := by kernel_rfl
theorem cp41 : compC Try.prog Try.f41.ntmps eqsL (Try.f41.body.getD .skip) = some pc41 := by kernel_rfl
theorem sp41 [WInv] {env : Env} (hE : EnvOK Try.prog env) {R : List Pa → List Pa → Prop} (hR : ∀ ps rs, R ps rs → ps.length ≤ 109 ∧ pwp env pc41 (fun e s => (e = .normal ∨ e = .ret) ∧ s.res pr41 = some rs) (St.init ps)) : Spec Try.prog 41 R :=
  fn_sound hE eqsOK mixedOK Try.func41 bd41 cp41 (by kernel_rfl) (by kernel_rfl) hR

/-! (interleave/interleaveref30.State).channel -/
def pc55 : PC :=
 .seq (.reg false [⟨(some 3), .box (.t 0), none, []⟩,
       ⟨(some 6), .new [(.int .i64 0), (.int .i64 0), (.int .i64 0), (.int .i64 0), (.bool false)], none, []⟩])
  (.seq (.seq (.reg false [⟨(some 7), .mv (.v (.int .i64 0)), none, []⟩])
    (.block 0 (.loop (.seq (.seq (.reg false [⟨(some 8), .mv (.t 7), none, []⟩,
             ⟨(some 9), .fld 2 (.t 3), none, []⟩,
             ⟨(some 10), .load none (.t 9), none, [1]⟩,
             ⟨(some 11), .len (.t 10), none, [2]⟩,
             ⟨(some 12), .bin .lss (.t 8) (.t 11), none, [0, 3]⟩])
        (.cond (.t 12)
          (.skip)
          (.exit 0)))
       (.seq (.block 1 (.seq (.reg false [⟨(some 15), .fld 2 (.t 3), none, []⟩,
               ⟨(some 16), .load none (.t 15), none, [0]⟩,
               ⟨(some 17), .mv (.t 7), none, []⟩,
               ⟨(some 18), .ixs 5 (.t 16) (.t 17), none, [1, 2]⟩,
               ⟨(some 19), .fld 0 (.t 18), none, [3]⟩,
               ⟨(some 20), .load none (.t 19), none, [4]⟩,
               ⟨(some 21), .mv (.t 1), none, []⟩,
               ⟨(some 22), .bin .eql (.t 20) (.t 21), none, [5, 6]⟩])
          (.cond (.t 22)
            (.seq (.reg false [⟨(some 23), .fld 2 (.t 3), none, []⟩,
                  ⟨(some 24), .load none (.t 23), none, [0]⟩,
                  ⟨(some 25), .mv (.t 7), none, []⟩,
                  ⟨(some 26), .ixs 5 (.t 24) (.t 25), none, [1, 2]⟩,
                  ⟨(some 27), .load (some 5) (.t 26), none, [3]⟩,
                  ⟨none, .store 5 (.t 6) (.t 27), none, [4, 0, 1, 2, 3, 4]⟩])
             (.ret))
            (.skip))))
        (.reg false [⟨(some 13), .mv (.t 7), none, []⟩,
             ⟨(some 14), .bin .add (.t 13) (.v (.int .i64 1)), none, [0]⟩,
             ⟨(some 7), .mv (.t 14), none, [1, 0, 1]⟩]))))))
   (.seq (.reg false [⟨(some 28), .mv (.t 1), none, []⟩,
         ⟨(some 29), .mv (.t 2), none, []⟩,
         ⟨(some 30), .build [(.int .i64 0), (.int .i64 0), (.int .i64 0), (.int .i64 0), (.bool false)] [(0, 1, (.t 28)), (1, 1, (.t 29))], none, [0, 1]⟩,
         ⟨none, .store 5 (.t 6) (.t 30), none, [2, 0, 1, 2]⟩])
    (.ret)))
def pr55 : List PR := [.c 6 (some 5)]
abbrev ms55_0 : List Nat := [8, 9, 10, 11, 12, 15, 16, 17, 18, 19, 20, 21, 22, 23, 24, 25, 26, 27, 13, 14, 7]
abbrev os55_0 : List Nat := [6]
theorem bd55 : Try.f55.body = some (Try.f55.body.getD .skip) := by kernel_rfl
theorem cp55 : compC Try.prog Try.f55.ntmps eqsL (Try.f55.body.getD .skip) = some pc55 := by kernel_rfl
theorem sp55 [WInv] {env : Env} (hE : EnvOK Try.prog env) {R : List Pa → List Pa → Prop} (hR : ∀ ps rs, R ps rs → ps.length ≤ 31 ∧ pwp env pc55 (fun e s => (e = .normal ∨ e = .ret) ∧ s.res pr55 = some rs) (St.init ps)) : Spec Try.prog 55 R :=
  fn_sound hE eqsOK mixedOK Try.func55 bd55 cp55 (by kernel_rfl) (by kernel_rfl) hR

/-! (interleave/interleaveref30.State).counted -/
def pc58 : PC :=
 .seq (.reg false [⟨(some 2), .box (.t 0), none, []⟩,
       ⟨(some 3), .box (.t 1), none, []⟩,
       ⟨(some 4), .new [(.int .i64 0), (.int .i64 0), (.slice none 0 0), (.slice none 0 0), (.slice none 0 0), (.slice none 0 0), (.int .i64 0), (.int .i64 0), (.int .i64 0)], none, []⟩])
  (.seq (.reg false [⟨(some 6), .load (some 9) (.t 2), none, []⟩,
        ⟨(some 7), .fld 2 (.t 3), none, []⟩,
        ⟨(some 8), .load none (.t 7), none, [1]⟩,
        ⟨(some 9), .fld 5 (.t 3), none, []⟩,
        ⟨(some 10), .load none (.t 9), none, [3]⟩,
        ⟨(some 11), .call 55 [(.t 6), (.t 8), (.t 10)], none, [0, 2, 4]⟩,
        ⟨(some 5), .new [(.int .i64 0), (.int .i64 0), (.int .i64 0), (.int .i64 0), (.bool false)], none, []⟩,
        ⟨none, .store 5 (.t 5) (.t 11), none, [6, 5, 5, 0, 1, 2, 3, 4, 5, 6]⟩])
   (.seq (.seq (.reg false [⟨(some 12), .fld 1 (.t 3), none, []⟩,
          ⟨(some 13), .load none (.t 12), none, [0]⟩])
     (.block 0 (.seq (.reg false [⟨(some 16), .bin .eql (.t 13) (.v (.int .i64 15)), none, []⟩,
            ⟨(some 15), .mv (.t 16), none, [0]⟩])
       (.cond (.t 15)
         (.reg false [⟨(some 17), .fld 2 (.t 5), none, []⟩,
              ⟨(some 18), .load none (.t 17), none, [0]⟩,
              ⟨(some 19), .bin .add (.t 18) (.v (.int .i64 1)), none, [1]⟩,
              ⟨(some 20), .fld 2 (.t 5), none, [0, 1, 2]⟩,
              ⟨none, .store 1 (.t 20) (.t 19), none, [3, 2, 0, 1, 2]⟩])
         (.seq (.reg false [⟨(some 22), .bin .eql (.t 13) (.v (.int .i64 17)), none, []⟩,
               ⟨(some 21), .mv (.t 22), none, [0]⟩])
          (.cond (.t 21)
            (.reg false [⟨(some 23), .fld 3 (.t 5), none, []⟩,
                 ⟨(some 24), .load none (.t 23), none, [0]⟩,
                 ⟨(some 25), .bin .add (.t 24) (.v (.int .i64 1)), none, [1]⟩,
                 ⟨(some 26), .fld 3 (.t 5), none, [0, 1, 2]⟩,
                 ⟨none, .store 1 (.t 26) (.t 25), none, [3, 2, 0, 1, 2]⟩])
            (.seq (.reg false [⟨(some 14), .load (some 9) (.t 2), none, []⟩,
                  ⟨none, .store 9 (.t 4) (.t 14), none, [0, 0]⟩])
             (.ret))))))))
    (.seq (.reg false [⟨(some 27), .load (some 9) (.t 2), none, []⟩,
          ⟨(some 28), .load (some 5) (.t 5), none, []⟩,
          ⟨(some 29), .call 60 [(.t 27), (.t 28)], none, [0, 1]⟩,
          ⟨none, .store 9 (.t 4) (.t 29), none, [2, 2, 0, 1, 2]⟩])
     (.ret))))
def pr58 : List PR := [.c 4 (some 9)]
theorem bd58 : Try.f58.body = some (Try.f58.body.getD .skip) := by kernel_rfl
theorem cp58 : compC Try.prog Try.f58.ntmps eqsL (Try.f58.body.getD .skip) = some pc58 := by kernel_rfl
theorem sp58 [WInv] {env : Env} (hE : EnvOK Try.prog env) {R : List Pa → List Pa → Prop} (hR : ∀ ps rs, R ps rs → ps.length ≤ 30 ∧ pwp env pc58 (fun e s => (e = .normal ∨ e = .ret) ∧ s.res pr58 = some rs) (St.init ps)) : Spec Try.prog 58 R :=
  fn_sound hE eqsOK mixedOK Try.func58 bd58 cp58 (by kernel_rfl) (by kernel_rfl) hR

/-! (interleave/interleaveref30.State).begin -/
def pc59 : PC :=
 .seq (.reg false [⟨(some 3), .box (.t 0), none, []⟩,
       ⟨(some 4), .box (.t 1), none, []⟩,
       ⟨(some 6), .new [(.int .i64 0), (.int .i64 0), (.slice none 0 0), (.slice none 0 0), (.slice none 0 0), (.slice none 0 0), (.int .i64 0), (.int .i64 0), (.int .i64 0)], none, []⟩,
       ⟨(some 7), .mv (.v (.bool false)), none, []⟩])
  (.seq (.reg true [⟨(some 8), .mv (.t 2), none, []⟩,
        ⟨(some 9), .fld 2 (.t 4), none, []⟩,
        ⟨(some 10), .load none (.t 9), none, [1]⟩,
        ⟨(some 11), .fld 4 (.t 4), none, []⟩,
        ⟨(some 12), .load none (.t 11), none, [3]⟩,
        ⟨(some 13), .fld 5 (.t 4), none, []⟩,
        ⟨(some 14), .load none (.t 13), none, [5]⟩,
        ⟨(some 15), .fld 5 (.t 3), none, [0]⟩,
        ⟨none, .store 1 (.t 15) (.t 8), none, [7, 0, 0]⟩,
        ⟨(some 16), .fld 6 (.t 3), none, [0, 1, 2, 7, 8]⟩,
        ⟨none, .store 1 (.t 16) (.t 10), none, [9, 2, 8, 0, 1, 2, 7, 8]⟩,
        ⟨(some 17), .fld 7 (.t 3), none, [0, 1, 2, 3, 4, 7, 8, 9, 10]⟩,
        ⟨none, .store 1 (.t 17) (.t 12), none, [11, 4, 10, 0, 1, 2, 3, 4, 7, 8, 9, 10]⟩,
        ⟨(some 18), .fld 8 (.t 3), none, [0, 1, 2, 3, 4, 5, 6, 7, 8, 9, 10, 11, 12]⟩,
        ⟨none, .store 1 (.t 18) (.t 14), none, [13, 6, 12, 0, 1, 2, 3, 4, 5, 6, 7, 8, 9, 10, 11, 12]⟩])
   (.seq (.reg false [⟨(some 19), .load (some 9) (.t 3), none, []⟩,
         ⟨(some 20), .load (some 9) (.t 4), none, []⟩,
         ⟨(some 21), .call 58 [(.t 19), (.t 20)], none, [0, 1]⟩,
         ⟨none, .store 9 (.t 6) (.t 21), none, [2, 2, 0, 1, 2]⟩,
         ⟨(some 7), .mv (.v (.bool true)), none, [3, 0, 1, 2, 3]⟩])
    (.ret)))
def pr59 : List PR := [.c 6 (some 9), .t 7]
theorem bd59 : Try.f59.body = some (Try.f59.body.getD .skip) := by kernel_rfl
theorem cp59 : compC Try.prog Try.f59.ntmps eqsL (Try.f59.body.getD .skip) = some pc59 := by kernel_rfl
theorem sp59 [WInv] {env : Env} (hE : EnvOK Try.prog env) {R : List Pa → List Pa → Prop} (hR : ∀ ps rs, R ps rs → ps.length ≤ 22 ∧ pwp env pc59 (fun e s => (e = .normal ∨ e = .ret) ∧ s.res pr59 = some rs) (St.init ps)) : Spec Try.prog 59 R :=
  fn_sound hE eqsOK mixedOK Try.func59 bd59 cp59 (by kernel_rfl) (by kernel_rfl) hR

/-! (interleave/interleaveref30.State).setChannel -/
def pc60 : PC :=
 .seq (.reg false [⟨(some 2), .box (.t 0), none, []⟩,
       ⟨(some 3), .box (.t 1), none, []⟩,
       ⟨(some 4), .new [(.int .i64 0), (.int .i64 0), (.slice none 0 0), (.slice none 0 0), (.slice none 0 0), (.slice none 0 0), (.int .i64 0), (.int .i64 0), (.int .i64 0)], none, []⟩])
  (.seq (.reg false [⟨(some 5), .nilRow 78 5, none, []⟩])
   (.seq (.seq (.reg false [⟨(some 6), .mv (.v (.int .i64 0)), none, []⟩])
     (.block 0 (.loop (.seq (.seq (.reg false [⟨(some 7), .mv (.t 6), none, []⟩,
              ⟨(some 8), .fld 2 (.t 2), none, []⟩,
              ⟨(some 9), .load none (.t 8), none, [1]⟩,
              ⟨(some 10), .len (.t 9), none, [2]⟩,
              ⟨(some 11), .bin .lss (.t 7) (.t 10), none, [0, 3]⟩])
         (.cond (.t 11)
           (.skip)
           (.exit 0)))
        (.seq (.block 1 (.seq (.reg true [⟨(some 14), .fld 2 (.t 2), none, []⟩,
                ⟨(some 15), .load none (.t 14), none, [0]⟩,
                ⟨(some 16), .mv (.t 6), none, []⟩,
                ⟨(some 17), .ixs 5 (.t 15) (.t 16), none, [1, 2]⟩,
                ⟨(some 18), .fld 0 (.t 17), none, [3]⟩,
                ⟨(some 19), .load none (.t 18), none, [4]⟩,
                ⟨(some 20), .fld 0 (.t 3), none, []⟩,
                ⟨(some 21), .load none (.t 20), none, [6]⟩,
                ⟨(some 22), .bin .neq (.t 19) (.t 21), none, [5, 7]⟩])
           (.cond (.t 22)
             (.reg false [⟨(some 23), .mv (.t 5), none, []⟩,
                  ⟨(some 24), .fld 2 (.t 2), none, []⟩,
                  ⟨(some 25), .load none (.t 24), none, [1]⟩,
                  ⟨(some 26), .mv (.t 6), none, []⟩,
                  ⟨(some 27), .ixs 5 (.t 25) (.t 26), none, [2, 3]⟩,
                  ⟨(some 28), .load (some 5) (.t 27), none, [4]⟩,
                  ⟨(some 29), .bslice 78 5 [(.int .i64 0), (.int .i64 0), (.int .i64 0), (.int .i64 0), (.bool false)] 1 [(0, 5, (.t 28))], none, [5]⟩,
                  ⟨(some 30), .append 78 5 40 (.t 23) (.t 29), none, [0, 6]⟩,
                  ⟨(some 5), .mv (.t 30), none, [7, 7, 0, 1, 2, 3, 4, 5, 6, 7]⟩])
             (.skip))))
         (.reg false [⟨(some 12), .mv (.t 6), none, []⟩,
              ⟨(some 13), .bin .add (.t 12) (.v (.int .i64 1)), none, [0]⟩,
              ⟨(some 6), .mv (.t 13), none, [1, 0, 1]⟩]))))))
    (.seq (.reg false [⟨(some 31), .mv (.t 5), none, []⟩,
          ⟨(some 32), .load (some 5) (.t 3), none, []⟩,
          ⟨(some 33), .bslice 78 5 [(.int .i64 0), (.int .i64 0), (.int .i64 0), (.int .i64 0), (.bool false)] 1 [(0, 5, (.t 32))], none, [1]⟩,
          ⟨(some 34), .append 78 5 40 (.t 31) (.t 33), none, [0, 2]⟩,
          ⟨(some 35), .fld 2 (.t 2), none, [0, 1, 2, 3]⟩,
          ⟨none, .store 1 (.t 35) (.t 34), none, [4, 3, 3, 0, 1, 2, 3]⟩])
     (.seq (.reg false [⟨(some 36), .load (some 9) (.t 2), none, []⟩,
           ⟨none, .store 9 (.t 4) (.t 36), none, [0, 0]⟩])
      (.ret)))))
def pr60 : List PR := [.c 4 (some 9)]
abbrev ms60_0 : List Nat := [7, 8, 9, 10, 11, 14, 15, 16, 17, 18, 19, 20, 21, 22, 23, 24, 25, 26, 27, 28, 29, 30, 5, 12, 13, 6]
abbrev os60_0 : List Nat := [29, 5]
theorem bd60 : Try.f60.body = some (Try.f60.body.getD .skip) := by kernel_rfl
theorem cp60 : compC Try.prog Try.f60.ntmps eqsL (Try.f60.body.getD .skip) = some pc60 := by kernel_rfl
theorem sp60 [WInv] {env : Env} (hE : EnvOK Try.prog env) {R : List Pa → List Pa → Prop} (hR : ∀ ps rs, R ps rs → ps.length ≤ 37 ∧ pwp env pc60 (fun e s => (e = .normal ∨ e = .ret) ∧ s.res pr60 = some rs) (St.init ps)) : Spec Try.prog 60 R :=
  fn_sound hE eqsOK mixedOK Try.func60 bd60 cp60 (by kernel_rfl) (by kernel_rfl) hR

/-! (interleave/interleaveref30.State).lock -/
def pc61 : PC :=
 .seq (.reg false [⟨(some 3), .box (.t 0), none, []⟩,
       ⟨(some 6), .new [(.int .i64 0), (.int .i64 0), (.bool false), (.int .i64 0)], none, []⟩])
  (.seq (.seq (.reg false [⟨(some 7), .mv (.v (.int .i64 0)), none, []⟩])
    (.block 0 (.loop (.seq (.seq (.reg false [⟨(some 8), .mv (.t 7), none, []⟩,
             ⟨(some 9), .fld 3 (.t 3), none, []⟩,
             ⟨(some 10), .load none (.t 9), none, [1]⟩,
             ⟨(some 11), .len (.t 10), none, [2]⟩,
             ⟨(some 12), .bin .lss (.t 8) (.t 11), none, [0, 3]⟩])
        (.cond (.t 12)
          (.skip)
          (.exit 0)))
       (.seq (.block 1 (.seq (.reg false [⟨(some 15), .fld 3 (.t 3), none, []⟩,
               ⟨(some 16), .load none (.t 15), none, [0]⟩,
               ⟨(some 17), .mv (.t 7), none, []⟩,
               ⟨(some 18), .ixs 4 (.t 16) (.t 17), none, [1, 2]⟩,
               ⟨(some 19), .fld 0 (.t 18), none, [3]⟩,
               ⟨(some 20), .load none (.t 19), none, [4]⟩,
               ⟨(some 21), .mv (.t 1), none, []⟩,
               ⟨(some 22), .bin .eql (.t 20) (.t 21), none, [5, 6]⟩,
               ⟨(some 23), .mv (.t 22), none, [7]⟩,
               ⟨(some 24), .fld 3 (.t 3), (some (23, true)), [8]⟩,
               ⟨(some 25), .load none (.t 24), (some (23, true)), [9, 8]⟩,
               ⟨(some 26), .mv (.t 7), (some (23, true)), [8]⟩,
               ⟨(some 27), .ixs 4 (.t 25) (.t 26), (some (23, true)), [10, 11, 8]⟩,
               ⟨(some 28), .fld 1 (.t 27), (some (23, true)), [12, 8]⟩,
               ⟨(some 29), .load none (.t 28), (some (23, true)), [13, 8]⟩,
               ⟨(some 30), .mv (.t 2), (some (23, true)), [8]⟩,
               ⟨(some 31), .bin .eql (.t 29) (.t 30), (some (23, true)), [14, 15, 8]⟩,
               ⟨(some 32), .pick (.t 23) (.t 31) (.v (.bool false)), none, [8, 16]⟩])
          (.cond (.t 32)
            (.seq (.reg false [⟨(some 33), .fld 3 (.t 3), none, []⟩,
                  ⟨(some 34), .load none (.t 33), none, [0]⟩,
                  ⟨(some 35), .mv (.t 7), none, []⟩,
                  ⟨(some 36), .ixs 4 (.t 34) (.t 35), none, [1, 2]⟩,
                  ⟨(some 37), .load (some 4) (.t 36), none, [3]⟩,
                  ⟨none, .store 4 (.t 6) (.t 37), none, [4, 0, 1, 2, 3, 4]⟩])
             (.ret))
            (.skip))))
        (.reg false [⟨(some 13), .mv (.t 7), none, []⟩,
             ⟨(some 14), .bin .add (.t 13) (.v (.int .i64 1)), none, [0]⟩,
             ⟨(some 7), .mv (.t 14), none, [1, 0, 1]⟩]))))))
   (.seq (.reg false [⟨(some 38), .mv (.t 1), none, []⟩,
         ⟨(some 39), .mv (.t 2), none, []⟩,
         ⟨(some 40), .build [(.int .i64 0), (.int .i64 0), (.bool false), (.int .i64 0)] [(0, 1, (.t 38)), (1, 1, (.t 39))], none, [0, 1]⟩,
         ⟨none, .store 4 (.t 6) (.t 40), none, [2, 0, 1, 2]⟩])
    (.ret)))
def pr61 : List PR := [.c 6 (some 4)]
abbrev ms61_0 : List Nat := [8, 9, 10, 11, 12, 15, 16, 17, 18, 19, 20, 21, 22, 23, 24, 25, 26, 27, 28, 29, 30, 31, 32, 33, 34, 35, 36, 37, 13, 14, 7]
abbrev os61_0 : List Nat := [6]
theorem bd61 : Try.f61.body = some (Try.f61.body.getD .skip) := by kernel_rfl
theorem cp61 : compC Try.prog Try.f61.ntmps eqsL (Try.f61.body.getD .skip) = some pc61 := by kernel_rfl
theorem sp61 [WInv] {env : Env} (hE : EnvOK Try.prog env) {R : List Pa → List Pa → Prop} (hR : ∀ ps rs, R ps rs → ps.length ≤ 41 ∧ pwp env pc61 (fun e s => (e = .normal ∨ e = .ret) ∧ s.res pr61 = some rs) (St.init ps)) : Spec Try.prog 61 R :=
  fn_sound hE eqsOK mixedOK Try.func61 bd61 cp61 (by kernel_rfl) (by kernel_rfl) hR

/-! (interleave/interleaveref30.State).setLock -/
def pc62 : PC :=
 .seq (.reg false [⟨(some 2), .box (.t 0), none, []⟩,
       ⟨(some 3), .box (.t 1), none, []⟩,
       ⟨(some 4), .new [(.int .i64 0), (.int .i64 0), (.slice none 0 0), (.slice none 0 0), (.slice none 0 0), (.slice none 0 0), (.int .i64 0), (.int .i64 0), (.int .i64 0)], none, []⟩])
  (.seq (.reg false [⟨(some 5), .nilRow 88 4, none, []⟩])
   (.seq (.seq (.reg false [⟨(some 6), .mv (.v (.int .i64 0)), none, []⟩])
     (.block 0 (.loop (.seq (.seq (.reg false [⟨(some 7), .mv (.t 6), none, []⟩,
              ⟨(some 8), .fld 3 (.t 2), none, []⟩,
              ⟨(some 9), .load none (.t 8), none, [1]⟩,
              ⟨(some 10), .len (.t 9), none, [2]⟩,
              ⟨(some 11), .bin .lss (.t 7) (.t 10), none, [0, 3]⟩])
         (.cond (.t 11)
           (.skip)
           (.exit 0)))
        (.seq (.block 1 (.seq (.reg true [⟨(some 14), .fld 3 (.t 2), none, []⟩,
                ⟨(some 15), .load none (.t 14), none, [0]⟩,
                ⟨(some 16), .mv (.t 6), none, []⟩,
                ⟨(some 17), .ixs 4 (.t 15) (.t 16), none, [1, 2]⟩,
                ⟨(some 18), .fld 0 (.t 17), none, [3]⟩,
                ⟨(some 19), .load none (.t 18), none, [4]⟩,
                ⟨(some 20), .fld 0 (.t 3), none, []⟩,
                ⟨(some 21), .load none (.t 20), none, [6]⟩,
                ⟨(some 22), .bin .neq (.t 19) (.t 21), none, [5, 7]⟩,
                ⟨(some 23), .mv (.t 22), none, [8]⟩,
                ⟨(some 24), .fld 3 (.t 2), (some (23, false)), [9]⟩,
                ⟨(some 25), .load none (.t 24), (some (23, false)), [10, 9]⟩,
                ⟨(some 26), .mv (.t 6), (some (23, false)), [9]⟩,
                ⟨(some 27), .ixs 4 (.t 25) (.t 26), (some (23, false)), [11, 12, 9]⟩,
                ⟨(some 28), .fld 1 (.t 27), (some (23, false)), [13, 9]⟩,
                ⟨(some 29), .load none (.t 28), (some (23, false)), [14, 9]⟩,
                ⟨(some 30), .fld 1 (.t 3), (some (23, false)), [9]⟩,
                ⟨(some 31), .load none (.t 30), (some (23, false)), [16, 9]⟩,
                ⟨(some 32), .bin .neq (.t 29) (.t 31), (some (23, false)), [15, 17, 9]⟩,
                ⟨(some 33), .pick (.t 23) (.v (.bool true)) (.t 32), none, [9, 18]⟩])
           (.cond (.t 33)
             (.reg false [⟨(some 34), .mv (.t 5), none, []⟩,
                  ⟨(some 35), .fld 3 (.t 2), none, []⟩,
                  ⟨(some 36), .load none (.t 35), none, [1]⟩,
                  ⟨(some 37), .mv (.t 6), none, []⟩,
                  ⟨(some 38), .ixs 4 (.t 36) (.t 37), none, [2, 3]⟩,
                  ⟨(some 39), .load (some 4) (.t 38), none, [4]⟩,
                  ⟨(some 40), .bslice 88 4 [(.int .i64 0), (.int .i64 0), (.bool false), (.int .i64 0)] 1 [(0, 4, (.t 39))], none, [5]⟩,
                  ⟨(some 41), .append 88 4 32 (.t 34) (.t 40), none, [0, 6]⟩,
                  ⟨(some 5), .mv (.t 41), none, [7, 7, 0, 1, 2, 3, 4, 5, 6, 7]⟩])
             (.skip))))
         (.reg false [⟨(some 12), .mv (.t 6), none, []⟩,
              ⟨(some 13), .bin .add (.t 12) (.v (.int .i64 1)), none, [0]⟩,
              ⟨(some 6), .mv (.t 13), none, [1, 0, 1]⟩]))))))
    (.seq (.reg false [⟨(some 42), .mv (.t 5), none, []⟩,
          ⟨(some 43), .load (some 4) (.t 3), none, []⟩,
          ⟨(some 44), .bslice 88 4 [(.int .i64 0), (.int .i64 0), (.bool false), (.int .i64 0)] 1 [(0, 4, (.t 43))], none, [1]⟩,
          ⟨(some 45), .append 88 4 32 (.t 42) (.t 44), none, [0, 2]⟩,
          ⟨(some 46), .fld 3 (.t 2), none, [0, 1, 2, 3]⟩,
          ⟨none, .store 1 (.t 46) (.t 45), none, [4, 3, 3, 0, 1, 2, 3]⟩])
     (.seq (.reg false [⟨(some 47), .load (some 9) (.t 2), none, []⟩,
           ⟨none, .store 9 (.t 4) (.t 47), none, [0, 0]⟩])
      (.ret)))))
def pr62 : List PR := [.c 4 (some 9)]
abbrev ms62_0 : List Nat := [7, 8, 9, 10, 11, 14, 15, 16, 17, 18, 19, 20, 21, 22, 23, 24, 25, 26, 27, 28, 29, 30, 31, 32, 33, 34, 35, 36, 37, 38, 39, 40, 41, 5, 12, 13, 6]
abbrev os62_0 : List Nat := [40, 5]
theorem bd62 : Try.f62.body = some (Try.f62.body.getD .skip) := by kernel_rfl
theorem cp62 : compC Try.prog Try.f62.ntmps eqsL (Try.f62.body.getD .skip) = some pc62 := by kernel_rfl
theorem sp62 [WInv] {env : Env} (hE : EnvOK Try.prog env) {R : List Pa → List Pa → Prop} (hR : ∀ ps rs, R ps rs → ps.length ≤ 48 ∧ pwp env pc62 (fun e s => (e = .normal ∨ e = .ret) ∧ s.res pr62 = some rs) (St.init ps)) : Spec Try.prog 62 R :=
  fn_sound hE eqsOK mixedOK Try.func62 bd62 cp62 (by kernel_rfl) (by kernel_rfl) hR

/-! (interleave/interleaveref30.State).done -/
def pc63 : PC :=
 .seq (.reg false [⟨(some 3), .box (.t 0), none, []⟩,
       ⟨(some 6), .mv (.v (.bool false)), none, []⟩])
  (.seq (.seq (.reg false [⟨(some 7), .mv (.v (.int .i64 0)), none, []⟩])
    (.block 0 (.loop (.seq (.seq (.reg false [⟨(some 8), .mv (.t 7), none, []⟩,
             ⟨(some 9), .fld 4 (.t 3), none, []⟩,
             ⟨(some 10), .load none (.t 9), none, [1]⟩,
             ⟨(some 11), .len (.t 10), none, [2]⟩,
             ⟨(some 12), .bin .lss (.t 8) (.t 11), none, [0, 3]⟩])
        (.cond (.t 12)
          (.skip)
          (.exit 0)))
       (.seq (.block 1 (.seq (.reg false [⟨(some 15), .fld 4 (.t 3), none, []⟩,
               ⟨(some 16), .load none (.t 15), none, [0]⟩,
               ⟨(some 17), .mv (.t 7), none, []⟩,
               ⟨(some 18), .ixs 2 (.t 16) (.t 17), none, [1, 2]⟩,
               ⟨(some 19), .fld 0 (.t 18), none, [3]⟩,
               ⟨(some 20), .load none (.t 19), none, [4]⟩,
               ⟨(some 21), .mv (.t 1), none, []⟩,
               ⟨(some 22), .bin .eql (.t 20) (.t 21), none, [5, 6]⟩,
               ⟨(some 23), .mv (.t 22), none, [7]⟩,
               ⟨(some 24), .fld 4 (.t 3), (some (23, true)), [8]⟩,
               ⟨(some 25), .load none (.t 24), (some (23, true)), [9, 8]⟩,
               ⟨(some 26), .mv (.t 7), (some (23, true)), [8]⟩,
               ⟨(some 27), .ixs 2 (.t 25) (.t 26), (some (23, true)), [10, 11, 8]⟩,
               ⟨(some 28), .fld 1 (.t 27), (some (23, true)), [12, 8]⟩,
               ⟨(some 29), .load none (.t 28), (some (23, true)), [13, 8]⟩,
               ⟨(some 30), .mv (.t 2), (some (23, true)), [8]⟩,
               ⟨(some 31), .bin .eql (.t 29) (.t 30), (some (23, true)), [14, 15, 8]⟩,
               ⟨(some 32), .pick (.t 23) (.t 31) (.v (.bool false)), none, [8, 16]⟩])
          (.cond (.t 32)
            (.seq (.reg false [⟨(some 6), .mv (.v (.bool true)), none, []⟩])
             (.ret))
            (.skip))))
        (.reg false [⟨(some 13), .mv (.t 7), none, []⟩,
             ⟨(some 14), .bin .add (.t 13) (.v (.int .i64 1)), none, [0]⟩,
             ⟨(some 7), .mv (.t 14), none, [1, 0, 1]⟩]))))))
   (.seq (.reg false [⟨(some 6), .mv (.v (.bool false)), none, []⟩])
    (.ret)))
def pr63 : List PR := [.t 6]
abbrev ms63_0 : List Nat := [8, 9, 10, 11, 12, 15, 16, 17, 18, 19, 20, 21, 22, 23, 24, 25, 26, 27, 28, 29, 30, 31, 32, 6, 13, 14, 7]
abbrev os63_0 : List Nat := []
theorem bd63 : Try.f63.body = some (Try.f63.body.getD .skip) := by kernel_rfl
theorem cp63 : compC Try.prog Try.f63.ntmps eqsL (Try.f63.body.getD .skip) = some pc63 := by kernel_rfl
theorem sp63 [WInv] {env : Env} (hE : EnvOK Try.prog env) {R : List Pa → List Pa → Prop} (hR : ∀ ps rs, R ps rs → ps.length ≤ 33 ∧ pwp env pc63 (fun e s => (e = .normal ∨ e = .ret) ∧ s.res pr63 = some rs) (St.init ps)) : Spec Try.prog 63 R :=
  fn_sound hE eqsOK mixedOK Try.func63 bd63 cp63 (by kernel_rfl) (by kernel_rfl) hR

/-! interleave/interleaveref30.Check -/
def pc14 : PC :=
 .seq (.reg false [⟨(some 2), .mv (.v (.int .i64 0)), none, []⟩,
       ⟨(some 3), .mv (.v (.bool false)), none, [0]⟩])
  (.seq (.reg false [⟨(some 8), .call 19 [], none, []⟩,
        ⟨(some 4), .new [(.int .i64 0), (.int .i64 0), (.slice none 0 0), (.slice none 0 0), (.slice none 0 0), (.slice none 0 0), (.int .i64 0), (.int .i64 0), (.int .i64 0)], none, []⟩,
        ⟨none, .store 9 (.t 4) (.t 8), none, [1, 0, 0, 0, 1]⟩])
   (.seq (.seq (.reg false [⟨(some 5), .mv (.v (.int .i64 0)), none, []⟩])
     (.block 0 (.loop (.seq (.seq (.reg false [⟨(some 9), .mv (.t 5), none, []⟩,
              ⟨(some 10), .mv (.t 0), none, []⟩,
              ⟨(some 11), .len (.t 10), none, [1]⟩,
              ⟨(some 12), .bin .lss (.t 9) (.t 11), none, [0, 2]⟩])
         (.cond (.t 12)
           (.skip)
           (.exit 0)))
        (.seq (.block 1 (.seq (.reg true [⟨(some 16), .load (some 9) (.t 4), none, []⟩,
                ⟨(some 17), .mv (.t 0), none, []⟩,
                ⟨(some 18), .mv (.t 5), none, []⟩,
                ⟨(some 19), .ixs 9 (.t 17) (.t 18), none, [1, 2]⟩,
                ⟨(some 20), .load (some 9) (.t 19), none, [3]⟩,
                ⟨(some 21), .call 20 [(.t 16), (.t 20)], none, [0, 4]⟩,
                ⟨(some 15), .mv (.t 21), none, [5]⟩,
                ⟨(some 22), .ext (.t 15) 0, none, [6]⟩,
                ⟨(some 23), .ext (.t 15) 1, none, [6]⟩,
                ⟨(some 6), .new [(.int .i64 0), (.int .i64 0), (.slice none 0 0), (.slice none 0 0), (.slice none 0 0), (.slice none 0 0), (.int .i64 0), (.int .i64 0), (.int .i64 0)], none, []⟩,
                ⟨none, .store 9 (.t 6) (.t 22), none, [9, 7, 5, 0, 1, 2, 3, 4, 5, 6, 7, 9]⟩,
                ⟨(some 7), .mv (.t 23), none, [8, 10, 0, 1, 2, 3, 4, 5, 6, 7, 8, 9, 10]⟩])
           (.seq (.seq (.reg false [⟨(some 24), .mv (.t 7), none, []⟩,
                  ⟨(some 25), .un .not (.t 24), none, [0]⟩])
             (.cond (.t 25)
               (.seq (.reg false [⟨(some 26), .mv (.t 5), none, []⟩,
                     ⟨(some 2), .mv (.t 26), none, [0, 0]⟩,
                     ⟨(some 3), .mv (.v (.bool false)), none, [1, 0, 1]⟩])
                (.ret))
               (.skip)))
            (.reg false [⟨(some 27), .load (some 9) (.t 6), none, []⟩,
                 ⟨none, .store 9 (.t 4) (.t 27), none, [0, 0]⟩]))))
         (.reg false [⟨(some 13), .mv (.t 5), none, []⟩,
              ⟨(some 14), .bin .add (.t 13) (.v (.int .i64 1)), none, [0]⟩,
              ⟨(some 5), .mv (.t 14), none, [1, 0, 1]⟩]))))))
    (.seq (.reg false [⟨(some 28), .mv (.t 0), none, []⟩,
          ⟨(some 29), .len (.t 28), none, [0]⟩,
          ⟨(some 2), .mv (.t 29), none, [1, 0, 1]⟩,
          ⟨(some 3), .mv (.v (.bool true)), none, [2, 0, 1, 2]⟩])
     (.ret))))
def pr14 : List PR := [.t 2, .t 3]
abbrev ms14_0 : List Nat := [9, 10, 11, 12, 16, 17, 18, 19, 20, 21, 15, 22, 23, 6, 7, 24, 25, 26, 2, 3, 27, 13, 14, 5]
abbrev os14_0 : List Nat := [6, 4]
theorem bd14 : Try.f14.body = some (Try.f14.body.getD .skip) := by kernel_rfl
theorem cp14 : compC Try.prog Try.f14.ntmps eqsL (Try.f14.body.getD .skip) = some pc14 := by kernel_rfl
theorem sp14 [WInv] {env : Env} (hE : EnvOK Try.prog env) {R : List Pa → List Pa → Prop} (hR : ∀ ps rs, R ps rs → ps.length ≤ 30 ∧ pwp env pc14 (fun e s => (e = .normal ∨ e = .ret) ∧ s.res pr14 = some rs) (St.init ps)) : Spec Try.prog 14 R :=
  fn_sound hE eqsOK mixedOK Try.func14 bd14 cp14 (by kernel_rfl) (by kernel_rfl) hR

/-! interleave/interleaveref30.Repair -/
def pc16 : PC :=
 .seq (.reg false [⟨(some 2), .nilRow 31 9, none, []⟩])
  (.seq (.reg false [⟨(some 10), .call 19 [], none, []⟩,
        ⟨(some 3), .new [(.int .i64 0), (.int .i64 0), (.slice none 0 0), (.slice none 0 0), (.slice none 0 0), (.slice none 0 0), (.int .i64 0), (.int .i64 0), (.int .i64 0)], none, []⟩,
        ⟨none, .store 9 (.t 3) (.t 10), none, [1, 0, 0, 0, 1]⟩])
   (.seq (.reg false [⟨(some 4), .nilRow 31 9, none, []⟩])
    (.seq (.seq (.reg false [⟨(some 5), .mv (.v (.int .i64 0)), none, []⟩])
      (.block 0 (.loop (.seq (.seq (.reg false [⟨(some 11), .mv (.t 5), none, []⟩,
               ⟨(some 12), .mv (.t 0), none, []⟩,
               ⟨(some 13), .len (.t 12), none, [1]⟩,
               ⟨(some 14), .bin .lss (.t 11) (.t 13), none, [0, 2]⟩,
               ⟨(some 15), .mv (.t 14), none, [3]⟩,
               ⟨(some 16), .mv (.t 4), (some (15, true)), [4]⟩,
               ⟨(some 17), .len (.t 16), (some (15, true)), [5, 4]⟩,
               ⟨(some 18), .bin .lss (.t 17) (.v (.int .i64 76)), (some (15, true)), [6, 4]⟩,
               ⟨(some 19), .pick (.t 15) (.t 18) (.v (.bool false)), none, [4, 7]⟩])
          (.cond (.t 19)
            (.skip)
            (.exit 0)))
         (.seq (.block 1 (.seq (.reg true [⟨(some 22), .load (some 9) (.t 3), none, []⟩,
                 ⟨(some 23), .mv (.t 0), none, []⟩,
                 ⟨(some 24), .mv (.t 5), none, []⟩,
                 ⟨(some 25), .ixs 9 (.t 23) (.t 24), none, [1, 2]⟩,
                 ⟨(some 26), .load (some 9) (.t 25), none, [3]⟩,
                 ⟨(some 27), .mv (.t 0), none, []⟩,
                 ⟨(some 28), .mv (.t 5), none, []⟩,
                 ⟨(some 29), .ixs 9 (.t 27) (.t 28), none, [5, 6]⟩,
                 ⟨(some 30), .fld 0 (.t 29), none, [7]⟩,
                 ⟨(some 31), .load none (.t 30), none, [8]⟩,
                 ⟨(some 32), .fld 1 (.t 3), none, []⟩,
                 ⟨(some 33), .load none (.t 32), none, [10]⟩,
                 ⟨(some 34), .call 35 [(.t 31), (.t 33)], none, [9, 11]⟩,
                 ⟨(some 35), .call 34 [(.t 22), (.t 26), (.t 34)], none, [0, 4, 12, 12]⟩,
                 ⟨(some 6), .mv (.t 35), none, [13, 13, 0, 1, 2, 3, 4, 5, 6, 7, 8, 9, 10, 11, 12, 13]⟩])
            (.seq (.reg false [⟨(some 7), .mv (.v (.int .i64 0)), none, []⟩])
             (.block 2 (.loop (.seq (.seq (.reg false [⟨(some 36), .mv (.t 7), none, []⟩,
                      ⟨(some 37), .mv (.t 6), none, []⟩,
                      ⟨(some 38), .len (.t 37), none, [1]⟩,
                      ⟨(some 39), .bin .lss (.t 36) (.t 38), none, [0, 2]⟩])
                 (.cond (.t 39)
                   (.skip)
                   (.exit 2)))
                (.seq (.block 3 (.seq (.reg true [⟨(some 43), .load (some 9) (.t 3), none, []⟩,
                        ⟨(some 44), .mv (.t 6), none, []⟩,
                        ⟨(some 45), .mv (.t 7), none, []⟩,
                        ⟨(some 46), .ixs 1 (.t 44) (.t 45), none, [1, 2]⟩,
                        ⟨(some 47), .load none (.t 46), none, [3]⟩,
                        ⟨(some 48), .call 36 [(.t 43), (.t 47)], none, [0, 4]⟩,
                        ⟨(some 42), .mv (.t 48), none, [5]⟩,
                        ⟨(some 49), .ext (.t 42) 0, none, [6]⟩,
                        ⟨(some 50), .ext (.t 42) 1, none, [6]⟩,
                        ⟨(some 8), .new [(.int .i64 0), (.int .i64 0), (.slice none 0 0), (.slice none 0 0), (.slice none 0 0), (.slice none 0 0), (.int .i64 0), (.int .i64 0), (.int .i64 0)], none, []⟩,
                        ⟨none, .store 9 (.t 8) (.t 49), none, [9, 7, 5, 0, 1, 2, 3, 4, 5, 6, 7, 9]⟩,
                        ⟨(some 9), .mv (.t 50), none, [8, 10, 0, 1, 2, 3, 4, 5, 6, 7, 8, 9, 10]⟩])
                   (.seq (.reg false [⟨(some 51), .mv (.t 9), none, []⟩])
                    (.cond (.t 51)
                      (.seq (.reg false [⟨(some 52), .load (some 9) (.t 8), none, []⟩,
                            ⟨none, .store 9 (.t 3) (.t 52), none, [0, 0]⟩])
                       (.seq (.reg false [⟨(some 53), .mv (.t 4), none, []⟩,
                             ⟨(some 54), .mv (.t 6), none, []⟩,
                             ⟨(some 55), .mv (.t 7), none, []⟩,
                             ⟨(some 56), .ixs 1 (.t 54) (.t 55), none, [1, 2]⟩,
                             ⟨(some 57), .load none (.t 56), none, [3]⟩,
                             ⟨(some 58), .append 31 9 72 (.t 53) (.t 57), none, [0, 4]⟩,
                             ⟨(some 4), .mv (.t 58), none, [5, 5, 0, 1, 2, 3, 4, 5]⟩])
                        (.exit 2)))
                      (.skip)))))
                 (.reg false [⟨(some 40), .mv (.t 7), none, []⟩,
                      ⟨(some 41), .bin .add (.t 40) (.v (.int .i64 1)), none, [0]⟩,
                      ⟨(some 7), .mv (.t 41), none, [1, 0, 1]⟩]))))))))
          (.reg false [⟨(some 20), .mv (.t 5), none, []⟩,
               ⟨(some 21), .bin .add (.t 20) (.v (.int .i64 1)), none, [0]⟩,
               ⟨(some 5), .mv (.t 21), none, [1, 0, 1]⟩]))))))
     (.seq (.reg false [⟨(some 59), .mv (.t 4), none, []⟩,
           ⟨(some 2), .mv (.t 59), none, [0, 0]⟩])
      (.ret)))))
def pr16 : List PR := [.t 2]
abbrev ms16_0 : List Nat := [11, 12, 13, 14, 15, 16, 17, 18, 19, 22, 23, 24, 25, 26, 27, 28, 29, 30, 31, 32, 33, 34, 35, 6, 7, 36, 37, 38, 39, 43, 44, 45, 46, 47, 48, 42, 49, 50, 8, 9, 51, 52, 53, 54, 55, 56, 57, 58, 4, 40, 41, 20, 21, 5]
abbrev os16_0 : List Nat := [8, 3, 4]
abbrev ms16_1 : List Nat := [36, 37, 38, 39, 43, 44, 45, 46, 47, 48, 42, 49, 50, 8, 9, 51, 52, 53, 54, 55, 56, 57, 58, 4, 40, 41, 7]
abbrev os16_1 : List Nat := [8, 3, 4]
theorem bd16 : Try.f16.body = some (Try.f16.body.getD .skip) := by kernel_rfl
theorem cp16 : compC Try.prog Try.f16.ntmps eqsL (Try.f16.body.getD .skip) = some pc16 := by kernel_rfl
theorem sp16 [WInv] {env : Env} (hE : EnvOK Try.prog env) {R : List Pa → List Pa → Prop} (hR : ∀ ps rs, R ps rs → ps.length ≤ 60 ∧ pwp env pc16 (fun e s => (e = .normal ∨ e = .ret) ∧ s.res pr16 = some rs) (St.init ps)) : Spec Try.prog 16 R :=
  fn_sound hE eqsOK mixedOK Try.func16 bd16 cp16 (by kernel_rfl) (by kernel_rfl) hR

/-! interleave/interleaveref30.New -/
def pc19 : PC :=
 .seq (.reg false [⟨(some 0), .new [(.int .i64 0), (.int .i64 0), (.slice none 0 0), (.slice none 0 0), (.slice none 0 0), (.slice none 0 0), (.int .i64 0), (.int .i64 0), (.int .i64 0)], none, []⟩])
  (.seq (.reg false [⟨(some 1), .build [(.int .i64 0), (.int .i64 0), (.slice none 0 0), (.slice none 0 0), (.slice none 0 0), (.slice none 0 0), (.int .i64 0), (.int .i64 0), (.int .i64 0)] [(1, 1, (.v (.int .i64 1)))], none, []⟩,
        ⟨none, .store 9 (.t 0) (.t 1), none, [0, 0]⟩])
   (.ret))
def pr19 : List PR := [.c 0 (some 9)]
theorem bd19 : Try.f19.body = some (Try.f19.body.getD .skip) := by kernel_rfl
theorem cp19 : compC Try.prog Try.f19.ntmps eqsL (Try.f19.body.getD .skip) = some pc19 := by kernel_rfl
theorem sp19 [WInv] {env : Env} (hE : EnvOK Try.prog env) {R : List Pa → List Pa → Prop} (hR : ∀ ps rs, R ps rs → ps.length ≤ 2 ∧ pwp env pc19 (fun e s => (e = .normal ∨ e = .ret) ∧ s.res pr19 = some rs) (St.init ps)) : Spec Try.prog 19 R :=
  fn_sound hE eqsOK mixedOK Try.func19 bd19 cp19 (by kernel_rfl) (by kernel_rfl) hR

/-! interleave/interleaveref30.Whole -/
def pc24 : PC :=
 .seq (.reg false [⟨(some 2), .mv (.v (.int .i64 0)), none, []⟩])
  (.seq (.reg false [⟨(some 8), .call 19 [], none, []⟩,
        ⟨(some 3), .new [(.int .i64 0), (.int .i64 0), (.slice none 0 0), (.slice none 0 0), (.slice none 0 0), (.slice none 0 0), (.int .i64 0), (.int .i64 0), (.int .i64 0)], none, []⟩,
        ⟨none, .store 9 (.t 3) (.t 8), none, [1, 0, 0, 0, 1]⟩])
   (.seq (.reg false [⟨(some 4), .mv (.v (.int .i64 0)), none, []⟩])
    (.seq (.seq (.reg false [⟨(some 5), .mv (.v (.int .i64 0)), none, []⟩])
      (.block 0 (.loop (.seq (.seq (.reg false [⟨(some 9), .mv (.t 5), none, []⟩,
               ⟨(some 10), .mv (.t 0), none, []⟩,
               ⟨(some 11), .len (.t 10), none, [1]⟩,
               ⟨(some 12), .bin .lss (.t 9) (.t 11), none, [0, 2]⟩])
          (.cond (.t 12)
            (.skip)
            (.exit 0)))
         (.seq (.block 1 (.seq (.reg true [⟨(some 16), .load (some 9) (.t 3), none, []⟩,
                 ⟨(some 17), .mv (.t 0), none, []⟩,
                 ⟨(some 18), .mv (.t 5), none, []⟩,
                 ⟨(some 19), .ixs 9 (.t 17) (.t 18), none, [1, 2]⟩,
                 ⟨(some 20), .load (some 9) (.t 19), none, [3]⟩,
                 ⟨(some 21), .call 20 [(.t 16), (.t 20)], none, [0, 4]⟩,
                 ⟨(some 15), .mv (.t 21), none, [5]⟩,
                 ⟨(some 22), .ext (.t 15) 0, none, [6]⟩,
                 ⟨(some 23), .ext (.t 15) 1, none, [6]⟩,
                 ⟨(some 6), .new [(.int .i64 0), (.int .i64 0), (.slice none 0 0), (.slice none 0 0), (.slice none 0 0), (.slice none 0 0), (.int .i64 0), (.int .i64 0), (.int .i64 0)], none, []⟩,
                 ⟨none, .store 9 (.t 6) (.t 22), none, [9, 7, 5, 0, 1, 2, 3, 4, 5, 6, 7, 9]⟩,
                 ⟨(some 7), .mv (.t 23), none, [8, 10, 0, 1, 2, 3, 4, 5, 6, 7, 8, 9, 10]⟩])
            (.seq (.seq (.reg false [⟨(some 24), .mv (.t 7), none, []⟩,
                   ⟨(some 25), .un .not (.t 24), none, [0]⟩])
              (.cond (.t 25)
                (.seq (.reg false [⟨(some 26), .mv (.t 4), none, []⟩,
                      ⟨(some 2), .mv (.t 26), none, [0, 0]⟩])
                 (.ret))
                (.skip)))
             (.seq (.reg false [⟨(some 27), .load (some 9) (.t 6), none, []⟩,
                   ⟨none, .store 9 (.t 3) (.t 27), none, [0, 0]⟩])
              (.seq (.reg false [⟨(some 28), .fld 5 (.t 3), none, []⟩,
                    ⟨(some 29), .load none (.t 28), none, [0]⟩,
                    ⟨(some 30), .len (.t 29), none, [1]⟩,
                    ⟨(some 31), .bin .eql (.t 30) (.v (.int .i64 0)), none, [2]⟩])
               (.cond (.t 31)
                 (.reg false [⟨(some 32), .mv (.t 5), none, []⟩,
                      ⟨(some 33), .bin .add (.t 32) (.v (.int .i64 1)), none, [0]⟩,
                      ⟨(some 4), .mv (.t 33), none, [1, 0, 1]⟩])
                 (.skip)))))))
          (.reg false [⟨(some 13), .mv (.t 5), none, []⟩,
               ⟨(some 14), .bin .add (.t 13) (.v (.int .i64 1)), none, [0]⟩,
               ⟨(some 5), .mv (.t 14), none, [1, 0, 1]⟩]))))))
     (.seq (.reg false [⟨(some 34), .mv (.t 4), none, []⟩,
           ⟨(some 2), .mv (.t 34), none, [0, 0]⟩])
      (.ret)))))
def pr24 : List PR := [.t 2]
abbrev ms24_0 : List Nat := [9, 10, 11, 12, 16, 17, 18, 19, 20, 21, 15, 22, 23, 6, 7, 24, 25, 26, 2, 27, 28, 29, 30, 31, 32, 33, 4, 13, 14, 5]
abbrev os24_0 : List Nat := [6, 3]
theorem bd24 : Try.f24.body = some (Try.f24.body.getD .skip) := by kernel_rfl
theorem cp24 : compC Try.prog Try.f24.ntmps eqsL (Try.f24.body.getD .skip) = some pc24 := by kernel_rfl
theorem sp24 [WInv] {env : Env} (hE : EnvOK Try.prog env) {R : List Pa → List Pa → Prop} (hR : ∀ ps rs, R ps rs → ps.length ≤ 35 ∧ pwp env pc24 (fun e s => (e = .normal ∨ e = .ret) ∧ s.res pr24 = some rs) (St.init ps)) : Spec Try.prog 24 R :=
  fn_sound hE eqsOK mixedOK Try.func24 bd24 cp24 (by kernel_rfl) (by kernel_rfl) hR

/-! interleave/interleaveref30.Goroutines -/
def pc26 : PC :=
 .seq (.reg false [⟨(some 2), .mv (.v (.int .i64 0)), none, []⟩])
  (.seq (.seq (.reg false [⟨(some 3), .mv (.t 0), none, []⟩,
         ⟨(some 4), .call 47 [(.t 3)], none, [0]⟩,
         ⟨(some 5), .un .not (.t 4), none, [1]⟩])
    (.cond (.t 5)
      (.seq (.reg false [⟨(some 2), .mv (.v (.int .i64 0)), none, []⟩])
       (.ret))
      (.skip)))
   (.seq (.reg false [⟨(some 6), .mv (.t 0), none, []⟩,
         ⟨(some 7), .call 48 [(.t 6)], none, [0]⟩,
         ⟨(some 8), .fldv 1 none (.t 7), none, [1]⟩,
         ⟨(some 2), .mv (.t 8), none, [2, 1, 0, 1, 2]⟩])
    (.ret)))
def pr26 : List PR := [.t 2]
theorem bd26 : Try.f26.body = some (Try.f26.body.getD .skip) := by kernel_rfl
theorem cp26 : compC Try.prog Try.f26.ntmps eqsL (Try.f26.body.getD .skip) = some pc26 := by kernel_rfl
theorem sp26 [WInv] {env : Env} (hE : EnvOK Try.prog env) {R : List Pa → List Pa → Prop} (hR : ∀ ps rs, R ps rs → ps.length ≤ 9 ∧ pwp env pc26 (fun e s => (e = .normal ∨ e = .ret) ∧ s.res pr26 = some rs) (St.init ps)) : Spec Try.prog 26 R :=
  fn_sound hE eqsOK mixedOK Try.func26 bd26 cp26 (by kernel_rfl) (by kernel_rfl) hR

/-! interleave/interleaveref30.At -/
def pc28 : PC :=
 .seq (.reg false [⟨(some 3), .box (.t 1), none, []⟩,
       ⟨(some 4), .nilRow 3 1, none, []⟩])
  (.seq (.reg false [⟨(some 5), .nilRow 3 1, none, []⟩])
   (.seq (.seq (.reg false [⟨(some 6), .mv (.v (.int .i64 0)), none, []⟩])
     (.block 0 (.loop (.seq (.seq (.reg false [⟨(some 7), .mv (.t 6), none, []⟩,
              ⟨(some 8), .mv (.t 0), none, []⟩,
              ⟨(some 9), .len (.t 8), none, [1]⟩,
              ⟨(some 10), .bin .lss (.t 7) (.t 9), none, [0, 2]⟩])
         (.cond (.t 10)
           (.skip)
           (.exit 0)))
        (.seq (.block 1 (.seq (.reg true [⟨(some 13), .mv (.t 0), none, []⟩,
                ⟨(some 14), .mv (.t 6), none, []⟩,
                ⟨(some 15), .ixs 9 (.t 13) (.t 14), none, [0, 1]⟩,
                ⟨(some 16), .fld 1 (.t 15), none, [2]⟩,
                ⟨(some 17), .load none (.t 16), none, [3]⟩,
                ⟨(some 18), .call 50 [(.t 17)], none, [4]⟩,
                ⟨(some 19), .mv (.t 18), none, [5, 5]⟩,
                ⟨(some 20), .mv (.t 0), (some (19, true)), [6]⟩,
                ⟨(some 21), .mv (.t 6), (some (19, true)), [6]⟩,
                ⟨(some 22), .ixs 9 (.t 20) (.t 21), (some (19, true)), [7, 8, 6]⟩,
                ⟨(some 23), .fld 2 (.t 22), (some (19, true)), [9, 6]⟩,
                ⟨(some 24), .load none (.t 23), (some (19, true)), [10, 6]⟩,
                ⟨(some 25), .fld 0 (.t 3), (some (19, true)), [6]⟩,
                ⟨(some 26), .load none (.t 25), (some (19, true)), [12, 6]⟩,
                ⟨(some 27), .bin .eql (.t 24) (.t 26), (some (19, true)), [11, 13, 6]⟩,
                ⟨(some 28), .pick (.t 19) (.t 27) (.v (.bool false)), none, [6, 14]⟩,
                ⟨(some 29), .mv (.t 28), none, [15, 6]⟩,
                ⟨(some 30), .mv (.t 0), (some (29, true)), [16]⟩,
                ⟨(some 31), .mv (.t 6), (some (29, true)), [16]⟩,
                ⟨(some 32), .ixs 9 (.t 30) (.t 31), (some (29, true)), [17, 18, 16]⟩,
                ⟨(some 33), .fld 3 (.t 32), (some (29, true)), [19, 16]⟩,
                ⟨(some 34), .load none (.t 33), (some (29, true)), [20, 16]⟩,
                ⟨(some 35), .fld 1 (.t 3), (some (29, true)), [16]⟩,
                ⟨(some 36), .load none (.t 35), (some (29, true)), [22, 16]⟩,
                ⟨(some 37), .bin .eql (.t 34) (.t 36), (some (29, true)), [21, 23, 16]⟩,
                ⟨(some 38), .pick (.t 29) (.t 37) (.v (.bool false)), none, [16, 24]⟩])
           (.cond (.t 38)
             (.reg false [⟨(some 39), .mv (.t 5), none, []⟩,
                  ⟨(some 40), .mv (.t 6), none, []⟩,
                  ⟨(some 41), .bslice 3 1 [(.int .i64 0)] 1 [(0, 1, (.t 40))], none, [1]⟩,
                  ⟨(some 42), .append 3 1 8 (.t 39) (.t 41), none, [0, 2]⟩,
                  ⟨(some 5), .mv (.t 42), none, [3, 3, 0, 1, 2, 3]⟩])
             (.skip))))
         (.reg false [⟨(some 11), .mv (.t 6), none, []⟩,
              ⟨(some 12), .bin .add (.t 11) (.v (.int .i64 1)), none, [0]⟩,
              ⟨(some 6), .mv (.t 12), none, [1, 0, 1]⟩]))))))
    (.seq (.reg false [⟨(some 43), .mv (.t 5), none, []⟩,
          ⟨(some 4), .mv (.t 43), none, [0, 0]⟩])
     (.ret))))
def pr28 : List PR := [.t 4]
abbrev ms28_0 : List Nat := [7, 8, 9, 10, 13, 14, 15, 16, 17, 18, 19, 20, 21, 22, 23, 24, 25, 26, 27, 28, 29, 30, 31, 32, 33, 34, 35, 36, 37, 38, 39, 40, 41, 42, 5, 11, 12, 6]
abbrev os28_0 : List Nat := [41, 5]
theorem bd28 : Try.f28.body = some (Try.f28.body.getD .skip) := by kernel_rfl
theorem cp28 : compC Try.prog Try.f28.ntmps eqsL (Try.f28.body.getD .skip) = some pc28 := by kernel_rfl
theorem sp28 [WInv] {env : Env} (hE : EnvOK Try.prog env) {R : List Pa → List Pa → Prop} (hR : ∀ ps rs, R ps rs → ps.length ≤ 44 ∧ pwp env pc28 (fun e s => (e = .normal ∨ e = .ret) ∧ s.res pr28 = some rs) (St.init ps)) : Spec Try.prog 28 R :=
  fn_sound hE eqsOK mixedOK Try.func28 bd28 cp28 (by kernel_rfl) (by kernel_rfl) hR

/-! interleave/interleaveref30.Same -/
def pc29 : PC :=
 .seq (.reg false [⟨(some 4), .mv (.v (.bool false)), none, []⟩])
  (.seq (.seq (.reg false [⟨(some 6), .mv (.t 0), none, []⟩,
         ⟨(some 7), .len (.t 6), none, [0]⟩,
         ⟨(some 8), .mv (.t 1), none, []⟩,
         ⟨(some 9), .len (.t 8), none, [2]⟩,
         ⟨(some 10), .bin .neq (.t 7) (.t 9), none, [1, 3]⟩])
    (.cond (.t 10)
      (.seq (.reg false [⟨(some 4), .mv (.v (.bool false)), none, []⟩])
       (.ret))
      (.skip)))
   (.seq (.seq (.reg false [⟨(some 5), .mv (.v (.int .i64 0)), none, []⟩])
     (.block 0 (.loop (.seq (.seq (.reg false [⟨(some 11), .mv (.t 5), none, []⟩,
              ⟨(some 12), .mv (.t 0), none, []⟩,
              ⟨(some 13), .len (.t 12), none, [1]⟩,
              ⟨(some 14), .bin .lss (.t 11) (.t 13), none, [0, 2]⟩])
         (.cond (.t 14)
           (.skip)
           (.exit 0)))
        (.seq (.block 1 (.seq (.reg true [⟨(some 17), .mv (.t 0), none, []⟩,
                ⟨(some 18), .mv (.t 5), none, []⟩,
                ⟨(some 19), .ixs 9 (.t 17) (.t 18), none, [0, 1]⟩,
                ⟨(some 20), .load (some 9) (.t 19), none, [2]⟩,
                ⟨(some 21), .mv (.t 1), none, []⟩,
                ⟨(some 22), .mv (.t 5), none, []⟩,
                ⟨(some 23), .ixs 9 (.t 21) (.t 22), none, [4, 5]⟩,
                ⟨(some 24), .load (some 9) (.t 23), none, [6]⟩,
                ⟨(some 25), .eqs true [false, false, false, false, false, false, false, false, false] (.t 20) (.t 24), none, [3, 7]⟩])
           (.cond (.t 25)
             (.seq (.reg false [⟨(some 4), .mv (.v (.bool false)), none, []⟩])
              (.ret))
             (.skip))))
         (.reg false [⟨(some 15), .mv (.t 5), none, []⟩,
              ⟨(some 16), .bin .add (.t 15) (.v (.int .i64 1)), none, [0]⟩,
              ⟨(some 5), .mv (.t 16), none, [1, 0, 1]⟩]))))))
    (.seq (.reg false [⟨(some 4), .mv (.v (.bool true)), none, []⟩])
     (.ret))))
def pr29 : List PR := [.t 4]
abbrev ms29_0 : List Nat := [11, 12, 13, 14, 17, 18, 19, 20, 21, 22, 23, 24, 25, 4, 15, 16, 5]
abbrev os29_0 : List Nat := []
theorem bd29 : Try.f29.body = some (Try.f29.body.getD .skip) := by kernel_rfl
theorem cp29 : compC Try.prog Try.f29.ntmps eqsL (Try.f29.body.getD .skip) = some pc29 := by kernel_rfl
theorem sp29 [WInv] {env : Env} (hE : EnvOK Try.prog env) {R : List Pa → List Pa → Prop} (hR : ∀ ps rs, R ps rs → ps.length ≤ 26 ∧ pwp env pc29 (fun e s => (e = .normal ∨ e = .ret) ∧ s.res pr29 = some rs) (St.init ps)) : Spec Try.prog 29 R :=
  fn_sound hE eqsOK mixedOK Try.func29 bd29 cp29 (by kernel_rfl) (by kernel_rfl) hR

/-! interleave/interleaveref30.Project -/
def pc31 : PC :=
 .seq (.reg false [⟨(some 4), .nilRow 31 9, none, []⟩])
  (.seq (.reg false [⟨(some 5), .nilRow 31 9, none, []⟩])
   (.seq (.seq (.reg false [⟨(some 6), .mv (.v (.int .i64 0)), none, []⟩])
     (.block 0 (.loop (.seq (.seq (.reg false [⟨(some 7), .mv (.t 6), none, []⟩,
              ⟨(some 8), .mv (.t 0), none, []⟩,
              ⟨(some 9), .len (.t 8), none, [1]⟩,
              ⟨(some 10), .bin .lss (.t 7) (.t 9), none, [0, 2]⟩])
         (.cond (.t 10)
           (.skip)
           (.exit 0)))
        (.seq (.block 1 (.seq (.reg false [⟨(some 13), .mv (.t 0), none, []⟩,
                ⟨(some 14), .mv (.t 6), none, []⟩,
                ⟨(some 15), .ixs 9 (.t 13) (.t 14), none, [0, 1]⟩,
                ⟨(some 16), .fld 0 (.t 15), none, [2]⟩,
                ⟨(some 17), .load none (.t 16), none, [3]⟩,
                ⟨(some 18), .mv (.t 1), none, []⟩,
                ⟨(some 19), .bin .eql (.t 17) (.t 18), none, [4, 5]⟩])
           (.cond (.t 19)
             (.reg false [⟨(some 20), .mv (.t 5), none, []⟩,
                  ⟨(some 21), .mv (.t 0), none, []⟩,
                  ⟨(some 22), .mv (.t 6), none, []⟩,
                  ⟨(some 23), .ixs 9 (.t 21) (.t 22), none, [1, 2]⟩,
                  ⟨(some 24), .load (some 9) (.t 23), none, [3]⟩,
                  ⟨(some 25), .bslice 31 9 [(.int .i64 0), (.int .i64 0), (.int .i64 0), (.int .i64 0), (.int .i64 0), (.int .i64 0), (.int .i64 0), (.int .i64 0), (.int .i64 0)] 1 [(0, 9, (.t 24))], none, [4]⟩,
                  ⟨(some 26), .append 31 9 72 (.t 20) (.t 25), none, [0, 5]⟩,
                  ⟨(some 5), .mv (.t 26), none, [6, 6, 0, 1, 2, 3, 4, 5, 6]⟩])
             (.skip))))
         (.reg false [⟨(some 11), .mv (.t 6), none, []⟩,
              ⟨(some 12), .bin .add (.t 11) (.v (.int .i64 1)), none, [0]⟩,
              ⟨(some 6), .mv (.t 12), none, [1, 0, 1]⟩]))))))
    (.seq (.reg false [⟨(some 27), .mv (.t 5), none, []⟩,
          ⟨(some 4), .mv (.t 27), none, [0, 0]⟩])
     (.ret))))
def pr31 : List PR := [.t 4]
abbrev ms31_0 : List Nat := [7, 8, 9, 10, 13, 14, 15, 16, 17, 18, 19, 20, 21, 22, 23, 24, 25, 26, 5, 11, 12, 6]
abbrev os31_0 : List Nat := [25, 5]
theorem bd31 : Try.f31.body = some (Try.f31.body.getD .skip) := by kernel_rfl
theorem cp31 : compC Try.prog Try.f31.ntmps eqsL (Try.f31.body.getD .skip) = some pc31 := by kernel_rfl
theorem sp31 [WInv] {env : Env} (hE : EnvOK Try.prog env) {R : List Pa → List Pa → Prop} (hR : ∀ ps rs, R ps rs → ps.length ≤ 28 ∧ pwp env pc31 (fun e s => (e = .normal ∨ e = .ret) ∧ s.res pr31 = some rs) (St.init ps)) : Spec Try.prog 31 R :=
  fn_sound hE eqsOK mixedOK Try.func31 bd31 cp31 (by kernel_rfl) (by kernel_rfl) hR

/-! interleave/interleaveref30.mod -/
def pc35 : PC :=
 .seq (.reg false [⟨(some 4), .mv (.v (.int .i64 0)), none, []⟩])
  (.seq (.reg false [⟨(some 5), .mv (.t 0), none, []⟩,
        ⟨(some 6), .mv (.t 1), none, []⟩,
        ⟨(some 7), .bin .rem (.t 5) (.t 6), none, [0, 1]⟩,
        ⟨(some 8), .mv (.t 1), none, []⟩,
        ⟨(some 9), .bin .add (.t 7) (.t 8), none, [2, 3]⟩,
        ⟨(some 10), .mv (.t 1), none, []⟩,
        ⟨(some 11), .bin .rem (.t 9) (.t 10), none, [4, 5]⟩,
        ⟨(some 4), .mv (.t 11), none, [6, 0, 1, 2, 3, 4, 5, 6]⟩])
   (.ret))
def pr35 : List PR := [.t 4]
theorem bd35 : Try.f35.body = some (Try.f35.body.getD .skip) := by kernel_rfl
theorem cp35 : compC Try.prog Try.f35.ntmps eqsL (Try.f35.body.getD .skip) = some pc35 := by kernel_rfl
theorem sp35 [WInv] {env : Env} (hE : EnvOK Try.prog env) {R : List Pa → List Pa → Prop} (hR : ∀ ps rs, R ps rs → ps.length ≤ 12 ∧ pwp env pc35 (fun e s => (e = .normal ∨ e = .ret) ∧ s.res pr35 = some rs) (St.init ps)) : Spec Try.prog 35 R :=
  fn_sound hE eqsOK mixedOK Try.func35 bd35 cp35 (by kernel_rfl) (by kernel_rfl) hR

/-! interleave/interleaveref30.Valid -/
def pc47 : PC :=
 .seq (.reg false [⟨(some 2), .mv (.v (.bool false)), none, []⟩])
  (.seq (.reg false [⟨(some 6), .mv (.t 0), none, []⟩,
        ⟨(some 7), .call 14 [(.t 6)], none, [0]⟩,
        ⟨(some 5), .mv (.t 7), none, [1]⟩,
        ⟨(some 8), .ext (.t 5) 0, none, [2]⟩,
        ⟨(some 9), .ext (.t 5) 1, none, [2]⟩,
        ⟨(some 3), .mv (.t 8), none, [3, 1, 0, 1, 2, 3]⟩,
        ⟨(some 4), .mv (.t 9), none, [4, 5, 0, 1, 2, 3, 4, 5]⟩])
   (.seq (.reg false [⟨(some 10), .mv (.t 4), none, []⟩,
         ⟨(some 2), .mv (.t 10), none, [0, 0]⟩])
    (.ret)))
def pr47 : List PR := [.t 2]
theorem bd47 : Try.f47.body = some (Try.f47.body.getD .skip) := by kernel_rfl
theorem cp47 : compC Try.prog Try.f47.ntmps eqsL (Try.f47.body.getD .skip) = some pc47 := by kernel_rfl
theorem sp47 [WInv] {env : Env} (hE : EnvOK Try.prog env) {R : List Pa → List Pa → Prop} (hR : ∀ ps rs, R ps rs → ps.length ≤ 11 ∧ pwp env pc47 (fun e s => (e = .normal ∨ e = .ret) ∧ s.res pr47 = some rs) (St.init ps)) : Spec Try.prog 47 R :=
  fn_sound hE eqsOK mixedOK Try.func47 bd47 cp47 (by kernel_rfl) (by kernel_rfl) hR

/-! interleave/interleaveref30.After -/
def pc48 : PC :=
 .seq (.reg false [⟨(some 2), .new [(.int .i64 0), (.int .i64 0), (.slice none 0 0), (.slice none 0 0), (.slice none 0 0), (.slice none 0 0), (.int .i64 0), (.int .i64 0), (.int .i64 0)], none, []⟩])
  (.seq (.reg false [⟨(some 7), .call 19 [], none, []⟩,
        ⟨(some 3), .new [(.int .i64 0), (.int .i64 0), (.slice none 0 0), (.slice none 0 0), (.slice none 0 0), (.slice none 0 0), (.int .i64 0), (.int .i64 0), (.int .i64 0)], none, []⟩,
        ⟨none, .store 9 (.t 3) (.t 7), none, [1, 0, 0, 0, 1]⟩])
   (.seq (.seq (.reg false [⟨(some 4), .mv (.v (.int .i64 0)), none, []⟩])
     (.block 0 (.loop (.seq (.seq (.reg false [⟨(some 8), .mv (.t 4), none, []⟩,
              ⟨(some 9), .mv (.t 0), none, []⟩,
              ⟨(some 10), .len (.t 9), none, [1]⟩,
              ⟨(some 11), .bin .lss (.t 8) (.t 10), none, [0, 2]⟩])
         (.cond (.t 11)
           (.skip)
           (.exit 0)))
        (.seq (.block 1 (.seq (.reg true [⟨(some 15), .load (some 9) (.t 3), none, []⟩,
                ⟨(some 16), .mv (.t 0), none, []⟩,
                ⟨(some 17), .mv (.t 4), none, []⟩,
                ⟨(some 18), .ixs 9 (.t 16) (.t 17), none, [1, 2]⟩,
                ⟨(some 19), .load (some 9) (.t 18), none, [3]⟩,
                ⟨(some 20), .call 20 [(.t 15), (.t 19)], none, [0, 4]⟩,
                ⟨(some 14), .mv (.t 20), none, [5]⟩,
                ⟨(some 21), .ext (.t 14) 0, none, [6]⟩,
                ⟨(some 22), .ext (.t 14) 1, none, [6]⟩,
                ⟨(some 5), .new [(.int .i64 0), (.int .i64 0), (.slice none 0 0), (.slice none 0 0), (.slice none 0 0), (.slice none 0 0), (.int .i64 0), (.int .i64 0), (.int .i64 0)], none, []⟩,
                ⟨none, .store 9 (.t 5) (.t 21), none, [9, 7, 5, 0, 1, 2, 3, 4, 5, 6, 7, 9]⟩,
                ⟨(some 6), .mv (.t 22), none, [8, 10, 0, 1, 2, 3, 4, 5, 6, 7, 8, 9, 10]⟩])
           (.seq (.seq (.reg false [⟨(some 23), .mv (.t 6), none, []⟩,
                  ⟨(some 24), .un .not (.t 23), none, [0]⟩])
             (.cond (.t 24)
               (.seq (.reg false [⟨(some 25), .load (some 9) (.t 3), none, []⟩,
                     ⟨none, .store 9 (.t 2) (.t 25), none, [0, 0]⟩])
                (.ret))
               (.skip)))
            (.reg false [⟨(some 26), .load (some 9) (.t 5), none, []⟩,
                 ⟨none, .store 9 (.t 3) (.t 26), none, [0, 0]⟩]))))
         (.reg false [⟨(some 12), .mv (.t 4), none, []⟩,
              ⟨(some 13), .bin .add (.t 12) (.v (.int .i64 1)), none, [0]⟩,
              ⟨(some 4), .mv (.t 13), none, [1, 0, 1]⟩]))))))
    (.seq (.reg false [⟨(some 27), .load (some 9) (.t 3), none, []⟩,
          ⟨none, .store 9 (.t 2) (.t 27), none, [0, 0]⟩])
     (.ret))))
def pr48 : List PR := [.c 2 (some 9)]
abbrev ms48_0 : List Nat := [8, 9, 10, 11, 15, 16, 17, 18, 19, 20, 14, 21, 22, 5, 6, 23, 24, 25, 26, 12, 13, 4]
abbrev os48_0 : List Nat := [5, 2, 3]
theorem bd48 : Try.f48.body = some (Try.f48.body.getD .skip) := by kernel_rfl
theorem cp48 : compC Try.prog Try.f48.ntmps eqsL (Try.f48.body.getD .skip) = some pc48 := by kernel_rfl
theorem sp48 [WInv] {env : Env} (hE : EnvOK Try.prog env) {R : List Pa → List Pa → Prop} (hR : ∀ ps rs, R ps rs → ps.length ≤ 28 ∧ pwp env pc48 (fun e s => (e = .normal ∨ e = .ret) ∧ s.res pr48 = some rs) (St.init ps)) : Spec Try.prog 48 R :=
  fn_sound hE eqsOK mixedOK Try.func48 bd48 cp48 (by kernel_rfl) (by kernel_rfl) hR

/-! interleave/interleaveref30.one -/
def pc54 : PC :=
 .seq (.reg false [⟨(some 4), .box (.t 0), none, []⟩,
       ⟨(some 8), .nilRow 31 9, none, []⟩])
  (.seq (.reg false [⟨(some 9), .mv (.t 1), none, []⟩,
        ⟨(some 10), .mv (.t 2), none, []⟩,
        ⟨(some 11), .mv (.t 3), none, []⟩,
        ⟨(some 12), .fld 1 (.t 4), none, [0]⟩,
        ⟨none, .store 1 (.t 12) (.t 9), none, [3, 0, 0]⟩,
        ⟨(some 13), .fld 2 (.t 4), none, [0, 1, 3, 4]⟩,
        ⟨none, .store 1 (.t 13) (.t 10), none, [5, 1, 4, 0, 1, 3, 4]⟩,
        ⟨(some 14), .fld 3 (.t 4), none, [0, 1, 2, 3, 4, 5, 6]⟩,
        ⟨none, .store 1 (.t 14) (.t 11), none, [7, 2, 6, 0, 1, 2, 3, 4, 5, 6]⟩])
   (.seq (.reg false [⟨(some 15), .load (some 9) (.t 4), none, []⟩,
         ⟨(some 16), .bslice 31 9 [(.int .i64 0), (.int .i64 0), (.int .i64 0), (.int .i64 0), (.int .i64 0), (.int .i64 0), (.int .i64 0), (.int .i64 0), (.int .i64 0)] 1 [(0, 9, (.t 15))], none, [0]⟩,
         ⟨(some 8), .mv (.t 16), none, [1, 0, 1]⟩])
    (.ret)))
def pr54 : List PR := [.t 8]
theorem bd54 : Try.f54.body = some (Try.f54.body.getD .skip) := by kernel_rfl
theorem cp54 : compC Try.prog Try.f54.ntmps eqsL (Try.f54.body.getD .skip) = some pc54 := by kernel_rfl
theorem sp54 [WInv] {env : Env} (hE : EnvOK Try.prog env) {R : List Pa → List Pa → Prop} (hR : ∀ ps rs, R ps rs → ps.length ≤ 17 ∧ pwp env pc54 (fun e s => (e = .normal ∨ e = .ret) ∧ s.res pr54 = some rs) (St.init ps)) : Spec Try.prog 54 R :=
  fn_sound hE eqsOK mixedOK Try.func54 bd54 cp54 (by kernel_rfl) (by kernel_rfl) hR

/-! interleave/interleaveref30.part -/
def pc56 : PC :=
 .seq (.reg false [⟨(some 3), .box (.t 0), none, []⟩,
       ⟨(some 6), .new [(.int .i64 0), (.int .i64 0), (.int .i64 0), (.int .i64 0), (.int .i64 0), (.int .i64 0), (.int .i64 0), (.int .i64 0), (.int .i64 0)], none, []⟩])
  (.seq (.reg false [⟨(some 7), .mv (.t 1), none, []⟩,
        ⟨(some 8), .mv (.t 2), none, []⟩,
        ⟨(some 9), .fld 1 (.t 3), none, [0]⟩,
        ⟨none, .store 1 (.t 9) (.t 7), none, [2, 0, 0]⟩,
        ⟨(some 10), .fld 4 (.t 3), none, [0, 1, 2, 3]⟩,
        ⟨none, .store 1 (.t 10) (.t 8), none, [4, 1, 3, 0, 1, 2, 3]⟩])
   (.seq (.reg false [⟨(some 11), .load (some 9) (.t 3), none, []⟩,
         ⟨none, .store 9 (.t 6) (.t 11), none, [0, 0]⟩])
    (.ret)))
def pr56 : List PR := [.c 6 (some 9)]
theorem bd56 : Try.f56.body = some (Try.f56.body.getD .skip) := by kernel_rfl
theorem cp56 : compC Try.prog Try.f56.ntmps eqsL (Try.f56.body.getD .skip) = some pc56 := by kernel_rfl
theorem sp56 [WInv] {env : Env} (hE : EnvOK Try.prog env) {R : List Pa → List Pa → Prop} (hR : ∀ ps rs, R ps rs → ps.length ≤ 12 ∧ pwp env pc56 (fun e s => (e = .normal ∨ e = .ret) ∧ s.res pr56 = some rs) (St.init ps)) : Spec Try.prog 56 R :=
  fn_sound hE eqsOK mixedOK Try.func56 bd56 cp56 (by kernel_rfl) (by kernel_rfl) hR

/-! interleave/interleaveref20.Valid -/
def pc37c0 : PC :=
 .seq (.reg false [⟨(some 108), .fld 4 (.t 1), none, []⟩,
            ⟨(some 109), .load none (.t 108), none, [0]⟩,
            ⟨(some 110), .bin .eql (.t 109) (.v (.int .i64 0)), none, [1]⟩,
            ⟨(some 111), .mv (.t 110), none, [2]⟩,
            ⟨(some 112), .fld 5 (.t 1), (some (111, true)), [3]⟩,
            ⟨(some 113), .load none (.t 112), (some (111, true)), [4, 3]⟩,
            ⟨(some 114), .bin .eql (.t 113) (.v (.int .i64 0)), (some (111, true)), [5, 3]⟩,
            ⟨(some 115), .pick (.t 111) (.t 114) (.v (.bool false)), none, [3, 6]⟩,
            ⟨(some 2), .mv (.t 115), none, [7, 3, 0, 1, 2, 3, 4, 5, 6, 7]⟩])
       (.ret)
def pc37c1 : PC :=
 .seq (.reg false [⟨(some 56), .fld 2 (.t 1), none, []⟩,
                 ⟨(some 57), .load none (.t 56), none, [0]⟩,
                 ⟨(some 58), .bin .eql (.t 57) (.v (.int .i64 0)), none, [1]⟩,
                 ⟨(some 59), .mv (.t 58), none, [2]⟩,
                 ⟨(some 60), .fld 3 (.t 1), (some (59, true)), [3]⟩,
                 ⟨(some 61), .load none (.t 60), (some (59, true)), [4, 3]⟩,
                 ⟨(some 62), .bin .eql (.t 61) (.v (.int .i64 0)), (some (59, true)), [5, 3]⟩,
                 ⟨(some 63), .pick (.t 59) (.t 62) (.v (.bool false)), none, [3, 6]⟩,
                 ⟨(some 64), .mv (.t 63), none, [7, 3]⟩,
                 ⟨(some 65), .fld 5 (.t 1), (some (64, true)), [8]⟩,
                 ⟨(some 66), .load none (.t 65), (some (64, true)), [9, 8]⟩,
                 ⟨(some 67), .bin .eql (.t 66) (.v (.int .i64 0)), (some (64, true)), [10, 8]⟩,
                 ⟨(some 68), .pick (.t 64) (.t 67) (.v (.bool false)), none, [8, 11]⟩,
                 ⟨(some 69), .mv (.t 68), none, [12, 8]⟩,
                 ⟨(some 70), .fld 4 (.t 1), (some (69, true)), [13]⟩,
                 ⟨(some 71), .load none (.t 70), (some (69, true)), [14, 13]⟩,
                 ⟨(some 72), .bin .gtr (.t 71) (.v (.int .i64 0)), (some (69, true)), [15, 13]⟩,
                 ⟨(some 73), .pick (.t 69) (.t 72) (.v (.bool false)), none, [13, 16]⟩,
                 ⟨(some 74), .mv (.t 73), none, [17, 13]⟩,
                 ⟨(some 75), .fld 4 (.t 1), (some (74, true)), [18]⟩,
                 ⟨(some 76), .load none (.t 75), (some (74, true)), [19, 18]⟩,
                 ⟨(some 77), .bin .lss (.t 76) (.v (.int .i64 8)), (some (74, true)), [20, 18]⟩,
                 ⟨(some 78), .pick (.t 74) (.t 77) (.v (.bool false)), none, [18, 21]⟩,
                 ⟨(some 2), .mv (.t 78), none, [22, 18, 0, 1, 2, 3, 4, 5, 6, 7, 8, 9, 10, 11, 12, 13, 14, 15, 16, 17, 18, 19, 20, 21, 22]⟩])
            (.ret)
def pc37c2 : PC :=
 .seq (.reg false [⟨(some 84), .fld 3 (.t 1), none, []⟩,
                    ⟨(some 85), .load none (.t 84), none, [0]⟩,
                    ⟨(some 86), .bin .eql (.t 85) (.v (.int .i64 0)), none, [1]⟩,
                    ⟨(some 87), .mv (.t 86), none, [2]⟩,
                    ⟨(some 88), .fld 5 (.t 1), (some (87, true)), [3]⟩,
                    ⟨(some 89), .load none (.t 88), (some (87, true)), [4, 3]⟩,
                    ⟨(some 90), .bin .leq (.t 89) (.v (.int .i64 64)), (some (87, true)), [5, 3]⟩,
                    ⟨(some 91), .pick (.t 87) (.t 90) (.v (.bool false)), none, [3, 6]⟩,
                    ⟨(some 2), .mv (.t 91), none, [7, 3, 0, 1, 2, 3, 4, 5, 6, 7]⟩])
               (.ret)
def pc37c3 : PC :=
 .seq (.reg false [⟨(some 95), .fld 3 (.t 1), none, []⟩,
                       ⟨(some 96), .load none (.t 95), none, [0]⟩,
                       ⟨(some 97), .bin .eql (.t 96) (.v (.int .i64 0)), none, [1]⟩,
                       ⟨(some 98), .mv (.t 97), none, [2]⟩,
                       ⟨(some 99), .fld 4 (.t 1), (some (98, true)), [3]⟩,
                       ⟨(some 100), .load none (.t 99), (some (98, true)), [4, 3]⟩,
                       ⟨(some 101), .bin .eql (.t 100) (.v (.int .i64 0)), (some (98, true)), [5, 3]⟩,
                       ⟨(some 102), .pick (.t 98) (.t 101) (.v (.bool false)), none, [3, 6]⟩,
                       ⟨(some 103), .mv (.t 102), none, [7, 3]⟩,
                       ⟨(some 104), .fld 5 (.t 1), (some (103, true)), [8]⟩,
                       ⟨(some 105), .load none (.t 104), (some (103, true)), [9, 8]⟩,
                       ⟨(some 106), .bin .leq (.t 105) (.v (.int .i64 64)), (some (103, true)), [10, 8]⟩,
                       ⟨(some 107), .pick (.t 103) (.t 106) (.v (.bool false)), none, [8, 11]⟩,
                       ⟨(some 2), .mv (.t 107), none, [12, 8, 0, 1, 2, 3, 4, 5, 6, 7, 8, 9, 10, 11, 12]⟩])
                  (.ret)
def pc37c4 : PC :=
 .seq (.seq (.reg false [⟨(some 93), .bin .eql (.t 53) (.v (.int .i64 19)), none, []⟩,
                     ⟨(some 92), .mv (.t 93), none, [0]⟩])
                (.cond (.t 92)
                  (.skip)
                  (.reg false [⟨(some 94), .bin .eql (.t 53) (.v (.int .i64 20)), none, []⟩,
                       ⟨(some 92), .mv (.t 94), none, [0]⟩])))
               (.cond (.t 92)
                 (pc37c3)
                 (.skip))
def pc37c5 : PC :=
 .seq (.seq (.reg false [⟨(some 80), .bin .eql (.t 53) (.v (.int .i64 15)), none, []⟩,
                  ⟨(some 79), .mv (.t 80), none, [0]⟩])
             (.cond (.t 79)
               (.skip)
               (.seq (.reg false [⟨(some 81), .bin .eql (.t 53) (.v (.int .i64 16)), none, []⟩,
                     ⟨(some 79), .mv (.t 81), none, [0]⟩])
                (.cond (.t 79)
                  (.skip)
                  (.seq (.reg false [⟨(some 82), .bin .eql (.t 53) (.v (.int .i64 17)), none, []⟩,
                        ⟨(some 79), .mv (.t 82), none, [0]⟩])
                   (.cond (.t 79)
                     (.skip)
                     (.reg false [⟨(some 83), .bin .eql (.t 53) (.v (.int .i64 18)), none, []⟩,
                          ⟨(some 79), .mv (.t 83), none, [0]⟩])))))))
            (.cond (.t 79)
              (pc37c2)
              (pc37c4))
def pc37c6 : PC :=
 .seq (.reg false [⟨(some 52), .fld 1 (.t 1), none, []⟩,
            ⟨(some 53), .load none (.t 52), none, [0]⟩])
       (.block 2 (.seq (.reg false [⟨(some 55), .bin .eql (.t 53) (.v (.int .i64 14)), none, []⟩,
              ⟨(some 54), .mv (.t 55), none, [0]⟩])
         (.cond (.t 54)
           (pc37c1)
           (pc37c5))))
def pc37c7 : PC :=
 .seq (pc37c6)
      (pc37c0)
def pc37c8 : PC :=
 .seq (.seq (.reg false [⟨(some 4), .mv (.v (.int .i64 0)), none, []⟩])
      (.block 0 (.loop (.seq (.seq (.reg false [⟨(some 34), .mv (.t 4), none, []⟩,
               ⟨(some 35), .mv (.t 3), none, []⟩,
               ⟨(some 36), .len (.t 35), none, [1]⟩,
               ⟨(some 37), .bin .lss (.t 34) (.t 36), none, [0, 2]⟩])
          (.cond (.t 37)
            (.skip)
            (.exit 0)))
         (.seq (.block 1 (.seq (.reg false [⟨(some 40), .mv (.t 3), none, []⟩,
                 ⟨(some 41), .mv (.t 4), none, []⟩,
                 ⟨(some 42), .ixs 1 (.t 40) (.t 41), none, [0, 1]⟩,
                 ⟨(some 43), .load none (.t 42), none, [2]⟩,
                 ⟨(some 44), .bin .lss (.t 43) (.v (.int .i64 0)), none, [3]⟩,
                 ⟨(some 45), .mv (.t 44), none, [4]⟩,
                 ⟨(some 46), .mv (.t 3), (some (45, false)), [5]⟩,
                 ⟨(some 47), .mv (.t 4), (some (45, false)), [5]⟩,
                 ⟨(some 48), .ixs 1 (.t 46) (.t 47), (some (45, false)), [6, 7, 5]⟩,
                 ⟨(some 49), .load none (.t 48), (some (45, false)), [8, 5]⟩,
                 ⟨(some 50), .bin .gtr (.t 49) (.v (.int .i64 2147483647)), (some (45, false)), [9, 5]⟩,
                 ⟨(some 51), .pick (.t 45) (.v (.bool true)) (.t 50), none, [5, 10]⟩])
            (.cond (.t 51)
              (.seq (.reg false [⟨(some 2), .mv (.v (.bool false)), none, []⟩])
               (.ret))
              (.skip))))
          (.reg false [⟨(some 38), .mv (.t 4), none, []⟩,
               ⟨(some 39), .bin .add (.t 38) (.v (.int .i64 1)), none, [0]⟩,
               ⟨(some 4), .mv (.t 39), none, [1, 0, 1]⟩]))))))
     (pc37c7)
def pc37c9 : PC :=
 .seq (.reg false [⟨(some 19), .fld 2 (.t 1), none, []⟩,
         ⟨(some 20), .load none (.t 19), none, [0]⟩,
         ⟨(some 21), .fld 3 (.t 1), none, []⟩,
         ⟨(some 22), .load none (.t 21), none, [2]⟩,
         ⟨(some 23), .fld 4 (.t 1), none, []⟩,
         ⟨(some 24), .load none (.t 23), none, [4]⟩,
         ⟨(some 25), .fld 5 (.t 1), none, []⟩,
         ⟨(some 26), .load none (.t 25), none, [6]⟩,
         ⟨(some 27), .fld 6 (.t 1), none, []⟩,
         ⟨(some 28), .load none (.t 27), none, [8]⟩,
         ⟨(some 29), .fld 7 (.t 1), none, []⟩,
         ⟨(some 30), .load none (.t 29), none, [10]⟩,
         ⟨(some 31), .fld 8 (.t 1), none, []⟩,
         ⟨(some 32), .load none (.t 31), none, [12]⟩,
         ⟨(some 33), .bslice 3 1 [(.int .i64 0), (.int .i64 0), (.int .i64 0), (.int .i64 0), (.int .i64 0), (.int .i64 0), (.int .i64 0)] 7 [(0, 1, (.t 20)), (1, 1, (.t 22)), (2, 1, (.t 24)), (3, 1, (.t 26)), (4, 1, (.t 28)), (5, 1, (.t 30)), (6, 1, (.t 32))], none, [1, 3, 5, 7, 9, 11, 13]⟩,
         ⟨(some 3), .mv (.t 33), none, [14, 0, 1, 2, 3, 4, 5, 6, 7, 8, 9, 10, 11, 12, 13, 14]⟩])
    (pc37c8)
def pc37 : PC :=
 .seq (.reg false [⟨(some 1), .box (.t 0), none, []⟩,
       ⟨(some 2), .mv (.v (.bool false)), none, []⟩])
  (.seq (.seq (.reg false [⟨(some 5), .fld 0 (.t 1), none, []⟩,
         ⟨(some 6), .load none (.t 5), none, [0]⟩,
         ⟨(some 7), .bin .lss (.t 6) (.v (.int .i64 0)), none, [1]⟩,
         ⟨(some 8), .mv (.t 7), none, [2]⟩,
         ⟨(some 9), .fld 0 (.t 1), (some (8, false)), [3]⟩,
         ⟨(some 10), .load none (.t 9), (some (8, false)), [4, 3]⟩,
         ⟨(some 11), .bin .geq (.t 10) (.v (.int .i64 8)), (some (8, false)), [5, 3]⟩,
         ⟨(some 12), .pick (.t 8) (.v (.bool true)) (.t 11), none, [3, 6]⟩,
         ⟨(some 13), .mv (.t 12), none, [7, 3]⟩,
         ⟨(some 14), .fld 1 (.t 1), (some (13, false)), [8]⟩,
         ⟨(some 15), .load none (.t 14), (some (13, false)), [9, 8]⟩,
         ⟨(some 16), .call 57 [(.t 15)], (some (13, false)), [10, 8, 8]⟩,
         ⟨(some 17), .bin .eql (.t 16) (.v (.string ⟨#[]⟩)), (some (13, false)), [11, 8]⟩,
         ⟨(some 18), .pick (.t 13) (.v (.bool true)) (.t 17), none, [8, 12]⟩])
    (.cond (.t 18)
      (.seq (.reg false [⟨(some 2), .mv (.v (.bool false)), none, []⟩])
       (.ret))
      (.skip)))
   (pc37c9))
def pr37 : List PR := [.t 2]
abbrev ms37_0 : List Nat := [34, 35, 36, 37, 40, 41, 42, 43, 44, 45, 46, 47, 48, 49, 50, 51, 2, 38, 39, 4]
abbrev os37_0 : List Nat := []
theorem bd37 : Try.f37.body = some (Try.f37.body.getD .skip) := by kernel_rfl
theorem cp37 : compC Try.prog Try.f37.ntmps eqsL (Try.f37.body.getD .skip) = some pc37 := by kernel_rfl
theorem sp37 [WInv] {env : Env} (hE : EnvOK Try.prog env) {R : List Pa → List Pa → Prop} (hR : ∀ ps rs, R ps rs → ps.length ≤ 116 ∧ pwp env pc37 (fun e s => (e = .normal ∨ e = .ret) ∧ s.res pr37 = some rs) (St.init ps)) : Spec Try.prog 37 R :=
  fn_sound hE eqsOK mixedOK Try.func37 bd37 cp37 (by kernel_rfl) (by kernel_rfl) hR

/-! interleave/interleaveref20.Channel -/
def pc39 : PC :=
 .seq (.reg false [⟨(some 2), .mv (.v (.bool false)), none, []⟩])
  (.seq (.reg false [⟨(some 3), .mv (.t 0), none, []⟩,
        ⟨(some 4), .bin .geq (.t 3) (.v (.int .i64 15)), none, [0]⟩,
        ⟨(some 5), .mv (.t 4), none, [1]⟩,
        ⟨(some 6), .mv (.t 0), (some (5, true)), [2]⟩,
        ⟨(some 7), .bin .leq (.t 6) (.v (.int .i64 20)), (some (5, true)), [3, 2]⟩,
        ⟨(some 8), .pick (.t 5) (.t 7) (.v (.bool false)), none, [2, 4]⟩,
        ⟨(some 2), .mv (.t 8), none, [5, 2, 0, 1, 2, 3, 4, 5]⟩])
   (.ret))
def pr39 : List PR := [.t 2]
theorem bd39 : Try.f39.body = some (Try.f39.body.getD .skip) := by kernel_rfl
theorem cp39 : compC Try.prog Try.f39.ntmps eqsL (Try.f39.body.getD .skip) = some pc39 := by kernel_rfl
theorem sp39 [WInv] {env : Env} (hE : EnvOK Try.prog env) {R : List Pa → List Pa → Prop} (hR : ∀ ps rs, R ps rs → ps.length ≤ 9 ∧ pwp env pc39 (fun e s => (e = .normal ∨ e = .ret) ∧ s.res pr39 = some rs) (St.init ps)) : Spec Try.prog 39 R :=
  fn_sound hE eqsOK mixedOK Try.func39 bd39 cp39 (by kernel_rfl) (by kernel_rfl) hR

/-! interleave/interleaveref20.Memory -/
def pc50 : PC :=
 .seq (.reg false [⟨(some 2), .mv (.v (.bool false)), none, []⟩])
  (.seq (.reg false [⟨(some 3), .mv (.t 0), none, []⟩,
        ⟨(some 4), .bin .eql (.t 3) (.v (.int .i64 1)), none, [0]⟩,
        ⟨(some 5), .mv (.t 4), none, [1]⟩,
        ⟨(some 6), .mv (.t 0), (some (5, false)), [2]⟩,
        ⟨(some 7), .bin .eql (.t 6) (.v (.int .i64 2)), (some (5, false)), [3, 2]⟩,
        ⟨(some 8), .pick (.t 5) (.v (.bool true)) (.t 7), none, [2, 4]⟩,
        ⟨(some 2), .mv (.t 8), none, [5, 2, 0, 1, 2, 3, 4, 5]⟩])
   (.ret))
def pr50 : List PR := [.t 2]
theorem bd50 : Try.f50.body = some (Try.f50.body.getD .skip) := by kernel_rfl
theorem cp50 : compC Try.prog Try.f50.ntmps eqsL (Try.f50.body.getD .skip) = some pc50 := by kernel_rfl
theorem sp50 [WInv] {env : Env} (hE : EnvOK Try.prog env) {R : List Pa → List Pa → Prop} (hR : ∀ ps rs, R ps rs → ps.length ≤ 9 ∧ pwp env pc50 (fun e s => (e = .normal ∨ e = .ret) ∧ s.res pr50 = some rs) (St.init ps)) : Spec Try.prog 50 R :=
  fn_sound hE eqsOK mixedOK Try.func50 bd50 cp50 (by kernel_rfl) (by kernel_rfl) hR

/-! interleave/interleaveref20.Name -/
def pc57 : PC :=
 .seq (.reg false [⟨(some 2), .mv (.v (.string ⟨#[]⟩)), none, []⟩])
  (.seq (.reg false [⟨(some 4), .bslice 9 1 [(.string ⟨#[]⟩), (.string ⟨#[]⟩), (.string ⟨#[]⟩), (.string ⟨#[]⟩), (.string ⟨#[]⟩), (.string ⟨#[]⟩), (.string ⟨#[]⟩), (.string ⟨#[]⟩), (.string ⟨#[]⟩), (.string ⟨#[]⟩), (.string ⟨#[]⟩), (.string ⟨#[]⟩), (.string ⟨#[]⟩), (.string ⟨#[]⟩), (.string ⟨#[]⟩), (.string ⟨#[]⟩), (.string ⟨#[]⟩), (.string ⟨#[]⟩), (.string ⟨#[]⟩), (.string ⟨#[]⟩), (.string ⟨#[]⟩)] 21 [(0, 1, (.v (.string ⟨#[]⟩))), (1, 1, (.v (.string ⟨#[114, 101, 97, 100]⟩))), (2, 1, (.v (.string ⟨#[119, 114, 105, 116, 101]⟩))), (3, 1, (.v (.string ⟨#[97, 116, 111, 109, 105, 99, 45, 114, 101, 97, 100]⟩))), (4, 1, (.v (.string ⟨#[97, 116, 111, 109, 105, 99, 45, 119, 114, 105, 116, 101]⟩))), (5, 1, (.v (.string ⟨#[97, 116, 111, 109, 105, 99, 45, 98, 111, 116, 104]⟩))), (6, 1, (.v (.string ⟨#[108, 111, 99, 107]⟩))), (7, 1, (.v (.string ⟨#[117, 110, 108, 111, 99, 107]⟩))), (8, 1, (.v (.string ⟨#[114, 108, 111, 99, 107]⟩))), (9, 1, (.v (.string ⟨#[114, 117, 110, 108, 111, 99, 107]⟩))), (10, 1, (.v (.string ⟨#[100, 111, 110, 101]⟩))), (11, 1, (.v (.string ⟨#[119, 97, 105, 116]⟩))), (12, 1, (.v (.string ⟨#[111, 110, 99, 101, 45, 101, 110, 100]⟩))), (13, 1, (.v (.string ⟨#[111, 110, 99, 101, 45, 115, 101, 101, 110]⟩))), (14, 1, (.v (.string ⟨#[103, 111]⟩))), (15, 1, (.v (.string ⟨#[115, 101, 110, 100, 45, 115, 116, 97, 114, 116]⟩))), (16, 1, (.v (.string ⟨#[115, 101, 110, 100, 45, 101, 110, 100]⟩))), (17, 1, (.v (.string ⟨#[114, 101, 99, 118, 45, 115, 116, 97, 114, 116]⟩))), (18, 1, (.v (.string ⟨#[114, 101, 99, 118, 45, 101, 110, 100]⟩))), (19, 1, (.v (.string ⟨#[99, 108, 111, 115, 101]⟩))), (20, 1, (.v (.string ⟨#[114, 101, 99, 118, 45, 99, 108, 111, 115, 101, 100]⟩)))], none, []⟩,
        ⟨(some 3), .mv (.t 4), none, [0, 0]⟩])
   (.seq (.seq (.reg false [⟨(some 5), .mv (.t 0), none, []⟩,
          ⟨(some 6), .bin .lss (.t 5) (.v (.int .i64 1)), none, [0]⟩,
          ⟨(some 7), .mv (.t 6), none, [1]⟩,
          ⟨(some 8), .mv (.t 0), (some (7, false)), [2]⟩,
          ⟨(some 9), .bin .gtr (.t 8) (.v (.int .i64 20)), (some (7, false)), [3, 2]⟩,
          ⟨(some 10), .pick (.t 7) (.v (.bool true)) (.t 9), none, [2, 4]⟩])
     (.cond (.t 10)
       (.seq (.reg false [⟨(some 2), .mv (.v (.string ⟨#[]⟩)), none, []⟩])
        (.ret))
       (.skip)))
    (.seq (.reg false [⟨(some 11), .mv (.t 3), none, []⟩,
          ⟨(some 12), .mv (.t 0), none, []⟩,
          ⟨(some 13), .ixs 1 (.t 11) (.t 12), none, [0, 1]⟩,
          ⟨(some 14), .load none (.t 13), none, [2]⟩,
          ⟨(some 2), .mv (.t 14), none, [3, 0, 1, 2, 3]⟩])
     (.ret))))
def pr57 : List PR := [.t 2]
theorem bd57 : Try.f57.body = some (Try.f57.body.getD .skip) := by kernel_rfl
theorem cp57 : compC Try.prog Try.f57.ntmps eqsL (Try.f57.body.getD .skip) = some pc57 := by kernel_rfl
theorem sp57 [WInv] {env : Env} (hE : EnvOK Try.prog env) {R : List Pa → List Pa → Prop} (hR : ∀ ps rs, R ps rs → ps.length ≤ 15 ∧ pwp env pc57 (fun e s => (e = .normal ∨ e = .ret) ∧ s.res pr57 = some rs) (St.init ps)) : Spec Try.prog 57 R :=
  fn_sound hE eqsOK mixedOK Try.func57 bd57 cp57 (by kernel_rfl) (by kernel_rfl) hR

/-! interleave/interleavelaw30.TraceCheck -/
def pc3 : PC :=
 .seq (.reg false [⟨(some 2), .mv (.v (.bool false)), none, []⟩])
  (.seq (.seq (.reg false [⟨(some 7), .call 12 [], none, []⟩,
         ⟨(some 8), .un .not (.t 7), none, [0]⟩])
    (.cond (.t 8)
      (.seq (.reg false [⟨(some 2), .mv (.v (.bool false)), none, []⟩])
       (.ret))
      (.skip)))
   (.seq (.seq (.reg false [⟨(some 9), .mv (.t 0), none, []⟩,
          ⟨(some 10), .len (.t 9), none, [0]⟩,
          ⟨(some 11), .bin .gtr (.t 10) (.v (.int .i64 100)), none, [1]⟩])
     (.cond (.t 11)
       (.seq (.reg false [⟨(some 2), .mv (.v (.bool true)), none, []⟩])
        (.ret))
       (.skip)))
    (.seq (.reg false [⟨(some 13), .mv (.t 0), none, []⟩,
          ⟨(some 14), .call 13 [(.t 13)], none, [0]⟩,
          ⟨(some 12), .mv (.t 14), none, [1]⟩,
          ⟨(some 15), .ext (.t 12) 0, none, [2]⟩,
          ⟨(some 16), .ext (.t 12) 1, none, [2]⟩,
          ⟨(some 3), .mv (.t 15), none, [3, 1, 0, 1, 2, 3]⟩,
          ⟨(some 4), .mv (.t 16), none, [4, 5, 0, 1, 2, 3, 4, 5]⟩])
     (.seq (.reg false [⟨(some 18), .mv (.t 0), none, []⟩,
           ⟨(some 19), .call 14 [(.t 18)], none, [0]⟩,
           ⟨(some 17), .mv (.t 19), none, [1]⟩,
           ⟨(some 20), .ext (.t 17) 0, none, [2]⟩,
           ⟨(some 21), .ext (.t 17) 1, none, [2]⟩,
           ⟨(some 5), .mv (.t 20), none, [3, 1, 0, 1, 2, 3]⟩,
           ⟨(some 6), .mv (.t 21), none, [4, 5, 0, 1, 2, 3, 4, 5]⟩])
      (.seq (.reg false [⟨(some 22), .mv (.t 3), none, []⟩,
            ⟨(some 23), .mv (.t 5), none, []⟩,
            ⟨(some 24), .bin .eql (.t 22) (.t 23), none, [0, 1]⟩,
            ⟨(some 25), .mv (.t 24), none, [2]⟩,
            ⟨(some 26), .mv (.t 4), (some (25, true)), [3]⟩,
            ⟨(some 27), .mv (.t 6), (some (25, true)), [3]⟩,
            ⟨(some 28), .eqb false (.t 26) (.t 27), (some (25, true)), [4, 5, 3]⟩,
            ⟨(some 29), .pick (.t 25) (.t 28) (.v (.bool false)), none, [3, 6]⟩,
            ⟨(some 30), .mv (.t 29), none, [7, 3]⟩,
            ⟨(some 31), .mv (.t 0), (some (30, true)), [8]⟩,
            ⟨(some 32), .call 15 [(.t 31)], (some (30, true)), [9, 8, 8]⟩,
            ⟨(some 33), .mv (.t 6), (some (30, true)), [8]⟩,
            ⟨(some 34), .eqb false (.t 32) (.t 33), (some (30, true)), [10, 11, 8]⟩,
            ⟨(some 35), .pick (.t 30) (.t 34) (.v (.bool false)), none, [8, 12]⟩,
            ⟨(some 2), .mv (.t 35), none, [13, 10, 0, 1, 2, 3, 4, 5, 6, 7, 8, 9, 10, 11, 12, 13]⟩])
       (.ret))))))
def pr3 : List PR := [.t 2]
theorem bd3 : Try.f3.body = some (Try.f3.body.getD .skip) := by kernel_rfl
theorem cp3 : compC Try.prog Try.f3.ntmps eqsL (Try.f3.body.getD .skip) = some pc3 := by kernel_rfl
theorem sp3 [WInv] {env : Env} (hE : EnvOK Try.prog env) {R : List Pa → List Pa → Prop} (hR : ∀ ps rs, R ps rs → ps.length ≤ 36 ∧ pwp env pc3 (fun e s => (e = .normal ∨ e = .ret) ∧ s.res pr3 = some rs) (St.init ps)) : Spec Try.prog 3 R :=
  fn_sound hE eqsOK mixedOK Try.func3 bd3 cp3 (by kernel_rfl) (by kernel_rfl) hR

/-! interleave/interleavelaw30.TraceRepaired -/
def pc4 : PC :=
 .seq (.reg false [⟨(some 2), .mv (.v (.bool false)), none, []⟩])
  (.seq (.seq (.reg false [⟨(some 6), .call 12 [], none, []⟩,
         ⟨(some 7), .un .not (.t 6), none, [0]⟩])
    (.cond (.t 7)
      (.seq (.reg false [⟨(some 2), .mv (.v (.bool false)), none, []⟩])
       (.ret))
      (.skip)))
   (.seq (.reg false [⟨(some 8), .mv (.t 0), none, []⟩,
         ⟨(some 9), .call 16 [(.t 8)], none, [0]⟩,
         ⟨(some 3), .mv (.t 9), none, [1, 1, 0, 1]⟩])
    (.seq (.reg false [⟨(some 11), .mv (.t 3), none, []⟩,
          ⟨(some 12), .call 13 [(.t 11)], none, [0]⟩,
          ⟨(some 10), .mv (.t 12), none, [1]⟩,
          ⟨(some 13), .ext (.t 10) 0, none, [2]⟩,
          ⟨(some 14), .ext (.t 10) 1, none, [2]⟩,
          ⟨(some 4), .mv (.t 13), none, [3, 1, 0, 1, 2, 3]⟩,
          ⟨(some 5), .mv (.t 14), none, [4, 5, 0, 1, 2, 3, 4, 5]⟩])
     (.seq (.reg false [⟨(some 15), .mv (.t 5), none, []⟩,
           ⟨(some 16), .mv (.t 15), none, [0]⟩,
           ⟨(some 17), .mv (.t 4), (some (16, true)), [1]⟩,
           ⟨(some 18), .mv (.t 3), (some (16, true)), [1]⟩,
           ⟨(some 19), .len (.t 18), (some (16, true)), [3, 1]⟩,
           ⟨(some 20), .bin .eql (.t 17) (.t 19), (some (16, true)), [2, 4, 1]⟩,
           ⟨(some 21), .pick (.t 16) (.t 20) (.v (.bool false)), none, [1, 5]⟩,
           ⟨(some 22), .mv (.t 21), none, [6, 1]⟩,
           ⟨(some 23), .mv (.t 3), (some (22, true)), [7]⟩,
           ⟨(some 24), .call 17 [(.t 23)], (some (22, true)), [8, 7, 7]⟩,
           ⟨(some 25), .mv (.t 4), (some (22, true)), [7]⟩,
           ⟨(some 26), .bin .eql (.t 24) (.t 25), (some (22, true)), [9, 10, 7]⟩,
           ⟨(some 27), .pick (.t 22) (.t 26) (.v (.bool false)), none, [7, 11]⟩,
           ⟨(some 2), .mv (.t 27), none, [12, 9, 0, 1, 2, 3, 4, 5, 6, 7, 8, 9, 10, 11, 12]⟩])
      (.ret)))))
def pr4 : List PR := [.t 2]
theorem bd4 : Try.f4.body = some (Try.f4.body.getD .skip) := by kernel_rfl
theorem cp4 : compC Try.prog Try.f4.ntmps eqsL (Try.f4.body.getD .skip) = some pc4 := by kernel_rfl
theorem sp4 [WInv] {env : Env} (hE : EnvOK Try.prog env) {R : List Pa → List Pa → Prop} (hR : ∀ ps rs, R ps rs → ps.length ≤ 28 ∧ pwp env pc4 (fun e s => (e = .normal ∨ e = .ret) ∧ s.res pr4 = some rs) (St.init ps)) : Spec Try.prog 4 R :=
  fn_sound hE eqsOK mixedOK Try.func4 bd4 cp4 (by kernel_rfl) (by kernel_rfl) hR

/-! interleave/interleavelaw30.TracePrefix -/
def pc5 : PC :=
 .seq (.reg false [⟨(some 4), .mv (.v (.bool false)), none, []⟩])
  (.seq (.seq (.reg false [⟨(some 9), .call 12 [], none, []⟩,
         ⟨(some 10), .un .not (.t 9), none, [0]⟩])
    (.cond (.t 10)
      (.seq (.reg false [⟨(some 4), .mv (.v (.bool false)), none, []⟩])
       (.ret))
      (.skip)))
   (.seq (.seq (.reg false [⟨(some 11), .mv (.t 0), none, []⟩,
          ⟨(some 12), .len (.t 11), none, [0]⟩,
          ⟨(some 13), .bin .gtr (.t 12) (.v (.int .i64 100)), none, [1]⟩,
          ⟨(some 14), .mv (.t 13), none, [2]⟩,
          ⟨(some 15), .mv (.t 1), (some (14, false)), [3]⟩,
          ⟨(some 16), .bin .lss (.t 15) (.v (.int .i64 0)), (some (14, false)), [4, 3]⟩,
          ⟨(some 17), .pick (.t 14) (.v (.bool true)) (.t 16), none, [3, 5]⟩,
          ⟨(some 18), .mv (.t 17), none, [6, 3]⟩,
          ⟨(some 19), .mv (.t 1), (some (18, false)), [7]⟩,
          ⟨(some 20), .mv (.t 0), (some (18, false)), [7]⟩,
          ⟨(some 21), .len (.t 20), (some (18, false)), [9, 7]⟩,
          ⟨(some 22), .bin .gtr (.t 19) (.t 21), (some (18, false)), [8, 10, 7]⟩,
          ⟨(some 23), .pick (.t 18) (.v (.bool true)) (.t 22), none, [7, 11]⟩])
     (.cond (.t 23)
       (.seq (.reg false [⟨(some 4), .mv (.v (.bool true)), none, []⟩])
        (.ret))
       (.skip)))
    (.seq (.reg false [⟨(some 25), .mv (.t 0), none, []⟩,
          ⟨(some 26), .call 13 [(.t 25)], none, [0]⟩,
          ⟨(some 24), .mv (.t 26), none, [1]⟩,
          ⟨(some 27), .ext (.t 24) 0, none, [2]⟩,
          ⟨(some 28), .ext (.t 24) 1, none, [2]⟩,
          ⟨(some 5), .mv (.t 27), none, [3, 1, 0, 1, 2, 3]⟩,
          ⟨(some 6), .mv (.t 28), none, [4, 5, 0, 1, 2, 3, 4, 5]⟩])
     (.seq (.reg false [⟨(some 30), .mv (.t 0), none, []⟩,
           ⟨(some 31), .mv (.t 1), none, []⟩,
           ⟨(some 32), .slc 9 (.t 30) none (some (.t 31)), none, [0, 1]⟩,
           ⟨(some 33), .call 13 [(.t 32)], none, [2]⟩,
           ⟨(some 29), .mv (.t 33), none, [3]⟩,
           ⟨(some 34), .ext (.t 29) 0, none, [4]⟩,
           ⟨(some 35), .ext (.t 29) 1, none, [4]⟩,
           ⟨(some 7), .mv (.t 34), none, [5, 3, 0, 1, 2, 3, 4, 5]⟩,
           ⟨(some 8), .mv (.t 35), none, [6, 7, 0, 1, 2, 3, 4, 5, 6, 7]⟩])
      (.seq (.reg false [⟨(some 36), .mv (.t 7), none, []⟩,
            ⟨(some 37), .mv (.t 5), none, []⟩,
            ⟨(some 38), .mv (.t 1), none, []⟩,
            ⟨(some 39), .mm false [(.t 37), (.t 38)], none, [1, 2]⟩,
            ⟨(some 40), .bin .eql (.t 36) (.t 39), none, [0, 3]⟩,
            ⟨(some 41), .mv (.t 40), none, [4]⟩,
            ⟨(some 42), .mv (.t 8), (some (41, true)), [5]⟩,
            ⟨(some 43), .mv (.t 1), (some (41, true)), [5]⟩,
            ⟨(some 44), .mv (.t 5), (some (41, true)), [5]⟩,
            ⟨(some 45), .bin .leq (.t 43) (.t 44), (some (41, true)), [7, 8, 5]⟩,
            ⟨(some 46), .eqb false (.t 42) (.t 45), (some (41, true)), [6, 9, 5]⟩,
            ⟨(some 47), .pick (.t 41) (.t 46) (.v (.bool false)), none, [5, 10]⟩,
            ⟨(some 48), .mv (.t 47), none, [11, 5]⟩,
            ⟨(some 49), .mv (.t 6), (some (48, true)), [12]⟩,
            ⟨(some 50), .un .not (.t 49), (some (48, true)), [13, 12]⟩,
            ⟨(some 51), .mv (.t 50), (some (48, true)), [14, 12, 12]⟩,
            ⟨(some 52), .mv (.t 8), (some (51, false)), [15]⟩,
            ⟨(some 53), .pick (.t 51) (.v (.bool true)) (.t 52), (some (48, true)), [15, 16, 12]⟩,
            ⟨(some 54), .pick (.t 48) (.t 53) (.v (.bool false)), none, [12, 17]⟩,
            ⟨(some 4), .mv (.t 54), none, [18, 15, 0, 1, 2, 3, 4, 5, 6, 7, 8, 9, 10, 11, 12, 13, 14, 15, 16, 17, 18]⟩])
       (.ret))))))
def pr5 : List PR := [.t 4]
theorem bd5 : Try.f5.body = some (Try.f5.body.getD .skip) := by kernel_rfl
theorem cp5 : compC Try.prog Try.f5.ntmps eqsL (Try.f5.body.getD .skip) = some pc5 := by kernel_rfl
theorem sp5 [WInv] {env : Env} (hE : EnvOK Try.prog env) {R : List Pa → List Pa → Prop} (hR : ∀ ps rs, R ps rs → ps.length ≤ 55 ∧ pwp env pc5 (fun e s => (e = .normal ∨ e = .ret) ∧ s.res pr5 = some rs) (St.init ps)) : Spec Try.prog 5 R :=
  fn_sound hE eqsOK mixedOK Try.func5 bd5 cp5 (by kernel_rfl) (by kernel_rfl) hR

/-! interleave/interleavelaw30.TraceExclusive -/
def pc6 : PC :=
 .seq (.reg false [⟨(some 4), .mv (.v (.bool false)), none, []⟩])
  (.seq (.seq (.reg false [⟨(some 10), .call 12 [], none, []⟩,
         ⟨(some 11), .un .not (.t 10), none, [0]⟩])
    (.cond (.t 11)
      (.seq (.reg false [⟨(some 4), .mv (.v (.bool false)), none, []⟩])
       (.ret))
      (.skip)))
   (.seq (.reg false [⟨(some 12), .mv (.t 0), none, []⟩,
         ⟨(some 13), .call 16 [(.t 12)], none, [0]⟩,
         ⟨(some 5), .mv (.t 13), none, [1, 1, 0, 1]⟩])
    (.seq (.seq (.reg false [⟨(some 14), .mv (.t 1), none, []⟩,
           ⟨(some 15), .bin .geq (.t 14) (.v (.int .i64 0)), none, [0]⟩,
           ⟨(some 16), .mv (.t 15), none, [1]⟩,
           ⟨(some 17), .mv (.t 1), (some (16, true)), [2]⟩,
           ⟨(some 18), .mv (.t 5), (some (16, true)), [2]⟩,
           ⟨(some 19), .len (.t 18), (some (16, true)), [4, 2]⟩,
           ⟨(some 20), .bin .lss (.t 17) (.t 19), (some (16, true)), [3, 5, 2]⟩,
           ⟨(some 21), .pick (.t 16) (.t 20) (.v (.bool false)), none, [2, 6]⟩])
      (.cond (.t 21)
        (.reg true [⟨(some 22), .mv (.t 5), none, []⟩,
             ⟨(some 23), .mv (.t 1), none, []⟩,
             ⟨(some 24), .mv (.t 1), none, []⟩,
             ⟨(some 25), .slc3 9 (.t 22) none (.t 23) (.t 24), none, [0, 1, 2]⟩,
             ⟨(some 26), .mv (.t 5), none, []⟩,
             ⟨(some 27), .mv (.t 1), none, []⟩,
             ⟨(some 28), .bin .add (.t 27) (.v (.int .i64 1)), none, [5]⟩,
             ⟨(some 29), .slc 9 (.t 26) (some (.t 28)) none, none, [4, 6]⟩,
             ⟨(some 30), .append 31 9 72 (.t 25) (.t 29), none, [3, 7]⟩,
             ⟨(some 5), .mv (.t 30), none, [8, 8, 0, 1, 2, 3, 4, 5, 6, 7, 8]⟩])
        (.skip)))
     (.seq (.seq (.reg false [⟨(some 31), .mv (.t 5), none, []⟩,
            ⟨(some 32), .call 15 [(.t 31)], none, [0]⟩,
            ⟨(some 33), .un .not (.t 32), none, [1]⟩])
       (.cond (.t 33)
         (.seq (.reg false [⟨(some 4), .mv (.v (.bool true)), none, []⟩])
          (.ret))
         (.skip)))
      (.seq (.seq (.reg false [⟨(some 34), .mv (.t 5), none, []⟩,
             ⟨(some 35), .len (.t 34), none, [0]⟩,
             ⟨(some 36), .mv (.v (.int .i64 0)), none, []⟩])
        (.block 0 (.loop (.seq (.reg false [⟨(some 37), .bin .lss (.t 36) (.t 35), none, []⟩])
           (.seq (.cond (.t 37)
              (.skip)
              (.exit 0))
            (.seq (.block 1 (.seq (.reg false [⟨(some 38), .mv (.t 36), none, []⟩,
                    ⟨(some 39), .ixs 9 (.t 34) (.t 36), none, []⟩,
                    ⟨(some 40), .load (some 9) (.t 39), none, [1]⟩,
                    ⟨(some 7), .new [(.int .i64 0), (.int .i64 0), (.int .i64 0), (.int .i64 0), (.int .i64 0), (.int .i64 0), (.int .i64 0), (.int .i64 0), (.int .i64 0)], none, []⟩,
                    ⟨(some 6), .mv (.t 38), none, [0, 0, 1, 2, 3]⟩,
                    ⟨none, .store 9 (.t 7) (.t 40), none, [3, 2, 4, 0, 1, 2, 3, 4]⟩])
               (.seq (.seq (.reg false [⟨(some 41), .fld 1 (.t 7), none, []⟩,
                      ⟨(some 42), .load none (.t 41), none, [0]⟩,
                      ⟨(some 43), .bin .neq (.t 42) (.v (.int .i64 6)), none, [1]⟩])
                 (.cond (.t 43)
                   (.exit 1)
                   (.skip)))
                (.seq (.reg false [⟨(some 44), .mv (.t 5), none, []⟩,
                      ⟨(some 45), .mv (.t 6), none, []⟩,
                      ⟨(some 46), .bin .add (.t 45) (.v (.int .i64 1)), none, [1]⟩,
                      ⟨(some 47), .slc 9 (.t 44) (some (.t 46)) none, none, [0, 2]⟩,
                      ⟨(some 48), .len (.t 47), none, [3]⟩,
                      ⟨(some 49), .mv (.v (.int .i64 0)), none, []⟩])
                 (.block 2 (.loop (.seq (.reg false [⟨(some 50), .bin .lss (.t 49) (.t 48), none, []⟩])
                    (.seq (.cond (.t 50)
                       (.skip)
                       (.exit 2))
                     (.seq (.block 3 (.seq (.reg false [⟨(some 51), .ixs 9 (.t 47) (.t 49), none, []⟩,
                             ⟨(some 52), .load (some 9) (.t 51), none, [0]⟩,
                             ⟨(some 9), .new [(.int .i64 0), (.int .i64 0), (.int .i64 0), (.int .i64 0), (.int .i64 0), (.int .i64 0), (.int .i64 0), (.int .i64 0), (.int .i64 0)], none, []⟩,
                             ⟨none, .store 9 (.t 9) (.t 52), none, [2, 1, 0, 1, 2]⟩])
                        (.seq (.seq (.reg false [⟨(some 53), .fld 2 (.t 9), none, []⟩,
                               ⟨(some 54), .load none (.t 53), none, [0]⟩,
                               ⟨(some 55), .fld 2 (.t 7), none, []⟩,
                               ⟨(some 56), .load none (.t 55), none, [2]⟩,
                               ⟨(some 57), .bin .neq (.t 54) (.t 56), none, [1, 3]⟩,
                               ⟨(some 58), .mv (.t 57), none, [4]⟩,
                               ⟨(some 59), .fld 3 (.t 9), (some (58, false)), [5]⟩,
                               ⟨(some 60), .load none (.t 59), (some (58, false)), [6, 5]⟩,
                               ⟨(some 61), .fld 3 (.t 7), (some (58, false)), [5]⟩,
                               ⟨(some 62), .load none (.t 61), (some (58, false)), [8, 5]⟩,
                               ⟨(some 63), .bin .neq (.t 60) (.t 62), (some (58, false)), [7, 9, 5]⟩,
                               ⟨(some 64), .pick (.t 58) (.v (.bool true)) (.t 63), none, [5, 10]⟩])
                          (.cond (.t 64)
                            (.exit 3)
                            (.skip)))
                         (.seq (.seq (.reg false [⟨(some 65), .fld 1 (.t 9), none, []⟩,
                                ⟨(some 66), .load none (.t 65), none, [0]⟩,
                                ⟨(some 67), .bin .eql (.t 66) (.v (.int .i64 6)), none, [1]⟩,
                                ⟨(some 68), .mv (.t 67), none, [2]⟩,
                                ⟨(some 69), .fld 1 (.t 9), (some (68, false)), [3]⟩,
                                ⟨(some 70), .load none (.t 69), (some (68, false)), [4, 3]⟩,
                                ⟨(some 71), .bin .eql (.t 70) (.v (.int .i64 8)), (some (68, false)), [5, 3]⟩,
                                ⟨(some 72), .pick (.t 68) (.v (.bool true)) (.t 71), none, [3, 6]⟩])
                           (.cond (.t 72)
                             (.seq (.reg false [⟨(some 4), .mv (.v (.bool false)), none, []⟩])
                              (.ret))
                             (.skip)))
                          (.seq (.reg false [⟨(some 73), .fld 1 (.t 9), none, []⟩,
                                ⟨(some 74), .load none (.t 73), none, [0]⟩,
                                ⟨(some 75), .bin .eql (.t 74) (.v (.int .i64 7)), none, [1]⟩])
                           (.cond (.t 75)
                             (.exit 2)
                             (.skip)))))))
                      (.reg false [⟨(some 76), .bin .add (.t 49) (.v (.int .i64 1)), none, []⟩,
                           ⟨(some 49), .mv (.t 76), none, [0]⟩]))))))))))
             (.reg false [⟨(some 77), .bin .add (.t 36) (.v (.int .i64 1)), none, []⟩,
                  ⟨(some 36), .mv (.t 77), none, [0]⟩])))))))
       (.seq (.reg false [⟨(some 4), .mv (.v (.bool true)), none, []⟩])
        (.ret)))))))
def pr6 : List PR := [.t 4]
abbrev ms6_0 : List Nat := [37, 38, 39, 40, 7, 6, 41, 42, 43, 44, 45, 46, 47, 48, 49, 50, 51, 52, 9, 53, 54, 55, 56, 57, 58, 59, 60, 61, 62, 63, 64, 65, 66, 67, 68, 69, 70, 71, 72, 4, 73, 74, 75, 76, 77, 36]
abbrev os6_0 : List Nat := [7, 9]
abbrev ms6_1 : List Nat := [50, 51, 52, 9, 53, 54, 55, 56, 57, 58, 59, 60, 61, 62, 63, 64, 65, 66, 67, 68, 69, 70, 71, 72, 4, 73, 74, 75, 76, 49]
abbrev os6_1 : List Nat := [9]
theorem bd6 : Try.f6.body = some (Try.f6.body.getD .skip) := by kernel_rfl
theorem cp6 : compC Try.prog Try.f6.ntmps eqsL (Try.f6.body.getD .skip) = some pc6 := by kernel_rfl
theorem sp6 [WInv] {env : Env} (hE : EnvOK Try.prog env) {R : List Pa → List Pa → Prop} (hR : ∀ ps rs, R ps rs → ps.length ≤ 78 ∧ pwp env pc6 (fun e s => (e = .normal ∨ e = .ret) ∧ s.res pr6 = some rs) (St.init ps)) : Spec Try.prog 6 R :=
  fn_sound hE eqsOK mixedOK Try.func6 bd6 cp6 (by kernel_rfl) (by kernel_rfl) hR

/-! interleave/interleavelaw30.TraceBalance -/
def pc7 : PC :=
 .seq (.reg false [⟨(some 6), .mv (.v (.bool false)), none, []⟩])
  (.seq (.seq (.reg false [⟨(some 12), .call 12 [], none, []⟩,
         ⟨(some 13), .un .not (.t 12), none, [0]⟩])
    (.cond (.t 13)
      (.seq (.reg false [⟨(some 6), .mv (.v (.bool false)), none, []⟩])
       (.ret))
      (.skip)))
   (.seq (.reg false [⟨(some 14), .mv (.t 0), none, []⟩,
         ⟨(some 15), .call 16 [(.t 14)], none, [0]⟩,
         ⟨(some 7), .mv (.t 15), none, [1, 1, 0, 1]⟩])
    (.seq (.seq (.reg false [⟨(some 16), .mv (.t 2), none, []⟩,
           ⟨(some 17), .bin .geq (.t 16) (.v (.int .i64 0)), none, [0]⟩,
           ⟨(some 18), .mv (.t 17), none, [1]⟩,
           ⟨(some 19), .mv (.t 2), (some (18, true)), [2]⟩,
           ⟨(some 20), .mv (.t 7), (some (18, true)), [2]⟩,
           ⟨(some 21), .len (.t 20), (some (18, true)), [4, 2]⟩,
           ⟨(some 22), .bin .lss (.t 19) (.t 21), (some (18, true)), [3, 5, 2]⟩,
           ⟨(some 23), .pick (.t 18) (.t 22) (.v (.bool false)), none, [2, 6]⟩])
      (.cond (.t 23)
        (.reg true [⟨(some 24), .mv (.t 7), none, []⟩,
             ⟨(some 25), .mv (.t 2), none, []⟩,
             ⟨(some 26), .mv (.t 2), none, []⟩,
             ⟨(some 27), .slc3 9 (.t 24) none (.t 25) (.t 26), none, [0, 1, 2]⟩,
             ⟨(some 28), .mv (.t 7), none, []⟩,
             ⟨(some 29), .mv (.t 2), none, []⟩,
             ⟨(some 30), .bin .add (.t 29) (.v (.int .i64 1)), none, [5]⟩,
             ⟨(some 31), .slc 9 (.t 28) (some (.t 30)) none, none, [4, 6]⟩,
             ⟨(some 32), .append 31 9 72 (.t 27) (.t 31), none, [3, 7]⟩,
             ⟨(some 7), .mv (.t 32), none, [8, 8, 0, 1, 2, 3, 4, 5, 6, 7, 8]⟩])
        (.skip)))
     (.seq (.seq (.reg false [⟨(some 33), .mv (.t 7), none, []⟩,
            ⟨(some 34), .call 15 [(.t 33)], none, [0]⟩,
            ⟨(some 35), .un .not (.t 34), none, [1]⟩])
       (.cond (.t 35)
         (.seq (.reg false [⟨(some 6), .mv (.v (.bool true)), none, []⟩])
          (.ret))
         (.skip)))
      (.seq (.reg false [⟨(some 8), .mv (.v (.int .i64 0)), none, []⟩,
            ⟨(some 9), .mv (.v (.int .i64 0)), none, [0, 0]⟩])
       (.seq (.seq (.reg false [⟨(some 36), .mv (.t 7), none, []⟩,
              ⟨(some 37), .len (.t 36), none, [0]⟩,
              ⟨(some 38), .mv (.v (.int .i64 0)), none, []⟩])
         (.block 0 (.loop (.seq (.reg false [⟨(some 39), .bin .lss (.t 38) (.t 37), none, []⟩])
            (.seq (.cond (.t 39)
               (.skip)
               (.exit 0))
             (.seq (.block 1 (.seq (.reg false [⟨(some 40), .ixs 9 (.t 36) (.t 38), none, []⟩,
                     ⟨(some 41), .load (some 9) (.t 40), none, [0]⟩,
                     ⟨(some 11), .new [(.int .i64 0), (.int .i64 0), (.int .i64 0), (.int .i64 0), (.int .i64 0), (.int .i64 0), (.int .i64 0), (.int .i64 0), (.int .i64 0)], none, []⟩,
                     ⟨none, .store 9 (.t 11) (.t 41), none, [2, 1, 0, 1, 2]⟩])
                (.seq (.seq (.reg false [⟨(some 42), .fld 2 (.t 11), none, []⟩,
                       ⟨(some 43), .load none (.t 42), none, [0]⟩,
                       ⟨(some 44), .mv (.t 1), none, []⟩,
                       ⟨(some 45), .bin .neq (.t 43) (.t 44), none, [1, 2]⟩])
                  (.cond (.t 45)
                    (.exit 1)
                    (.skip)))
                 (.seq (.seq (.reg false [⟨(some 46), .fld 1 (.t 11), none, []⟩,
                        ⟨(some 47), .load none (.t 46), none, [0]⟩])
                   (.block 2 (.seq (.reg false [⟨(some 49), .bin .eql (.t 47) (.v (.int .i64 15)), none, []⟩,
                          ⟨(some 48), .mv (.t 49), none, [0]⟩])
                     (.cond (.t 48)
                       (.reg false [⟨(some 50), .mv (.t 8), none, []⟩,
                            ⟨(some 51), .bin .add (.t 50) (.v (.int .i64 1)), none, [0]⟩,
                            ⟨(some 8), .mv (.t 51), none, [1, 0, 1]⟩])
                       (.seq (.reg false [⟨(some 53), .bin .eql (.t 47) (.v (.int .i64 17)), none, []⟩,
                             ⟨(some 52), .mv (.t 53), none, [0]⟩])
                        (.cond (.t 52)
                          (.reg false [⟨(some 54), .mv (.t 9), none, []⟩,
                               ⟨(some 55), .bin .add (.t 54) (.v (.int .i64 1)), none, [0]⟩,
                               ⟨(some 9), .mv (.t 55), none, [1, 0, 1]⟩])
                          (.seq (.seq (.reg false [⟨(some 57), .bin .eql (.t 47) (.v (.int .i64 16)), none, []⟩,
                                 ⟨(some 56), .mv (.t 57), none, [0]⟩])
                            (.cond (.t 56)
                              (.skip)
                              (.seq (.reg false [⟨(some 58), .bin .eql (.t 47) (.v (.int .i64 18)), none, []⟩,
                                    ⟨(some 56), .mv (.t 58), none, [0]⟩])
                               (.cond (.t 56)
                                 (.skip)
                                 (.seq (.reg false [⟨(some 59), .bin .eql (.t 47) (.v (.int .i64 19)), none, []⟩,
                                       ⟨(some 56), .mv (.t 59), none, [0]⟩])
                                  (.cond (.t 56)
                                    (.skip)
                                    (.reg false [⟨(some 60), .bin .eql (.t 47) (.v (.int .i64 20)), none, []⟩,
                                         ⟨(some 56), .mv (.t 60), none, [0]⟩])))))))
                           (.cond (.t 56)
                             (.skip)
                             (.exit 1)))))))))
                  (.seq (.reg false [⟨(some 61), .mv (.t 8), none, []⟩,
                        ⟨(some 62), .mv (.t 9), none, []⟩,
                        ⟨(some 63), .bin .sub (.t 61) (.t 62), none, [0, 1]⟩,
                        ⟨(some 64), .fld 5 (.t 11), none, []⟩,
                        ⟨(some 65), .load none (.t 64), none, [3]⟩,
                        ⟨(some 66), .bin .add (.t 65) (.v (.int .i64 1)), none, [4]⟩,
                        ⟨(some 67), .bin .gtr (.t 63) (.t 66), none, [2, 5]⟩,
                        ⟨(some 68), .mv (.t 67), none, [6]⟩,
                        ⟨(some 69), .mv (.t 9), (some (68, false)), [7]⟩,
                        ⟨(some 70), .mv (.t 8), (some (68, false)), [7]⟩,
                        ⟨(some 71), .bin .sub (.t 69) (.t 70), (some (68, false)), [8, 9, 7]⟩,
                        ⟨(some 72), .bin .gtr (.t 71) (.v (.int .i64 1)), (some (68, false)), [10, 7]⟩,
                        ⟨(some 73), .pick (.t 68) (.v (.bool true)) (.t 72), none, [7, 11]⟩])
                   (.cond (.t 73)
                     (.seq (.reg false [⟨(some 6), .mv (.v (.bool false)), none, []⟩])
                      (.ret))
                     (.skip)))))))
              (.reg false [⟨(some 74), .bin .add (.t 38) (.v (.int .i64 1)), none, []⟩,
                   ⟨(some 38), .mv (.t 74), none, [0]⟩])))))))
        (.seq (.reg false [⟨(some 6), .mv (.v (.bool true)), none, []⟩])
         (.ret))))))))
def pr7 : List PR := [.t 6]
abbrev ms7_0 : List Nat := [39, 40, 41, 11, 42, 43, 44, 45, 46, 47, 49, 48, 50, 51, 8, 53, 52, 54, 55, 9, 57, 56, 58, 59, 60, 61, 62, 63, 64, 65, 66, 67, 68, 69, 70, 71, 72, 73, 6, 74, 38]
abbrev os7_0 : List Nat := [11]
theorem bd7 : Try.f7.body = some (Try.f7.body.getD .skip) := by kernel_rfl
theorem cp7 : compC Try.prog Try.f7.ntmps eqsL (Try.f7.body.getD .skip) = some pc7 := by kernel_rfl
theorem sp7 [WInv] {env : Env} (hE : EnvOK Try.prog env) {R : List Pa → List Pa → Prop} (hR : ∀ ps rs, R ps rs → ps.length ≤ 75 ∧ pwp env pc7 (fun e s => (e = .normal ∨ e = .ret) ∧ s.res pr7 = some rs) (St.init ps)) : Spec Try.prog 7 R :=
  fn_sound hE eqsOK mixedOK Try.func7 bd7 cp7 (by kernel_rfl) (by kernel_rfl) hR

/-! interleave/interleavelaw30.TraceState -/
def pc8 : PC :=
 .seq (.reg false [⟨(some 3), .box (.t 1), none, []⟩,
       ⟨(some 4), .mv (.v (.bool false)), none, []⟩])
  (.seq (.seq (.reg false [⟨(some 12), .call 12 [], none, []⟩,
         ⟨(some 13), .un .not (.t 12), none, [0]⟩])
    (.cond (.t 13)
      (.seq (.reg false [⟨(some 4), .mv (.v (.bool false)), none, []⟩])
       (.ret))
      (.skip)))
   (.seq (.seq (.reg false [⟨(some 14), .mv (.t 0), none, []⟩,
          ⟨(some 15), .len (.t 14), none, [0]⟩,
          ⟨(some 16), .bin .gtr (.t 15) (.v (.int .i64 100)), none, [1]⟩])
     (.cond (.t 16)
       (.seq (.reg false [⟨(some 4), .mv (.v (.bool true)), none, []⟩])
        (.ret))
       (.skip)))
    (.seq (.reg false [⟨(some 17), .call 18 [], none, []⟩,
          ⟨(some 5), .mv (.t 17), none, [0, 0, 0]⟩])
     (.seq (.reg false [⟨(some 18), .call 19 [], none, []⟩,
           ⟨(some 6), .new [(.int .i64 0), (.int .i64 0), (.slice none 0 0), (.slice none 0 0), (.slice none 0 0), (.slice none 0 0), (.int .i64 0), (.int .i64 0), (.int .i64 0)], none, []⟩,
           ⟨none, .store 9 (.t 6) (.t 18), none, [1, 0, 0, 0, 1]⟩])
      (.seq (.reg true [⟨(some 19), .bslice 31 9 [] 0 [], none, []⟩,
            ⟨(some 20), .mv (.t 0), none, []⟩,
            ⟨(some 21), .append 31 9 72 (.t 19) (.t 20), none, [0, 1]⟩,
            ⟨(some 22), .load (some 9) (.t 3), none, []⟩,
            ⟨(some 23), .bslice 31 9 [(.int .i64 0), (.int .i64 0), (.int .i64 0), (.int .i64 0), (.int .i64 0), (.int .i64 0), (.int .i64 0), (.int .i64 0), (.int .i64 0)] 1 [(0, 9, (.t 22))], none, [3]⟩,
            ⟨(some 24), .append 31 9 72 (.t 21) (.t 23), none, [2, 4, 2]⟩,
            ⟨(some 7), .mv (.t 24), none, [5, 5, 0, 1, 2, 3, 4, 5]⟩])
       (.seq (.seq (.reg false [⟨(some 25), .mv (.t 7), none, []⟩,
              ⟨(some 26), .len (.t 25), none, [0]⟩,
              ⟨(some 27), .mv (.v (.int .i64 0)), none, []⟩])
         (.block 0 (.loop (.seq (.reg false [⟨(some 28), .bin .lss (.t 27) (.t 26), none, []⟩])
            (.seq (.cond (.t 28)
               (.skip)
               (.exit 0))
             (.seq (.block 1 (.seq (.reg false [⟨(some 29), .ixs 9 (.t 25) (.t 27), none, []⟩,
                     ⟨(some 30), .load (some 9) (.t 29), none, [0]⟩,
                     ⟨(some 9), .new [(.int .i64 0), (.int .i64 0), (.int .i64 0), (.int .i64 0), (.int .i64 0), (.int .i64 0), (.int .i64 0), (.int .i64 0), (.int .i64 0)], none, []⟩,
                     ⟨none, .store 9 (.t 9) (.t 30), none, [2, 1, 0, 1, 2]⟩])
                (.seq (.reg false [⟨(some 32), .load (some 9) (.t 6), none, []⟩,
                      ⟨(some 33), .load (some 9) (.t 9), none, []⟩,
                      ⟨(some 34), .call 20 [(.t 32), (.t 33)], none, [0, 1]⟩,
                      ⟨(some 31), .mv (.t 34), none, [2]⟩,
                      ⟨(some 35), .ext (.t 31) 0, none, [3]⟩,
                      ⟨(some 36), .ext (.t 31) 1, none, [3]⟩,
                      ⟨(some 10), .new [(.int .i64 0), (.int .i64 0), (.slice none 0 0), (.slice none 0 0), (.slice none 0 0), (.slice none 0 0), (.int .i64 0), (.int .i64 0), (.int .i64 0)], none, []⟩,
                      ⟨none, .store 9 (.t 10) (.t 35), none, [6, 4, 2, 0, 1, 2, 3, 4, 6]⟩,
                      ⟨(some 11), .mv (.t 36), none, [5, 7, 0, 1, 2, 3, 4, 5, 6, 7]⟩])
                 (.seq (.seq (.reg false [⟨(some 37), .mv (.t 5), none, []⟩,
                        ⟨(some 38), .load (some 9) (.t 9), none, []⟩,
                        ⟨(some 39), .call 21 [(.t 37), (.t 38)], none, [0, 1]⟩,
                        ⟨(some 40), .mv (.t 11), none, []⟩,
                        ⟨(some 41), .eqb true (.t 39) (.t 40), none, [2, 3]⟩])
                   (.cond (.t 41)
                     (.seq (.reg false [⟨(some 4), .mv (.v (.bool false)), none, []⟩])
                      (.ret))
                     (.skip)))
                  (.seq (.reg false [⟨(some 42), .load (some 9) (.t 10), none, []⟩,
                        ⟨none, .store 9 (.t 6) (.t 42), none, [0, 0]⟩])
                   (.seq (.reg true [⟨(some 43), .mv (.t 5), none, []⟩,
                         ⟨(some 44), .call 22 [(.t 43)], none, [0]⟩,
                         ⟨(some 45), .fld 1 (.t 6), none, []⟩,
                         ⟨(some 46), .load none (.t 45), none, [2]⟩,
                         ⟨(some 47), .bin .neq (.t 44) (.t 46), none, [1, 3]⟩,
                         ⟨(some 48), .mv (.t 47), none, [4, 1]⟩,
                         ⟨(some 49), .mv (.t 5), (some (48, false)), [5]⟩,
                         ⟨(some 50), .call 23 [(.t 49)], (some (48, false)), [6, 5, 5]⟩,
                         ⟨(some 51), .fld 5 (.t 6), (some (48, false)), [5]⟩,
                         ⟨(some 52), .load none (.t 51), (some (48, false)), [8, 5]⟩,
                         ⟨(some 53), .len (.t 52), (some (48, false)), [9, 5]⟩,
                         ⟨(some 54), .bin .gtr (.t 53) (.v (.int .i64 0)), (some (48, false)), [10, 5]⟩,
                         ⟨(some 55), .eqb true (.t 50) (.t 54), (some (48, false)), [7, 11, 5]⟩,
                         ⟨(some 56), .pick (.t 48) (.v (.bool true)) (.t 55), none, [5, 12]⟩])
                    (.cond (.t 56)
                      (.seq (.reg false [⟨(some 4), .mv (.v (.bool false)), none, []⟩])
                       (.ret))
                      (.skip))))))))
              (.reg false [⟨(some 57), .bin .add (.t 27) (.v (.int .i64 1)), none, []⟩,
                   ⟨(some 27), .mv (.t 57), none, [0]⟩])))))))
        (.seq (.reg false [⟨(some 4), .mv (.v (.bool true)), none, []⟩])
         (.ret))))))))
def pr8 : List PR := [.t 4]
abbrev ms8_0 : List Nat := [28, 29, 30, 9, 32, 33, 34, 31, 35, 36, 10, 11, 37, 38, 39, 40, 41, 4, 42, 43, 44, 45, 46, 47, 48, 49, 50, 51, 52, 53, 54, 55, 56, 57, 27]
abbrev os8_0 : List Nat := [9, 10, 6]
theorem bd8 : Try.f8.body = some (Try.f8.body.getD .skip) := by kernel_rfl
theorem cp8 : compC Try.prog Try.f8.ntmps eqsL (Try.f8.body.getD .skip) = some pc8 := by kernel_rfl
theorem sp8 [WInv] {env : Env} (hE : EnvOK Try.prog env) {R : List Pa → List Pa → Prop} (hR : ∀ ps rs, R ps rs → ps.length ≤ 58 ∧ pwp env pc8 (fun e s => (e = .normal ∨ e = .ret) ∧ s.res pr8 = some rs) (St.init ps)) : Spec Try.prog 8 R :=
  fn_sound hE eqsOK mixedOK Try.func8 bd8 cp8 (by kernel_rfl) (by kernel_rfl) hR

/-! interleave/interleavelaw30.TraceWhole -/
def pc9 : PC :=
 .seq (.reg false [⟨(some 2), .mv (.v (.bool false)), none, []⟩])
  (.seq (.seq (.reg false [⟨(some 3), .call 12 [], none, []⟩,
         ⟨(some 4), .un .not (.t 3), none, [0]⟩])
    (.cond (.t 4)
      (.seq (.reg false [⟨(some 2), .mv (.v (.bool false)), none, []⟩])
       (.ret))
      (.skip)))
   (.seq (.seq (.reg false [⟨(some 5), .mv (.t 0), none, []⟩,
          ⟨(some 6), .len (.t 5), none, [0]⟩,
          ⟨(some 7), .bin .gtr (.t 6) (.v (.int .i64 100)), none, [1]⟩])
     (.cond (.t 7)
       (.seq (.reg false [⟨(some 2), .mv (.v (.bool true)), none, []⟩])
        (.ret))
       (.skip)))
    (.seq (.reg false [⟨(some 8), .mv (.t 0), none, []⟩,
          ⟨(some 9), .call 17 [(.t 8)], none, [0]⟩,
          ⟨(some 10), .mv (.t 0), none, []⟩,
          ⟨(some 11), .call 24 [(.t 10)], none, [2, 1]⟩,
          ⟨(some 12), .bin .eql (.t 9) (.t 11), none, [1, 3]⟩,
          ⟨(some 13), .mv (.t 12), none, [4, 3]⟩,
          ⟨(some 14), .mv (.t 0), (some (13, true)), [5]⟩,
          ⟨(some 15), .call 25 [(.t 14)], (some (13, true)), [6, 5, 5]⟩,
          ⟨(some 16), .mv (.t 0), (some (13, true)), [5]⟩,
          ⟨(some 17), .call 26 [(.t 16)], (some (13, true)), [8, 7, 5]⟩,
          ⟨(some 18), .bin .eql (.t 15) (.t 17), (some (13, true)), [7, 9, 5]⟩,
          ⟨(some 19), .pick (.t 13) (.t 18) (.v (.bool false)), none, [5, 10]⟩,
          ⟨(some 2), .mv (.t 19), none, [11, 9, 0, 1, 2, 3, 4, 5, 6, 7, 8, 9, 10, 11]⟩])
     (.ret))))
def pr9 : List PR := [.t 2]
theorem bd9 : Try.f9.body = some (Try.f9.body.getD .skip) := by kernel_rfl
theorem cp9 : compC Try.prog Try.f9.ntmps eqsL (Try.f9.body.getD .skip) = some pc9 := by kernel_rfl
theorem sp9 [WInv] {env : Env} (hE : EnvOK Try.prog env) {R : List Pa → List Pa → Prop} (hR : ∀ ps rs, R ps rs → ps.length ≤ 20 ∧ pwp env pc9 (fun e s => (e = .normal ∨ e = .ret) ∧ s.res pr9 = some rs) (St.init ps)) : Spec Try.prog 9 R :=
  fn_sound hE eqsOK mixedOK Try.func9 bd9 cp9 (by kernel_rfl) (by kernel_rfl) hR

/-! interleave/interleavelaw30.TraceProject -/
def pc10 : PC :=
 .seq (.reg false [⟨(some 5), .box (.t 2), none, []⟩,
       ⟨(some 6), .mv (.v (.bool false)), none, []⟩])
  (.seq (.seq (.reg false [⟨(some 10), .call 12 [], none, []⟩,
         ⟨(some 11), .un .not (.t 10), none, [0]⟩])
    (.cond (.t 11)
      (.seq (.reg false [⟨(some 6), .mv (.v (.bool false)), none, []⟩])
       (.ret))
      (.skip)))
   (.seq (.seq (.reg false [⟨(some 12), .mv (.t 0), none, []⟩,
          ⟨(some 13), .len (.t 12), none, [0]⟩,
          ⟨(some 14), .bin .gtr (.t 13) (.v (.int .i64 100)), none, [1]⟩])
     (.cond (.t 14)
       (.seq (.reg false [⟨(some 6), .mv (.v (.bool true)), none, []⟩])
        (.ret))
       (.skip)))
    (.seq (.reg true [⟨(some 15), .mv (.t 0), none, []⟩,
          ⟨(some 16), .load (some 2) (.t 5), none, []⟩,
          ⟨(some 17), .call 27 [(.t 15), (.t 16)], none, [0, 1]⟩,
          ⟨(some 18), .mv (.t 0), none, []⟩,
          ⟨(some 19), .load (some 2) (.t 5), none, []⟩,
          ⟨(some 20), .call 28 [(.t 18), (.t 19)], none, [3, 4, 2]⟩,
          ⟨(some 7), .mv (.t 17), none, [2, 5, 0, 1, 2]⟩,
          ⟨(some 8), .mv (.t 20), none, [5, 6, 0, 1, 2, 3, 4, 5, 6]⟩])
     (.seq (.seq (.reg false [⟨(some 21), .mv (.t 7), none, []⟩,
            ⟨(some 22), .len (.t 21), none, [0]⟩,
            ⟨(some 23), .mv (.t 8), none, []⟩,
            ⟨(some 24), .len (.t 23), none, [2]⟩,
            ⟨(some 25), .bin .neq (.t 22) (.t 24), none, [1, 3]⟩,
            ⟨(some 26), .mv (.t 25), none, [4]⟩,
            ⟨(some 27), .mv (.t 0), (some (26, false)), [5]⟩,
            ⟨(some 28), .mv (.t 1), (some (26, false)), [5]⟩,
            ⟨(some 29), .call 30 [(.t 27), (.t 28)], (some (26, false)), [6, 7, 5, 5]⟩,
            ⟨(some 30), .mv (.t 0), (some (26, false)), [5]⟩,
            ⟨(some 31), .mv (.t 1), (some (26, false)), [5]⟩,
            ⟨(some 32), .call 31 [(.t 30), (.t 31)], (some (26, false)), [9, 10, 8, 5]⟩,
            ⟨(some 33), .call 29 [(.t 29), (.t 32)], (some (26, false)), [8, 11, 11, 5]⟩,
            ⟨(some 34), .un .not (.t 33), (some (26, false)), [12, 5]⟩,
            ⟨(some 35), .pick (.t 26) (.v (.bool true)) (.t 34), none, [5, 13]⟩])
       (.cond (.t 35)
         (.seq (.reg false [⟨(some 6), .mv (.v (.bool false)), none, []⟩])
          (.ret))
         (.skip)))
      (.seq (.seq (.reg false [⟨(some 36), .mv (.t 7), none, []⟩,
             ⟨(some 37), .len (.t 36), none, [0]⟩,
             ⟨(some 38), .mv (.v (.int .i64 0)), none, []⟩])
        (.block 0 (.loop (.seq (.reg false [⟨(some 39), .bin .lss (.t 38) (.t 37), none, []⟩])
           (.seq (.cond (.t 39)
              (.skip)
              (.exit 0))
            (.seq (.block 1 (.seq (.reg false [⟨(some 40), .mv (.t 38), none, []⟩,
                    ⟨(some 9), .mv (.t 40), none, [0, 0]⟩])
               (.seq (.reg true [⟨(some 41), .mv (.t 7), none, []⟩,
                     ⟨(some 42), .mv (.t 9), none, []⟩,
                     ⟨(some 43), .ixs 1 (.t 41) (.t 42), none, [0, 1]⟩,
                     ⟨(some 44), .load none (.t 43), none, [2]⟩,
                     ⟨(some 45), .mv (.t 8), none, []⟩,
                     ⟨(some 46), .mv (.t 9), none, []⟩,
                     ⟨(some 47), .ixs 1 (.t 45) (.t 46), none, [4, 5]⟩,
                     ⟨(some 48), .load none (.t 47), none, [6]⟩,
                     ⟨(some 49), .bin .neq (.t 44) (.t 48), none, [3, 7]⟩])
                (.cond (.t 49)
                  (.seq (.reg false [⟨(some 6), .mv (.v (.bool false)), none, []⟩])
                   (.ret))
                  (.skip)))))
             (.reg false [⟨(some 50), .bin .add (.t 38) (.v (.int .i64 1)), none, []⟩,
                  ⟨(some 38), .mv (.t 50), none, [0]⟩])))))))
       (.seq (.reg false [⟨(some 6), .mv (.v (.bool true)), none, []⟩])
        (.ret)))))))
def pr10 : List PR := [.t 6]
abbrev ms10_0 : List Nat := [39, 40, 9, 41, 42, 43, 44, 45, 46, 47, 48, 49, 6, 50, 38]
abbrev os10_0 : List Nat := []
theorem bd10 : Try.f10.body = some (Try.f10.body.getD .skip) := by kernel_rfl
theorem cp10 : compC Try.prog Try.f10.ntmps eqsL (Try.f10.body.getD .skip) = some pc10 := by kernel_rfl
theorem sp10 [WInv] {env : Env} (hE : EnvOK Try.prog env) {R : List Pa → List Pa → Prop} (hR : ∀ ps rs, R ps rs → ps.length ≤ 51 ∧ pwp env pc10 (fun e s => (e = .normal ∨ e = .ret) ∧ s.res pr10 = some rs) (St.init ps)) : Spec Try.prog 10 R :=
  fn_sound hE eqsOK mixedOK Try.func10 bd10 cp10 (by kernel_rfl) (by kernel_rfl) hR

/-! interleave/interleavelaw30.TraceClone -/
def pc11 : PC :=
 .seq (.reg false [⟨(some 4), .mv (.v (.bool false)), none, []⟩])
  (.seq (.seq (.reg false [⟨(some 21), .call 12 [], none, []⟩,
         ⟨(some 22), .un .not (.t 21), none, [0]⟩])
    (.cond (.t 22)
      (.seq (.reg false [⟨(some 4), .mv (.v (.bool false)), none, []⟩])
       (.ret))
      (.skip)))
   (.seq (.seq (.reg false [⟨(some 23), .mv (.t 0), none, []⟩,
          ⟨(some 24), .len (.t 23), none, [0]⟩,
          ⟨(some 25), .mv (.t 1), none, []⟩,
          ⟨(some 26), .len (.t 25), none, [2]⟩,
          ⟨(some 27), .bin .add (.t 24) (.t 26), none, [1, 3]⟩,
          ⟨(some 28), .bin .gtr (.t 27) (.v (.int .i64 100)), none, [4]⟩])
     (.cond (.t 28)
       (.seq (.reg false [⟨(some 4), .mv (.v (.bool true)), none, []⟩])
        (.ret))
       (.skip)))
    (.seq (.reg false [⟨(some 29), .call 18 [], none, []⟩,
          ⟨(some 5), .mv (.t 29), none, [0, 0, 0]⟩])
     (.seq (.reg false [⟨(some 30), .call 19 [], none, []⟩,
           ⟨(some 6), .new [(.int .i64 0), (.int .i64 0), (.slice none 0 0), (.slice none 0 0), (.slice none 0 0), (.slice none 0 0), (.int .i64 0), (.int .i64 0), (.int .i64 0)], none, []⟩,
           ⟨none, .store 9 (.t 6) (.t 30), none, [1, 0, 0, 0, 1]⟩])
      (.seq (.seq (.reg false [⟨(some 31), .mv (.t 0), none, []⟩,
             ⟨(some 32), .len (.t 31), none, [0]⟩,
             ⟨(some 33), .mv (.v (.int .i64 0)), none, []⟩])
        (.block 0 (.loop (.seq (.reg false [⟨(some 34), .bin .lss (.t 33) (.t 32), none, []⟩])
           (.seq (.cond (.t 34)
              (.skip)
              (.exit 0))
            (.seq (.block 1 (.seq (.reg false [⟨(some 35), .ixs 9 (.t 31) (.t 33), none, []⟩,
                    ⟨(some 36), .load (some 9) (.t 35), none, [0]⟩,
                    ⟨(some 8), .new [(.int .i64 0), (.int .i64 0), (.int .i64 0), (.int .i64 0), (.int .i64 0), (.int .i64 0), (.int .i64 0), (.int .i64 0), (.int .i64 0)], none, []⟩,
                    ⟨none, .store 9 (.t 8) (.t 36), none, [2, 1, 0, 1, 2]⟩])
               (.seq (.reg false [⟨(some 37), .mv (.t 5), none, []⟩,
                     ⟨(some 38), .load (some 9) (.t 8), none, []⟩,
                     ⟨(some 39), .call 21 [(.t 37), (.t 38)], none, [0, 1]⟩])
                (.reg false [⟨(some 41), .load (some 9) (.t 6), none, []⟩,
                     ⟨(some 42), .load (some 9) (.t 8), none, []⟩,
                     ⟨(some 43), .call 20 [(.t 41), (.t 42)], none, [0, 1]⟩,
                     ⟨(some 40), .mv (.t 43), none, [2]⟩,
                     ⟨(some 44), .ext (.t 40) 0, none, [3]⟩,
                     ⟨(some 45), .ext (.t 40) 1, none, [3]⟩,
                     ⟨none, .store 9 (.t 6) (.t 44), none, [4, 2, 0, 1, 2, 3, 4]⟩]))))
             (.reg false [⟨(some 46), .bin .add (.t 33) (.v (.int .i64 1)), none, []⟩,
                  ⟨(some 33), .mv (.t 46), none, [0]⟩])))))))
       (.seq (.reg false [⟨(some 47), .mv (.t 5), none, []⟩,
             ⟨(some 48), .call 32 [(.t 47)], none, [0]⟩,
             ⟨(some 49), .mv (.t 5), none, []⟩,
             ⟨(some 50), .call 32 [(.t 49)], none, [2, 1]⟩,
             ⟨(some 9), .mv (.t 48), none, [1, 3, 0, 1]⟩,
             ⟨(some 10), .mv (.t 50), none, [3, 4, 0, 1, 2, 3, 4]⟩])
        (.seq (.reg false [⟨(some 51), .load (some 9) (.t 6), none, []⟩,
              ⟨(some 11), .new [(.int .i64 0), (.int .i64 0), (.slice none 0 0), (.slice none 0 0), (.slice none 0 0), (.slice none 0 0), (.int .i64 0), (.int .i64 0), (.int .i64 0)], none, []⟩,
              ⟨none, .store 9 (.t 11) (.t 51), none, [1, 0, 0, 1]⟩])
         (.seq (.seq (.reg false [⟨(some 52), .mv (.t 1), none, []⟩,
                ⟨(some 53), .len (.t 52), none, [0]⟩,
                ⟨(some 54), .mv (.v (.int .i64 0)), none, []⟩])
           (.block 2 (.loop (.seq (.reg false [⟨(some 55), .bin .lss (.t 54) (.t 53), none, []⟩])
              (.seq (.cond (.t 55)
                 (.skip)
                 (.exit 2))
               (.seq (.block 3 (.seq (.reg false [⟨(some 56), .ixs 9 (.t 52) (.t 54), none, []⟩,
                       ⟨(some 57), .load (some 9) (.t 56), none, [0]⟩,
                       ⟨(some 13), .new [(.int .i64 0), (.int .i64 0), (.int .i64 0), (.int .i64 0), (.int .i64 0), (.int .i64 0), (.int .i64 0), (.int .i64 0), (.int .i64 0)], none, []⟩,
                       ⟨none, .store 9 (.t 13) (.t 57), none, [2, 1, 0, 1, 2]⟩])
                  (.seq (.reg false [⟨(some 59), .load (some 9) (.t 11), none, []⟩,
                        ⟨(some 60), .load (some 9) (.t 13), none, []⟩,
                        ⟨(some 61), .call 20 [(.t 59), (.t 60)], none, [0, 1]⟩,
                        ⟨(some 58), .mv (.t 61), none, [2]⟩,
                        ⟨(some 62), .ext (.t 58) 0, none, [3]⟩,
                        ⟨(some 63), .ext (.t 58) 1, none, [3]⟩,
                        ⟨(some 14), .new [(.int .i64 0), (.int .i64 0), (.slice none 0 0), (.slice none 0 0), (.slice none 0 0), (.slice none 0 0), (.int .i64 0), (.int .i64 0), (.int .i64 0)], none, []⟩,
                        ⟨none, .store 9 (.t 14) (.t 62), none, [6, 4, 2, 0, 1, 2, 3, 4, 6]⟩,
                        ⟨(some 15), .mv (.t 63), none, [5, 7, 0, 1, 2, 3, 4, 5, 6, 7]⟩])
                   (.seq (.seq (.reg false [⟨(some 64), .mv (.t 9), none, []⟩,
                          ⟨(some 65), .load (some 9) (.t 13), none, []⟩,
                          ⟨(some 66), .call 21 [(.t 64), (.t 65)], none, [0, 1]⟩,
                          ⟨(some 67), .mv (.t 15), none, []⟩,
                          ⟨(some 68), .eqb true (.t 66) (.t 67), none, [2, 3]⟩])
                     (.cond (.t 68)
                       (.seq (.reg false [⟨(some 4), .mv (.v (.bool false)), none, []⟩])
                        (.ret))
                       (.skip)))
                    (.reg false [⟨(some 69), .load (some 9) (.t 14), none, []⟩,
                         ⟨none, .store 9 (.t 11) (.t 69), none, [0, 0]⟩])))))
                (.reg false [⟨(some 70), .bin .add (.t 54) (.v (.int .i64 1)), none, []⟩,
                     ⟨(some 54), .mv (.t 70), none, [0]⟩])))))))
          (.seq (.seq (.reg true [⟨(some 71), .mv (.t 10), none, []⟩,
                 ⟨(some 72), .call 22 [(.t 71)], none, [0]⟩,
                 ⟨(some 73), .fld 1 (.t 6), none, []⟩,
                 ⟨(some 74), .load none (.t 73), none, [2]⟩,
                 ⟨(some 75), .bin .neq (.t 72) (.t 74), none, [1, 3]⟩,
                 ⟨(some 76), .mv (.t 75), none, [4, 1]⟩,
                 ⟨(some 77), .mv (.t 10), (some (76, false)), [5]⟩,
                 ⟨(some 78), .call 23 [(.t 77)], (some (76, false)), [6, 5, 5]⟩,
                 ⟨(some 79), .fld 5 (.t 6), (some (76, false)), [5]⟩,
                 ⟨(some 80), .load none (.t 79), (some (76, false)), [8, 5]⟩,
                 ⟨(some 81), .len (.t 80), (some (76, false)), [9, 5]⟩,
                 ⟨(some 82), .bin .gtr (.t 81) (.v (.int .i64 0)), (some (76, false)), [10, 5]⟩,
                 ⟨(some 83), .eqb true (.t 78) (.t 82), (some (76, false)), [7, 11, 5]⟩,
                 ⟨(some 84), .pick (.t 76) (.v (.bool true)) (.t 83), none, [5, 12]⟩])
            (.cond (.t 84)
              (.seq (.reg false [⟨(some 4), .mv (.v (.bool false)), none, []⟩])
               (.ret))
              (.skip)))
           (.seq (.seq (.reg false [⟨(some 85), .mv (.t 1), none, []⟩,
                  ⟨(some 86), .len (.t 85), none, [0]⟩,
                  ⟨(some 87), .mv (.v (.int .i64 0)), none, []⟩])
             (.block 4 (.loop (.seq (.reg false [⟨(some 88), .bin .lss (.t 87) (.t 86), none, []⟩])
                (.seq (.cond (.t 88)
                   (.skip)
                   (.exit 4))
                 (.seq (.block 5 (.seq (.reg false [⟨(some 89), .ixs 9 (.t 85) (.t 87), none, []⟩,
                         ⟨(some 90), .load (some 9) (.t 89), none, [0]⟩,
                         ⟨(some 17), .new [(.int .i64 0), (.int .i64 0), (.int .i64 0), (.int .i64 0), (.int .i64 0), (.int .i64 0), (.int .i64 0), (.int .i64 0), (.int .i64 0)], none, []⟩,
                         ⟨none, .store 9 (.t 17) (.t 90), none, [2, 1, 0, 1, 2]⟩])
                    (.seq (.reg false [⟨(some 92), .load (some 9) (.t 6), none, []⟩,
                          ⟨(some 93), .load (some 9) (.t 17), none, []⟩,
                          ⟨(some 94), .call 20 [(.t 92), (.t 93)], none, [0, 1]⟩,
                          ⟨(some 91), .mv (.t 94), none, [2]⟩,
                          ⟨(some 95), .ext (.t 91) 0, none, [3]⟩,
                          ⟨(some 96), .ext (.t 91) 1, none, [3]⟩,
                          ⟨(some 18), .new [(.int .i64 0), (.int .i64 0), (.slice none 0 0), (.slice none 0 0), (.slice none 0 0), (.slice none 0 0), (.int .i64 0), (.int .i64 0), (.int .i64 0)], none, []⟩,
                          ⟨none, .store 9 (.t 18) (.t 95), none, [6, 4, 2, 0, 1, 2, 3, 4, 6]⟩,
                          ⟨(some 19), .mv (.t 96), none, [5, 7, 0, 1, 2, 3, 4, 5, 6, 7]⟩])
                     (.seq (.seq (.reg false [⟨(some 97), .mv (.t 5), none, []⟩,
                            ⟨(some 98), .load (some 9) (.t 17), none, []⟩,
                            ⟨(some 99), .call 21 [(.t 97), (.t 98)], none, [0, 1]⟩,
                            ⟨(some 100), .mv (.t 19), none, []⟩,
                            ⟨(some 101), .eqb true (.t 99) (.t 100), none, [2, 3]⟩,
                            ⟨(some 102), .mv (.t 101), none, [4, 2]⟩,
                            ⟨(some 103), .mv (.t 10), (some (102, false)), [5]⟩,
                            ⟨(some 104), .load (some 9) (.t 17), (some (102, false)), [5]⟩,
                            ⟨(some 105), .call 21 [(.t 103), (.t 104)], (some (102, false)), [6, 7, 5, 5]⟩,
                            ⟨(some 106), .mv (.t 19), (some (102, false)), [5]⟩,
                            ⟨(some 107), .eqb true (.t 105) (.t 106), (some (102, false)), [8, 9, 5]⟩,
                            ⟨(some 108), .pick (.t 102) (.v (.bool true)) (.t 107), none, [5, 10]⟩])
                       (.cond (.t 108)
                         (.seq (.reg false [⟨(some 4), .mv (.v (.bool false)), none, []⟩])
                          (.ret))
                         (.skip)))
                      (.reg false [⟨(some 109), .load (some 9) (.t 18), none, []⟩,
                           ⟨none, .store 9 (.t 6) (.t 109), none, [0, 0]⟩])))))
                  (.reg false [⟨(some 110), .bin .add (.t 87) (.v (.int .i64 1)), none, []⟩,
                       ⟨(some 87), .mv (.t 110), none, [0]⟩])))))))
            (.seq (.reg false [⟨(some 20), .mv (.v (.pointer none)), none, []⟩])
             (.seq (.reg false [⟨(some 111), .mv (.t 20), none, []⟩,
                   ⟨(some 112), .build [(.int .i64 0), (.int .i64 0), (.int .i64 0), (.int .i64 0), (.int .i64 0), (.int .i64 0), (.int .i64 0), (.int .i64 0), (.int .i64 0)] [(1, 1, (.v (.int .i64 1)))], none, []⟩,
                   ⟨(some 113), .call 21 [(.t 111), (.t 112)], none, [0, 1]⟩,
                   ⟨(some 114), .un .not (.t 113), none, [2]⟩,
                   ⟨(some 115), .mv (.t 114), none, [3, 2]⟩,
                   ⟨(some 116), .mv (.t 20), (some (115, true)), [4]⟩,
                   ⟨(some 117), .call 23 [(.t 116)], (some (115, true)), [5, 4, 4]⟩,
                   ⟨(some 118), .un .not (.t 117), (some (115, true)), [6, 4]⟩,
                   ⟨(some 119), .pick (.t 115) (.t 118) (.v (.bool false)), none, [4, 7]⟩,
                   ⟨(some 120), .mv (.t 119), none, [8, 6]⟩,
                   ⟨(some 121), .mv (.t 20), (some (120, true)), [9]⟩,
                   ⟨(some 122), .call 22 [(.t 121)], (some (120, true)), [10, 9, 9]⟩,
                   ⟨(some 123), .bin .eql (.t 122) (.v (.int .i64 0)), (some (120, true)), [11, 9]⟩,
                   ⟨(some 124), .pick (.t 120) (.t 123) (.v (.bool false)), none, [9, 12]⟩,
                   ⟨(some 125), .mv (.t 124), none, [13, 11]⟩,
                   ⟨(some 126), .mv (.t 20), (some (125, true)), [14]⟩,
                   ⟨(some 127), .call 32 [(.t 126)], (some (125, true)), [15, 14, 14]⟩,
                   ⟨(some 128), .bin .eql (.t 127) (.v (.pointer none)), (some (125, true)), [16, 14]⟩,
                   ⟨(some 129), .pick (.t 125) (.t 128) (.v (.bool false)), none, [14, 17]⟩,
                   ⟨(some 4), .mv (.t 129), none, [18, 16, 0, 1, 2, 3, 4, 5, 6, 7, 8, 9, 10, 11, 12, 13, 14, 15, 16, 17, 18]⟩])
              (.ret)))))))))))))
def pr11 : List PR := [.t 4]
abbrev ms11_0 : List Nat := [34, 35, 36, 8, 37, 38, 39, 41, 42, 43, 40, 44, 45, 46, 33]
abbrev os11_0 : List Nat := [8, 6]
abbrev ms11_1 : List Nat := [55, 56, 57, 13, 59, 60, 61, 58, 62, 63, 14, 15, 64, 65, 66, 67, 68, 4, 69, 70, 54]
abbrev os11_1 : List Nat := [13, 14, 11]
abbrev ms11_2 : List Nat := [88, 89, 90, 17, 92, 93, 94, 91, 95, 96, 18, 19, 97, 98, 99, 100, 101, 102, 103, 104, 105, 106, 107, 108, 4, 109, 110, 87]
abbrev os11_2 : List Nat := [17, 18, 6]
theorem bd11 : Try.f11.body = some (Try.f11.body.getD .skip) := by kernel_rfl
theorem cp11 : compC Try.prog Try.f11.ntmps eqsL (Try.f11.body.getD .skip) = some pc11 := by kernel_rfl
theorem sp11 [WInv] {env : Env} (hE : EnvOK Try.prog env) {R : List Pa → List Pa → Prop} (hR : ∀ ps rs, R ps rs → ps.length ≤ 130 ∧ pwp env pc11 (fun e s => (e = .normal ∨ e = .ret) ∧ s.res pr11 = some rs) (St.init ps)) : Spec Try.prog 11 R :=
  fn_sound hE eqsOK mixedOK Try.func11 bd11 cp11 (by kernel_rfl) (by kernel_rfl) hR

/-! interleave/interleavelaw30.awake -/
def pc12 : PC :=
 .seq (.reg false [⟨(some 0), .mv (.v (.bool false)), none, []⟩])
  (.seq (.reg false [⟨(some 6), .build [(.int .i64 0), (.int .i64 0), (.int .i64 0), (.int .i64 0), (.int .i64 0), (.int .i64 0), (.int .i64 0), (.int .i64 0), (.int .i64 0)] [(1, 1, (.v (.int .i64 14))), (4, 1, (.v (.int .i64 1)))], none, []⟩,
        ⟨(some 7), .build [(.int .i64 0), (.int .i64 0), (.int .i64 0), (.int .i64 0), (.int .i64 0), (.int .i64 0), (.int .i64 0), (.int .i64 0), (.int .i64 0)] [(1, 1, (.v (.int .i64 15))), (2, 1, (.v (.int .i64 5)))], none, []⟩,
        ⟨(some 8), .build [(.int .i64 0), (.int .i64 0), (.int .i64 0), (.int .i64 0), (.int .i64 0), (.int .i64 0), (.int .i64 0), (.int .i64 0), (.int .i64 0)] [(0, 1, (.v (.int .i64 1))), (1, 1, (.v (.int .i64 17))), (2, 1, (.v (.int .i64 5)))], none, []⟩,
        ⟨(some 9), .build [(.int .i64 0), (.int .i64 0), (.int .i64 0), (.int .i64 0), (.int .i64 0), (.int .i64 0), (.int .i64 0), (.int .i64 0), (.int .i64 0)] [(0, 1, (.v (.int .i64 1))), (1, 1, (.v (.int .i64 18))), (2, 1, (.v (.int .i64 5)))], none, []⟩,
        ⟨(some 10), .build [(.int .i64 0), (.int .i64 0), (.int .i64 0), (.int .i64 0), (.int .i64 0), (.int .i64 0), (.int .i64 0), (.int .i64 0), (.int .i64 0)] [(1, 1, (.v (.int .i64 16))), (2, 1, (.v (.int .i64 5)))], none, []⟩,
        ⟨(some 11), .bslice 31 9 [(.int .i64 0), (.int .i64 0), (.int .i64 0), (.int .i64 0), (.int .i64 0), (.int .i64 0), (.int .i64 0), (.int .i64 0), (.int .i64 0), (.int .i64 0), (.int .i64 0), (.int .i64 0), (.int .i64 0), (.int .i64 0), (.int .i64 0), (.int .i64 0), (.int .i64 0), (.int .i64 0), (.int .i64 0), (.int .i64 0), (.int .i64 0), (.int .i64 0), (.int .i64 0), (.int .i64 0), (.int .i64 0), (.int .i64 0), (.int .i64 0), (.int .i64 0), (.int .i64 0), (.int .i64 0), (.int .i64 0), (.int .i64 0), (.int .i64 0), (.int .i64 0), (.int .i64 0), (.int .i64 0), (.int .i64 0), (.int .i64 0), (.int .i64 0), (.int .i64 0), (.int .i64 0), (.int .i64 0), (.int .i64 0), (.int .i64 0), (.int .i64 0)] 5 [(0, 9, (.t 6)), (9, 9, (.t 7)), (18, 9, (.t 8)), (27, 9, (.t 9)), (36, 9, (.t 10))], none, [0, 1, 2, 3, 4]⟩,
        ⟨(some 1), .mv (.t 11), none, [5, 0, 1, 2, 3, 4, 5]⟩])
   (.seq (.reg false [⟨(some 13), .build [(.int .i64 0), (.int .i64 0), (.int .i64 0), (.int .i64 0), (.int .i64 0), (.int .i64 0), (.int .i64 0), (.int .i64 0), (.int .i64 0)] [(1, 1, (.v (.int .i64 6))), (2, 1, (.v (.int .i64 1)))], none, []⟩,
         ⟨(some 14), .build [(.int .i64 0), (.int .i64 0), (.int .i64 0), (.int .i64 0), (.int .i64 0), (.int .i64 0), (.int .i64 0), (.int .i64 0), (.int .i64 0)] [(1, 1, (.v (.int .i64 6))), (2, 1, (.v (.int .i64 1)))], none, []⟩,
         ⟨(some 15), .bslice 31 9 [(.int .i64 0), (.int .i64 0), (.int .i64 0), (.int .i64 0), (.int .i64 0), (.int .i64 0), (.int .i64 0), (.int .i64 0), (.int .i64 0), (.int .i64 0), (.int .i64 0), (.int .i64 0), (.int .i64 0), (.int .i64 0), (.int .i64 0), (.int .i64 0), (.int .i64 0), (.int .i64 0)] 2 [(0, 9, (.t 13)), (9, 9, (.t 14))], none, [0, 1]⟩,
         ⟨(some 16), .call 13 [(.t 15)], none, [2]⟩,
         ⟨(some 12), .mv (.t 16), none, [3]⟩,
         ⟨(some 17), .ext (.t 12) 0, none, [4]⟩,
         ⟨(some 18), .ext (.t 12) 1, none, [4]⟩,
         ⟨(some 2), .mv (.t 17), none, [5, 3, 0, 1, 2, 3, 4, 5]⟩,
         ⟨(some 3), .mv (.t 18), none, [6, 7, 0, 1, 2, 3, 4, 5, 6, 7]⟩])
    (.seq (.reg false [⟨(some 20), .build [(.int .i64 0), (.int .i64 0), (.int .i64 0), (.int .i64 0), (.int .i64 0), (.int .i64 0), (.int .i64 0), (.int .i64 0), (.int .i64 0)] [(1, 1, (.v (.int .i64 17))), (2, 1, (.v (.int .i64 5))), (5, 1, (.v (.int .i64 1)))], none, []⟩,
          ⟨(some 21), .bslice 31 9 [(.int .i64 0), (.int .i64 0), (.int .i64 0), (.int .i64 0), (.int .i64 0), (.int .i64 0), (.int .i64 0), (.int .i64 0), (.int .i64 0)] 1 [(0, 9, (.t 20))], none, [0]⟩,
          ⟨(some 22), .call 13 [(.t 21)], none, [1]⟩,
          ⟨(some 19), .mv (.t 22), none, [2]⟩,
          ⟨(some 23), .ext (.t 19) 0, none, [3]⟩,
          ⟨(some 24), .ext (.t 19) 1, none, [3]⟩,
          ⟨(some 4), .mv (.t 23), none, [4, 2, 0, 1, 2, 3, 4]⟩,
          ⟨(some 5), .mv (.t 24), none, [5, 6, 0, 1, 2, 3, 4, 5, 6]⟩])
     (.seq (.reg false [⟨(some 25), .mv (.t 1), none, []⟩,
           ⟨(some 26), .call 15 [(.t 25)], none, [0]⟩,
           ⟨(some 27), .mv (.t 26), none, [1, 1]⟩,
           ⟨(some 28), .mv (.t 1), (some (27, true)), [2]⟩,
           ⟨(some 29), .slc 9 (.t 28) none (some (.v (.int .i64 3))), (some (27, true)), [3, 2]⟩,
           ⟨(some 30), .call 17 [(.t 29)], (some (27, true)), [4, 2, 2]⟩,
           ⟨(some 31), .bin .eql (.t 30) (.v (.int .i64 1)), (some (27, true)), [5, 2]⟩,
           ⟨(some 32), .pick (.t 27) (.t 31) (.v (.bool false)), none, [2, 6]⟩,
           ⟨(some 33), .mv (.t 32), none, [7, 5]⟩,
           ⟨(some 34), .mv (.t 2), (some (33, true)), [8]⟩,
           ⟨(some 35), .bin .eql (.t 34) (.v (.int .i64 1)), (some (33, true)), [9, 8]⟩,
           ⟨(some 36), .pick (.t 33) (.t 35) (.v (.bool false)), none, [8, 10]⟩,
           ⟨(some 37), .mv (.t 36), none, [11, 8]⟩,
           ⟨(some 38), .mv (.t 3), (some (37, true)), [12]⟩,
           ⟨(some 39), .un .not (.t 38), (some (37, true)), [13, 12]⟩,
           ⟨(some 40), .pick (.t 37) (.t 39) (.v (.bool false)), none, [12, 14]⟩,
           ⟨(some 41), .mv (.t 40), none, [15, 12]⟩,
           ⟨(some 42), .mv (.t 4), (some (41, true)), [16]⟩,
           ⟨(some 43), .bin .eql (.t 42) (.v (.int .i64 0)), (some (41, true)), [17, 16]⟩,
           ⟨(some 44), .pick (.t 41) (.t 43) (.v (.bool false)), none, [16, 18]⟩,
           ⟨(some 45), .mv (.t 44), none, [19, 16]⟩,
           ⟨(some 46), .mv (.t 5), (some (45, true)), [20]⟩,
           ⟨(some 47), .un .not (.t 46), (some (45, true)), [21, 20]⟩,
           ⟨(some 48), .pick (.t 45) (.t 47) (.v (.bool false)), none, [20, 22]⟩,
           ⟨(some 0), .mv (.t 48), none, [23, 20, 0, 1, 2, 3, 4, 5, 6, 7, 8, 9, 10, 11, 12, 13, 14, 15, 16, 17, 18, 19, 20, 21, 22, 23]⟩])
      (.ret)))))
def pr12 : List PR := [.t 0]
theorem bd12 : Try.f12.body = some (Try.f12.body.getD .skip) := by kernel_rfl
theorem cp12 : compC Try.prog Try.f12.ntmps eqsL (Try.f12.body.getD .skip) = some pc12 := by kernel_rfl
theorem sp12 [WInv] {env : Env} (hE : EnvOK Try.prog env) {R : List Pa → List Pa → Prop} (hR : ∀ ps rs, R ps rs → ps.length ≤ 49 ∧ pwp env pc12 (fun e s => (e = .normal ∨ e = .ret) ∧ s.res pr12 = some rs) (St.init ps)) : Spec Try.prog 12 R :=
  fn_sound hE eqsOK mixedOK Try.func12 bd12 cp12 (by kernel_rfl) (by kernel_rfl) hR

/-! interleave/trace.Check -/
def pc13 : PC :=
 .seq (.reg false [⟨(some 2), .mv (.v (.int .i64 0)), none, []⟩,
       ⟨(some 3), .mv (.v (.bool false)), none, [0]⟩])
  (.seq (.reg false [⟨(some 8), .mv (.t 0), none, []⟩,
        ⟨(some 9), .call 33 [(.t 8)], none, [0]⟩,
        ⟨(some 7), .mv (.t 9), none, [1]⟩,
        ⟨(some 10), .ext (.t 7) 0, none, [2]⟩,
        ⟨(some 11), .ext (.t 7) 1, none, [2]⟩,
        ⟨(some 12), .ext (.t 7) 2, none, [2]⟩,
        ⟨(some 4), .mv (.t 10), none, [3, 1, 0, 1, 2, 3]⟩,
        ⟨(some 5), .mv (.t 11), none, [4, 6, 0, 1, 2, 3, 4, 6]⟩,
        ⟨(some 6), .mv (.t 12), none, [5, 7, 0, 1, 2, 3, 4, 5, 6, 7]⟩])
   (.seq (.reg false [⟨(some 13), .mv (.t 5), none, []⟩,
         ⟨(some 14), .mv (.t 5), none, []⟩,
         ⟨(some 15), .mv (.t 0), none, []⟩,
         ⟨(some 16), .len (.t 15), none, [2]⟩,
         ⟨(some 17), .bin .eql (.t 14) (.t 16), none, [1, 3]⟩,
         ⟨(some 2), .mv (.t 13), none, [0, 0]⟩,
         ⟨(some 3), .mv (.t 17), none, [4, 5, 0, 1, 2, 3, 4, 5]⟩])
    (.ret)))
def pr13 : List PR := [.t 2, .t 3]
theorem bd13 : Try.f13.body = some (Try.f13.body.getD .skip) := by kernel_rfl
theorem cp13 : compC Try.prog Try.f13.ntmps eqsL (Try.f13.body.getD .skip) = some pc13 := by kernel_rfl
theorem sp13 [WInv] {env : Env} (hE : EnvOK Try.prog env) {R : List Pa → List Pa → Prop} (hR : ∀ ps rs, R ps rs → ps.length ≤ 18 ∧ pwp env pc13 (fun e s => (e = .normal ∨ e = .ret) ∧ s.res pr13 = some rs) (St.init ps)) : Spec Try.prog 13 R :=
  fn_sound hE eqsOK mixedOK Try.func13 bd13 cp13 (by kernel_rfl) (by kernel_rfl) hR

/-! interleave/trace.Valid -/
def pc15 : PC :=
 .seq (.reg false [⟨(some 2), .mv (.v (.bool false)), none, []⟩])
  (.seq (.reg false [⟨(some 6), .mv (.t 0), none, []⟩,
        ⟨(some 7), .call 13 [(.t 6)], none, [0]⟩,
        ⟨(some 5), .mv (.t 7), none, [1]⟩,
        ⟨(some 8), .ext (.t 5) 0, none, [2]⟩,
        ⟨(some 9), .ext (.t 5) 1, none, [2]⟩,
        ⟨(some 3), .mv (.t 8), none, [3, 1, 0, 1, 2, 3]⟩,
        ⟨(some 4), .mv (.t 9), none, [4, 5, 0, 1, 2, 3, 4, 5]⟩])
   (.seq (.reg false [⟨(some 10), .mv (.t 4), none, []⟩,
         ⟨(some 2), .mv (.t 10), none, [0, 0]⟩])
    (.ret)))
def pr15 : List PR := [.t 2]
theorem bd15 : Try.f15.body = some (Try.f15.body.getD .skip) := by kernel_rfl
theorem cp15 : compC Try.prog Try.f15.ntmps eqsL (Try.f15.body.getD .skip) = some pc15 := by kernel_rfl
theorem sp15 [WInv] {env : Env} (hE : EnvOK Try.prog env) {R : List Pa → List Pa → Prop} (hR : ∀ ps rs, R ps rs → ps.length ≤ 11 ∧ pwp env pc15 (fun e s => (e = .normal ∨ e = .ret) ∧ s.res pr15 = some rs) (St.init ps)) : Spec Try.prog 15 R :=
  fn_sound hE eqsOK mixedOK Try.func15 bd15 cp15 (by kernel_rfl) (by kernel_rfl) hR

/-! interleave/trace.Whole -/
def pc17 : PC :=
 .seq (.reg false [⟨(some 2), .mv (.v (.int .i64 0)), none, []⟩])
  (.seq (.reg false [⟨(some 7), .mv (.t 0), none, []⟩,
        ⟨(some 8), .call 33 [(.t 7)], none, [0]⟩,
        ⟨(some 6), .mv (.t 8), none, [1]⟩,
        ⟨(some 9), .ext (.t 6) 0, none, [2]⟩,
        ⟨(some 10), .ext (.t 6) 1, none, [2]⟩,
        ⟨(some 11), .ext (.t 6) 2, none, [2]⟩,
        ⟨(some 3), .mv (.t 9), none, [3, 1, 0, 1, 2, 3]⟩,
        ⟨(some 4), .mv (.t 10), none, [4, 6, 0, 1, 2, 3, 4, 6]⟩,
        ⟨(some 5), .mv (.t 11), none, [5, 7, 0, 1, 2, 3, 4, 5, 6, 7]⟩])
   (.seq (.reg false [⟨(some 12), .mv (.t 5), none, []⟩,
         ⟨(some 2), .mv (.t 12), none, [0, 0]⟩])
    (.ret)))
def pr17 : List PR := [.t 2]
theorem bd17 : Try.f17.body = some (Try.f17.body.getD .skip) := by kernel_rfl
theorem cp17 : compC Try.prog Try.f17.ntmps eqsL (Try.f17.body.getD .skip) = some pc17 := by kernel_rfl
theorem sp17 [WInv] {env : Env} (hE : EnvOK Try.prog env) {R : List Pa → List Pa → Prop} (hR : ∀ ps rs, R ps rs → ps.length ≤ 13 ∧ pwp env pc17 (fun e s => (e = .normal ∨ e = .ret) ∧ s.res pr17 = some rs) (St.init ps)) : Spec Try.prog 17 R :=
  fn_sound hE eqsOK mixedOK Try.func17 bd17 cp17 (by kernel_rfl) (by kernel_rfl) hR

/-! interleave/trace.Goroutines -/
def pc25 : PC :=
 .seq (.reg false [⟨(some 2), .mv (.v (.int .i64 0)), none, []⟩])
  (.seq (.reg false [⟨(some 7), .mv (.t 0), none, []⟩,
        ⟨(some 8), .call 33 [(.t 7)], none, [0]⟩,
        ⟨(some 6), .mv (.t 8), none, [1]⟩,
        ⟨(some 9), .ext (.t 6) 0, none, [2]⟩,
        ⟨(some 10), .ext (.t 6) 1, none, [2]⟩,
        ⟨(some 11), .ext (.t 6) 2, none, [2]⟩,
        ⟨(some 3), .mv (.t 9), none, [3, 1, 0, 1, 2, 3]⟩,
        ⟨(some 4), .mv (.t 10), none, [4, 6, 0, 1, 2, 3, 4, 6]⟩,
        ⟨(some 5), .mv (.t 11), none, [5, 7, 0, 1, 2, 3, 4, 5, 6, 7]⟩])
   (.seq (.seq (.reg false [⟨(some 12), .mv (.t 4), none, []⟩,
          ⟨(some 13), .mv (.t 0), none, []⟩,
          ⟨(some 14), .len (.t 13), none, [1]⟩,
          ⟨(some 15), .bin .lss (.t 12) (.t 14), none, [0, 2]⟩])
     (.cond (.t 15)
       (.seq (.reg false [⟨(some 2), .mv (.v (.int .i64 0)), none, []⟩])
        (.ret))
       (.skip)))
    (.seq (.reg false [⟨(some 16), .mv (.t 3), none, []⟩,
          ⟨(some 17), .nilck (.t 16), none, [0]⟩,
          ⟨(some 18), .fld 1 (.t 17), none, [1]⟩,
          ⟨(some 19), .load none (.t 18), none, [2]⟩,
          ⟨(some 2), .mv (.t 19), none, [3, 0, 1, 2, 3]⟩])
     (.ret))))
def pr25 : List PR := [.t 2]
theorem bd25 : Try.f25.body = some (Try.f25.body.getD .skip) := by kernel_rfl
theorem cp25 : compC Try.prog Try.f25.ntmps eqsL (Try.f25.body.getD .skip) = some pc25 := by kernel_rfl
theorem sp25 [WInv] {env : Env} (hE : EnvOK Try.prog env) {R : List Pa → List Pa → Prop} (hR : ∀ ps rs, R ps rs → ps.length ≤ 20 ∧ pwp env pc25 (fun e s => (e = .normal ∨ e = .ret) ∧ s.res pr25 = some rs) (St.init ps)) : Spec Try.prog 25 R :=
  fn_sound hE eqsOK mixedOK Try.func25 bd25 cp25 (by kernel_rfl) (by kernel_rfl) hR

/-! interleave/trace.At -/
def pc27 : PC :=
 .seq (.reg false [⟨(some 3), .box (.t 1), none, []⟩,
       ⟨(some 4), .nilRow 3 1, none, []⟩])
  (.seq (.reg false [⟨(some 5), .nilRow 3 1, none, []⟩])
   (.seq (.seq (.reg false [⟨(some 8), .mv (.t 0), none, []⟩,
          ⟨(some 9), .len (.t 8), none, [0]⟩,
          ⟨(some 10), .mv (.v (.int .i64 0)), none, []⟩])
     (.block 0 (.loop (.seq (.reg false [⟨(some 11), .bin .lss (.t 10) (.t 9), none, []⟩])
        (.seq (.cond (.t 11)
           (.skip)
           (.exit 0))
         (.seq (.block 1 (.seq (.reg false [⟨(some 12), .mv (.t 10), none, []⟩,
                 ⟨(some 13), .ixs 9 (.t 8) (.t 10), none, []⟩,
                 ⟨(some 14), .load (some 9) (.t 13), none, [1]⟩,
                 ⟨(some 7), .new [(.int .i64 0), (.int .i64 0), (.int .i64 0), (.int .i64 0), (.int .i64 0), (.int .i64 0), (.int .i64 0), (.int .i64 0), (.int .i64 0)], none, []⟩,
                 ⟨(some 6), .mv (.t 12), none, [0, 0, 1, 2, 3]⟩,
                 ⟨none, .store 9 (.t 7) (.t 14), none, [3, 2, 4, 0, 1, 2, 3, 4]⟩])
            (.seq (.reg false [⟨(some 15), .fld 1 (.t 7), none, []⟩,
                  ⟨(some 16), .load none (.t 15), none, [0]⟩,
                  ⟨(some 17), .call 49 [(.t 16)], none, [1]⟩,
                  ⟨(some 18), .mv (.t 17), none, [2, 2]⟩,
                  ⟨(some 19), .load (some 2) (.t 3), (some (18, true)), [3]⟩,
                  ⟨(some 20), .fld 2 (.t 7), (some (18, true)), [3]⟩,
                  ⟨(some 21), .load none (.t 20), (some (18, true)), [5, 3]⟩,
                  ⟨(some 22), .fld 3 (.t 7), (some (18, true)), [3]⟩,
                  ⟨(some 23), .load none (.t 22), (some (18, true)), [7, 3]⟩,
                  ⟨(some 24), .build [(.int .i64 0), (.int .i64 0)] [(0, 1, (.t 21)), (1, 1, (.t 23))], (some (18, true)), [6, 8, 3]⟩,
                  ⟨(some 25), .eqs false [false, false] (.t 19) (.t 24), (some (18, true)), [4, 9, 3]⟩,
                  ⟨(some 26), .pick (.t 18) (.t 25) (.v (.bool false)), none, [3, 10]⟩])
             (.cond (.t 26)
               (.reg false [⟨(some 27), .mv (.t 5), none, []⟩,
                    ⟨(some 28), .mv (.t 6), none, []⟩,
                    ⟨(some 29), .bslice 3 1 [(.int .i64 0)] 1 [(0, 1, (.t 28))], none, [1]⟩,
                    ⟨(some 30), .append 3 1 8 (.t 27) (.t 29), none, [0, 2]⟩,
                    ⟨(some 5), .mv (.t 30), none, [3, 3, 0, 1, 2, 3]⟩])
               (.skip)))))
          (.reg false [⟨(some 31), .bin .add (.t 10) (.v (.int .i64 1)), none, []⟩,
               ⟨(some 10), .mv (.t 31), none, [0]⟩])))))))
    (.seq (.reg false [⟨(some 32), .mv (.t 5), none, []⟩,
          ⟨(some 4), .mv (.t 32), none, [0, 0]⟩])
     (.ret))))
def pr27 : List PR := [.t 4]
abbrev ms27_0 : List Nat := [11, 12, 13, 14, 7, 6, 15, 16, 17, 18, 19, 20, 21, 22, 23, 24, 25, 26, 27, 28, 29, 30, 5, 31, 10]
abbrev os27_0 : List Nat := [7, 29, 5]
theorem bd27 : Try.f27.body = some (Try.f27.body.getD .skip) := by kernel_rfl
theorem cp27 : compC Try.prog Try.f27.ntmps eqsL (Try.f27.body.getD .skip) = some pc27 := by kernel_rfl
theorem sp27 [WInv] {env : Env} (hE : EnvOK Try.prog env) {R : List Pa → List Pa → Prop} (hR : ∀ ps rs, R ps rs → ps.length ≤ 33 ∧ pwp env pc27 (fun e s => (e = .normal ∨ e = .ret) ∧ s.res pr27 = some rs) (St.init ps)) : Spec Try.prog 27 R :=
  fn_sound hE eqsOK mixedOK Try.func27 bd27 cp27 (by kernel_rfl) (by kernel_rfl) hR

/-! interleave/trace.Project -/
def pc30 : PC :=
 .seq (.reg false [⟨(some 4), .nilRow 31 9, none, []⟩])
  (.seq (.reg false [⟨(some 5), .nilRow 31 9, none, []⟩])
   (.seq (.seq (.reg false [⟨(some 8), .mv (.t 0), none, []⟩,
          ⟨(some 9), .len (.t 8), none, [0]⟩,
          ⟨(some 10), .mv (.v (.int .i64 0)), none, []⟩])
     (.block 0 (.loop (.seq (.reg false [⟨(some 11), .bin .lss (.t 10) (.t 9), none, []⟩])
        (.seq (.cond (.t 11)
           (.skip)
           (.exit 0))
         (.seq (.block 1 (.seq (.reg false [⟨(some 12), .ixs 9 (.t 8) (.t 10), none, []⟩,
                 ⟨(some 13), .load (some 9) (.t 12), none, [0]⟩,
                 ⟨(some 7), .new [(.int .i64 0), (.int .i64 0), (.int .i64 0), (.int .i64 0), (.int .i64 0), (.int .i64 0), (.int .i64 0), (.int .i64 0), (.int .i64 0)], none, []⟩,
                 ⟨none, .store 9 (.t 7) (.t 13), none, [2, 1, 0, 1, 2]⟩])
            (.seq (.reg false [⟨(some 14), .fld 0 (.t 7), none, []⟩,
                  ⟨(some 15), .load none (.t 14), none, [0]⟩,
                  ⟨(some 16), .mv (.t 1), none, []⟩,
                  ⟨(some 17), .bin .eql (.t 15) (.t 16), none, [1, 2]⟩])
             (.cond (.t 17)
               (.reg false [⟨(some 18), .mv (.t 5), none, []⟩,
                    ⟨(some 19), .load (some 9) (.t 7), none, []⟩,
                    ⟨(some 20), .bslice 31 9 [(.int .i64 0), (.int .i64 0), (.int .i64 0), (.int .i64 0), (.int .i64 0), (.int .i64 0), (.int .i64 0), (.int .i64 0), (.int .i64 0)] 1 [(0, 9, (.t 19))], none, [1]⟩,
                    ⟨(some 21), .append 31 9 72 (.t 18) (.t 20), none, [0, 2]⟩,
                    ⟨(some 5), .mv (.t 21), none, [3, 3, 0, 1, 2, 3]⟩])
               (.skip)))))
          (.reg false [⟨(some 22), .bin .add (.t 10) (.v (.int .i64 1)), none, []⟩,
               ⟨(some 10), .mv (.t 22), none, [0]⟩])))))))
    (.seq (.reg false [⟨(some 23), .mv (.t 5), none, []⟩,
          ⟨(some 4), .mv (.t 23), none, [0, 0]⟩])
     (.ret))))
def pr30 : List PR := [.t 4]
abbrev ms30_0 : List Nat := [11, 12, 13, 7, 14, 15, 16, 17, 18, 19, 20, 21, 5, 22, 10]
abbrev os30_0 : List Nat := [7, 20, 5]
theorem bd30 : Try.f30.body = some (Try.f30.body.getD .skip) := by kernel_rfl
theorem cp30 : compC Try.prog Try.f30.ntmps eqsL (Try.f30.body.getD .skip) = some pc30 := by kernel_rfl
theorem sp30 [WInv] {env : Env} (hE : EnvOK Try.prog env) {R : List Pa → List Pa → Prop} (hR : ∀ ps rs, R ps rs → ps.length ≤ 24 ∧ pwp env pc30 (fun e s => (e = .normal ∨ e = .ret) ∧ s.res pr30 = some rs) (St.init ps)) : Spec Try.prog 30 R :=
  fn_sound hE eqsOK mixedOK Try.func30 bd30 cp30 (by kernel_rfl) (by kernel_rfl) hR

/-! interleave/trace.follow -/
def pc33 : PC :=
 .seq (.reg false [⟨(some 2), .mv (.v (.pointer none)), none, []⟩,
       ⟨(some 3), .mv (.v (.int .i64 0)), none, [0]⟩,
       ⟨(some 4), .mv (.v (.int .i64 0)), none, [1]⟩])
  (.seq (.reg false [⟨(some 5), .call 18 [], none, []⟩,
        ⟨(some 2), .mv (.t 5), none, [0, 0, 0]⟩])
   (.seq (.block 0 (.loop (.seq (.seq (.reg false [⟨(some 6), .mv (.t 3), none, []⟩,
             ⟨(some 7), .mv (.t 0), none, []⟩,
             ⟨(some 8), .len (.t 7), none, [1]⟩,
             ⟨(some 9), .bin .lss (.t 6) (.t 8), none, [0, 2]⟩,
             ⟨(some 10), .mv (.t 9), none, [3]⟩,
             ⟨(some 11), .mv (.t 2), (some (10, true)), [4]⟩,
             ⟨(some 12), .mv (.t 0), (some (10, true)), [4]⟩,
             ⟨(some 13), .mv (.t 3), (some (10, true)), [4]⟩,
             ⟨(some 14), .ixs 9 (.t 12) (.t 13), (some (10, true)), [6, 7, 4]⟩,
             ⟨(some 15), .load (some 9) (.t 14), (some (10, true)), [8, 4]⟩,
             ⟨(some 16), .call 21 [(.t 11), (.t 15)], (some (10, true)), [5, 9, 4, 4]⟩,
             ⟨(some 17), .pick (.t 10) (.t 16) (.v (.bool false)), none, [4, 10]⟩])
        (.cond (.t 17)
          (.skip)
          (.exit 0)))
       (.seq (.block 1 (.seq (.reg false [⟨(some 20), .mv (.t 2), none, []⟩,
               ⟨(some 21), .call 23 [(.t 20)], none, [0]⟩,
               ⟨(some 22), .un .not (.t 21), none, [1]⟩])
          (.cond (.t 22)
            (.reg false [⟨(some 23), .mv (.t 3), none, []⟩,
                 ⟨(some 24), .bin .add (.t 23) (.v (.int .i64 1)), none, [0]⟩,
                 ⟨(some 4), .mv (.t 24), none, [1, 0, 1]⟩])
            (.skip))))
        (.reg false [⟨(some 18), .mv (.t 3), none, []⟩,
             ⟨(some 19), .bin .add (.t 18) (.v (.int .i64 1)), none, [0]⟩,
             ⟨(some 3), .mv (.t 19), none, [1, 0, 1]⟩])))))
    (.seq (.reg false [⟨(some 25), .mv (.t 2), none, []⟩,
          ⟨(some 26), .mv (.t 3), none, []⟩,
          ⟨(some 27), .mv (.t 4), none, []⟩,
          ⟨(some 2), .mv (.t 25), none, [0, 0]⟩,
          ⟨(some 3), .mv (.t 26), none, [1, 3, 0, 1, 3]⟩,
          ⟨(some 4), .mv (.t 27), none, [2, 4, 0, 1, 2, 3, 4]⟩])
     (.ret))))
def pr33 : List PR := [.t 2, .t 3, .t 4]
abbrev ms33_0 : List Nat := [6, 7, 8, 9, 10, 11, 12, 13, 14, 15, 16, 17, 20, 21, 22, 23, 24, 4, 18, 19, 3]
abbrev os33_0 : List Nat := []
theorem bd33 : Try.f33.body = some (Try.f33.body.getD .skip) := by kernel_rfl
theorem cp33 : compC Try.prog Try.f33.ntmps eqsL (Try.f33.body.getD .skip) = some pc33 := by kernel_rfl
theorem sp33 [WInv] {env : Env} (hE : EnvOK Try.prog env) {R : List Pa → List Pa → Prop} (hR : ∀ ps rs, R ps rs → ps.length ≤ 28 ∧ pwp env pc33 (fun e s => (e = .normal ∨ e = .ret) ∧ s.res pr33 = some rs) (St.init ps)) : Spec Try.prog 33 R :=
  fn_sound hE eqsOK mixedOK Try.func33 bd33 cp33 (by kernel_rfl) (by kernel_rfl) hR

/-! interleave/trace.sends -/
def pc66 : PC :=
 .seq (.reg false [⟨(some 2), .mv (.v (.bool false)), none, []⟩])
  (.seq (.reg false [⟨(some 3), .mv (.t 0), none, []⟩,
        ⟨(some 4), .bin .eql (.t 3) (.v (.int .i64 15)), none, [0]⟩,
        ⟨(some 5), .mv (.t 4), none, [1]⟩,
        ⟨(some 6), .mv (.t 0), (some (5, false)), [2]⟩,
        ⟨(some 7), .bin .eql (.t 6) (.v (.int .i64 16)), (some (5, false)), [3, 2]⟩,
        ⟨(some 8), .pick (.t 5) (.v (.bool true)) (.t 7), none, [2, 4]⟩,
        ⟨(some 2), .mv (.t 8), none, [5, 2, 0, 1, 2, 3, 4, 5]⟩])
   (.ret))
def pr66 : List PR := [.t 2]
theorem bd66 : Try.f66.body = some (Try.f66.body.getD .skip) := by kernel_rfl
theorem cp66 : compC Try.prog Try.f66.ntmps eqsL (Try.f66.body.getD .skip) = some pc66 := by kernel_rfl
theorem sp66 [WInv] {env : Env} (hE : EnvOK Try.prog env) {R : List Pa → List Pa → Prop} (hR : ∀ ps rs, R ps rs → ps.length ≤ 9 ∧ pwp env pc66 (fun e s => (e = .normal ∨ e = .ret) ∧ s.res pr66 = some rs) (St.init ps)) : Spec Try.prog 66 R :=
  fn_sound hE eqsOK mixedOK Try.func66 bd66 cp66 (by kernel_rfl) (by kernel_rfl) hR

/-! (*interleave/trace.State).Add -/
def pc21 : PC :=
 .seq (.reg false [⟨(some 3), .box (.t 1), none, []⟩,
       ⟨(some 4), .mv (.v (.bool false)), none, []⟩])
  (.seq (.seq (.reg true [⟨(some 6), .mv (.t 0), none, []⟩,
         ⟨(some 7), .bin .eql (.t 6) (.v (.pointer none)), none, [0]⟩,
         ⟨(some 8), .mv (.t 7), none, [1]⟩,
         ⟨(some 9), .load (some 9) (.t 3), (some (8, false)), [2]⟩,
         ⟨(some 10), .call 42 [(.t 9)], (some (8, false)), [3, 2, 2]⟩,
         ⟨(some 11), .un .not (.t 10), (some (8, false)), [4, 2]⟩,
         ⟨(some 12), .pick (.t 8) (.v (.bool true)) (.t 11), none, [2, 5]⟩,
         ⟨(some 13), .mv (.t 12), none, [6, 4]⟩,
         ⟨(some 14), .mv (.t 0), (some (13, false)), [7]⟩,
         ⟨(some 15), .nilck (.t 14), (some (13, false)), [8, 7]⟩,
         ⟨(some 16), .fld 0 (.t 15), (some (13, false)), [9, 7]⟩,
         ⟨(some 17), .load none (.t 16), (some (13, false)), [10, 7]⟩,
         ⟨(some 18), .bin .geq (.t 17) (.v (.int .i64 5000)), (some (13, false)), [11, 7]⟩,
         ⟨(some 19), .pick (.t 13) (.v (.bool true)) (.t 18), none, [7, 12]⟩,
         ⟨(some 20), .mv (.t 19), none, [13, 7]⟩,
         ⟨(some 21), .fld 0 (.t 3), (some (20, false)), [14]⟩,
         ⟨(some 22), .load none (.t 21), (some (20, false)), [15, 14]⟩,
         ⟨(some 23), .mv (.t 0), (some (20, false)), [14]⟩,
         ⟨(some 24), .nilck (.t 23), (some (20, false)), [17, 14]⟩,
         ⟨(some 25), .fld 1 (.t 24), (some (20, false)), [18, 14]⟩,
         ⟨(some 26), .load none (.t 25), (some (20, false)), [19, 14]⟩,
         ⟨(some 27), .bin .geq (.t 22) (.t 26), (some (20, false)), [16, 20, 14]⟩,
         ⟨(some 28), .pick (.t 20) (.v (.bool true)) (.t 27), none, [14, 21]⟩])
    (.cond (.t 28)
      (.seq (.reg false [⟨(some 4), .mv (.v (.bool false)), none, []⟩])
       (.ret))
      (.skip)))
   (.seq (.reg false [⟨(some 5), .mv (.v (.bool false)), none, []⟩])
    (.seq (.block 0 (.seq (.reg false [⟨(some 33), .mv (.t 0), none, []⟩,
            ⟨(some 34), .call 23 [(.t 33)], none, [0]⟩,
            ⟨(some 32), .mv (.t 34), none, [1, 1]⟩])
       (.cond (.t 32)
         (.reg false [⟨(some 35), .mv (.t 0), none, []⟩,
              ⟨(some 36), .load (some 9) (.t 3), none, []⟩,
              ⟨(some 37), .call 43 [(.t 35), (.t 36)], none, [0, 1]⟩,
              ⟨(some 5), .mv (.t 37), none, [2, 2, 0, 1, 2]⟩])
         (.seq (.reg false [⟨(some 39), .fld 1 (.t 3), none, []⟩,
               ⟨(some 40), .load none (.t 39), none, [0]⟩,
               ⟨(some 41), .call 44 [(.t 40)], none, [1]⟩,
               ⟨(some 38), .mv (.t 41), none, [2, 2]⟩])
          (.cond (.t 38)
            (.reg false [⟨(some 42), .mv (.t 0), none, []⟩,
                 ⟨(some 43), .load (some 9) (.t 3), none, []⟩,
                 ⟨(some 44), .call 45 [(.t 42), (.t 43)], none, [0, 1]⟩,
                 ⟨(some 5), .mv (.t 44), none, [2, 2, 0, 1, 2]⟩])
            (.reg false [⟨(some 29), .mv (.t 0), none, []⟩,
                 ⟨(some 30), .load (some 9) (.t 3), none, []⟩,
                 ⟨(some 31), .call 46 [(.t 29), (.t 30)], none, [0, 1]⟩,
                 ⟨(some 5), .mv (.t 31), none, [2, 2, 0, 1, 2]⟩]))))))
     (.seq (.seq (.reg false [⟨(some 45), .mv (.t 5), none, []⟩])
       (.cond (.t 45)
         (.reg false [⟨(some 46), .mv (.t 0), none, []⟩,
              ⟨(some 47), .nilck (.t 46), none, [0]⟩,
              ⟨(some 48), .fld 0 (.t 47), none, [1]⟩,
              ⟨(some 49), .load none (.t 48), none, [2]⟩,
              ⟨(some 50), .bin .add (.t 49) (.v (.int .i64 1)), none, [3]⟩,
              ⟨(some 51), .nilck (.t 46), none, [0, 0, 1, 2, 3, 4]⟩,
              ⟨(some 52), .fld 0 (.t 51), none, [5, 0, 1, 2, 3, 4]⟩,
              ⟨none, .store 1 (.t 52) (.t 50), none, [6, 4, 0, 1, 2, 3, 4]⟩])
         (.skip)))
      (.seq (.reg false [⟨(some 53), .mv (.t 5), none, []⟩,
            ⟨(some 4), .mv (.t 53), none, [0, 0]⟩])
       (.ret))))))
def pr21 : List PR := [.t 4]
theorem bd21 : Try.f21.body = some (Try.f21.body.getD .skip) := by kernel_rfl
theorem cp21 : compC Try.prog Try.f21.ntmps eqsL (Try.f21.body.getD .skip) = some pc21 := by kernel_rfl
theorem sp21 [WInv] {env : Env} (hE : EnvOK Try.prog env) {R : List Pa → List Pa → Prop} (hR : ∀ ps rs, R ps rs → ps.length ≤ 54 ∧ pwp env pc21 (fun e s => (e = .normal ∨ e = .ret) ∧ s.res pr21 = some rs) (St.init ps)) : Spec Try.prog 21 R :=
  fn_sound hE eqsOK mixedOK Try.func21 bd21 cp21 (by kernel_rfl) (by kernel_rfl) hR

/-! (*interleave/trace.State).Goroutines -/
def pc22 : PC :=
 .seq (.reg false [⟨(some 2), .mv (.v (.int .i64 0)), none, []⟩])
  (.seq (.seq (.reg false [⟨(some 3), .mv (.t 0), none, []⟩,
         ⟨(some 4), .bin .eql (.t 3) (.v (.pointer none)), none, [0]⟩])
    (.cond (.t 4)
      (.seq (.reg false [⟨(some 2), .mv (.v (.int .i64 0)), none, []⟩])
       (.ret))
      (.skip)))
   (.seq (.reg false [⟨(some 5), .mv (.t 0), none, []⟩,
         ⟨(some 6), .nilck (.t 5), none, [0]⟩,
         ⟨(some 7), .fld 1 (.t 6), none, [1]⟩,
         ⟨(some 8), .load none (.t 7), none, [2]⟩,
         ⟨(some 2), .mv (.t 8), none, [3, 0, 1, 2, 3]⟩])
    (.ret)))
def pr22 : List PR := [.t 2]
theorem bd22 : Try.f22.body = some (Try.f22.body.getD .skip) := by kernel_rfl
theorem cp22 : compC Try.prog Try.f22.ntmps eqsL (Try.f22.body.getD .skip) = some pc22 := by kernel_rfl
theorem sp22 [WInv] {env : Env} (hE : EnvOK Try.prog env) {R : List Pa → List Pa → Prop} (hR : ∀ ps rs, R ps rs → ps.length ≤ 9 ∧ pwp env pc22 (fun e s => (e = .normal ∨ e = .ret) ∧ s.res pr22 = some rs) (St.init ps)) : Spec Try.prog 22 R :=
  fn_sound hE eqsOK mixedOK Try.func22 bd22 cp22 (by kernel_rfl) (by kernel_rfl) hR

/-! (*interleave/trace.State).Open -/
def pc23 : PC :=
 .seq (.reg false [⟨(some 2), .mv (.v (.bool false)), none, []⟩])
  (.seq (.reg false [⟨(some 3), .mv (.t 0), none, []⟩,
        ⟨(some 4), .bin .neq (.t 3) (.v (.pointer none)), none, [0]⟩,
        ⟨(some 5), .mv (.t 4), none, [1]⟩,
        ⟨(some 6), .mv (.t 0), (some (5, true)), [2]⟩,
        ⟨(some 7), .nilck (.t 6), (some (5, true)), [3, 2]⟩,
        ⟨(some 8), .fld 5 (.t 7), (some (5, true)), [4, 2]⟩,
        ⟨(some 9), .fld 0 (.t 8), (some (5, true)), [5, 2]⟩,
        ⟨(some 10), .load none (.t 9), (some (5, true)), [6, 2]⟩,
        ⟨(some 11), .len (.t 10), (some (5, true)), [7, 2]⟩,
        ⟨(some 12), .bin .gtr (.t 11) (.v (.int .i64 0)), (some (5, true)), [8, 2]⟩,
        ⟨(some 13), .pick (.t 5) (.t 12) (.v (.bool false)), none, [2, 9]⟩,
        ⟨(some 2), .mv (.t 13), none, [10, 2, 0, 1, 2, 3, 4, 5, 6, 7, 8, 9, 10]⟩])
   (.ret))
def pr23 : List PR := [.t 2]
theorem bd23 : Try.f23.body = some (Try.f23.body.getD .skip) := by kernel_rfl
theorem cp23 : compC Try.prog Try.f23.ntmps eqsL (Try.f23.body.getD .skip) = some pc23 := by kernel_rfl
theorem sp23 [WInv] {env : Env} (hE : EnvOK Try.prog env) {R : List Pa → List Pa → Prop} (hR : ∀ ps rs, R ps rs → ps.length ≤ 14 ∧ pwp env pc23 (fun e s => (e = .normal ∨ e = .ret) ∧ s.res pr23 = some rs) (St.init ps)) : Spec Try.prog 23 R :=
  fn_sound hE eqsOK mixedOK Try.func23 bd23 cp23 (by kernel_rfl) (by kernel_rfl) hR

/-! (*interleave/trace.State).proceed -/
def pc43 : PC :=
 .seq (.reg false [⟨(some 3), .box (.t 1), none, []⟩,
       ⟨(some 4), .mv (.v (.bool false)), none, []⟩])
  (.seq (.reg false [⟨(some 8), .mv (.t 0), none, []⟩,
        ⟨(some 9), .nilck (.t 8), none, [0]⟩,
        ⟨(some 10), .fld 5 (.t 9), none, [1]⟩,
        ⟨(some 5), .mv (.t 10), none, [2, 0, 1, 2]⟩])
   (.seq (.seq (.reg true [⟨(some 11), .fld 1 (.t 3), none, []⟩,
          ⟨(some 12), .load none (.t 11), none, [0]⟩,
          ⟨(some 13), .mv (.t 5), none, []⟩,
          ⟨(some 14), .nilck (.t 13), none, [2]⟩,
          ⟨(some 15), .fld 0 (.t 14), none, [3]⟩,
          ⟨(some 16), .load none (.t 15), none, [4]⟩,
          ⟨(some 17), .ixs 1 (.t 16) (.v (.int .i64 0)), none, [5]⟩,
          ⟨(some 18), .load none (.t 17), none, [6]⟩,
          ⟨(some 19), .bin .neq (.t 12) (.t 18), none, [1, 7]⟩,
          ⟨(some 20), .mv (.t 19), none, [8]⟩,
          ⟨(some 21), .fld 2 (.t 3), (some (20, false)), [9]⟩,
          ⟨(some 22), .load none (.t 21), (some (20, false)), [10, 9]⟩,
          ⟨(some 23), .mv (.t 5), (some (20, false)), [9]⟩,
          ⟨(some 24), .nilck (.t 23), (some (20, false)), [12, 9]⟩,
          ⟨(some 25), .fld 1 (.t 24), (some (20, false)), [13, 9]⟩,
          ⟨(some 26), .load none (.t 25), (some (20, false)), [14, 9]⟩,
          ⟨(some 27), .bin .neq (.t 22) (.t 26), (some (20, false)), [11, 15, 9]⟩,
          ⟨(some 28), .pick (.t 20) (.v (.bool true)) (.t 27), none, [9, 16]⟩,
          ⟨(some 29), .mv (.t 28), none, [17, 9]⟩,
          ⟨(some 30), .fld 4 (.t 3), (some (29, false)), [18]⟩,
          ⟨(some 31), .load none (.t 30), (some (29, false)), [19, 18]⟩,
          ⟨(some 32), .mv (.t 5), (some (29, false)), [18]⟩,
          ⟨(some 33), .nilck (.t 32), (some (29, false)), [21, 18]⟩,
          ⟨(some 34), .fld 2 (.t 33), (some (29, false)), [22, 18]⟩,
          ⟨(some 35), .load none (.t 34), (some (29, false)), [23, 18]⟩,
          ⟨(some 36), .bin .neq (.t 31) (.t 35), (some (29, false)), [20, 24, 18]⟩,
          ⟨(some 37), .pick (.t 29) (.v (.bool true)) (.t 36), none, [18, 25]⟩,
          ⟨(some 38), .mv (.t 37), none, [26, 18]⟩,
          ⟨(some 39), .fld 5 (.t 3), (some (38, false)), [27]⟩,
          ⟨(some 40), .load none (.t 39), (some (38, false)), [28, 27]⟩,
          ⟨(some 41), .mv (.t 5), (some (38, false)), [27]⟩,
          ⟨(some 42), .nilck (.t 41), (some (38, false)), [30, 27]⟩,
          ⟨(some 43), .fld 3 (.t 42), (some (38, false)), [31, 27]⟩,
          ⟨(some 44), .load none (.t 43), (some (38, false)), [32, 27]⟩,
          ⟨(some 45), .bin .neq (.t 40) (.t 44), (some (38, false)), [29, 33, 27]⟩,
          ⟨(some 46), .pick (.t 38) (.v (.bool true)) (.t 45), none, [27, 34]⟩])
     (.cond (.t 46)
       (.seq (.reg false [⟨(some 4), .mv (.v (.bool false)), none, []⟩])
        (.ret))
       (.skip)))
    (.seq (.reg true [⟨(some 47), .mv (.t 5), none, []⟩,
          ⟨(some 48), .nilck (.t 47), none, [0]⟩,
          ⟨(some 49), .fld 5 (.t 48), none, [1]⟩,
          ⟨(some 50), .mv (.t 5), none, []⟩,
          ⟨(some 51), .nilck (.t 50), none, [3]⟩,
          ⟨(some 52), .fld 4 (.t 51), none, [4]⟩,
          ⟨(some 53), .load none (.t 52), none, [5]⟩,
          ⟨(some 6), .mv (.t 49), none, [2, 0, 1, 2]⟩,
          ⟨(some 7), .mv (.t 53), none, [6, 7, 0, 1, 2, 3, 4, 5, 6, 7]⟩])
     (.seq (.seq (.reg false [⟨(some 54), .fld 1 (.t 3), none, []⟩,
            ⟨(some 55), .load none (.t 54), none, [0]⟩,
            ⟨(some 56), .call 66 [(.t 55)], none, [1]⟩])
       (.cond (.t 56)
         (.reg true [⟨(some 57), .mv (.t 5), none, []⟩,
              ⟨(some 58), .nilck (.t 57), none, [0]⟩,
              ⟨(some 59), .fld 4 (.t 58), none, [1]⟩,
              ⟨(some 60), .mv (.t 5), none, []⟩,
              ⟨(some 61), .nilck (.t 60), none, [3]⟩,
              ⟨(some 62), .fld 5 (.t 61), none, [4]⟩,
              ⟨(some 63), .load none (.t 62), none, [5]⟩,
              ⟨(some 6), .mv (.t 59), none, [2, 0, 1, 2]⟩,
              ⟨(some 7), .mv (.t 63), none, [6, 7, 0, 1, 2, 3, 4, 5, 6, 7]⟩])
         (.skip)))
      (.seq (.seq (.reg true [⟨(some 64), .mv (.t 6), none, []⟩,
             ⟨(some 65), .nilck (.t 64), none, [0]⟩,
             ⟨(some 66), .load none (.t 65), none, [1]⟩,
             ⟨(some 67), .bin .lss (.t 66) (.v (.int .i64 0)), none, [2]⟩,
             ⟨(some 68), .mv (.t 67), none, [3]⟩,
             ⟨(some 69), .fld 0 (.t 3), (some (68, true)), [4]⟩,
             ⟨(some 70), .load none (.t 69), (some (68, true)), [5, 4]⟩,
             ⟨(some 71), .mv (.t 7), (some (68, true)), [4]⟩,
             ⟨(some 72), .bin .eql (.t 70) (.t 71), (some (68, true)), [6, 7, 4]⟩,
             ⟨(some 73), .pick (.t 68) (.t 72) (.v (.bool false)), none, [4, 8]⟩,
             ⟨(some 74), .mv (.t 73), none, [9, 4]⟩,
             ⟨(some 75), .mv (.t 6), (some (74, false)), [10]⟩,
             ⟨(some 76), .nilck (.t 75), (some (74, false)), [11, 10]⟩,
             ⟨(some 77), .load none (.t 76), (some (74, false)), [12, 10]⟩,
             ⟨(some 78), .bin .geq (.t 77) (.v (.int .i64 0)), (some (74, false)), [13, 10]⟩,
             ⟨(some 79), .mv (.t 78), (some (74, false)), [14, 10, 10]⟩,
             ⟨(some 80), .fld 0 (.t 3), (some (79, true)), [15]⟩,
             ⟨(some 81), .load none (.t 80), (some (79, true)), [16, 15]⟩,
             ⟨(some 82), .mv (.t 6), (some (79, true)), [15]⟩,
             ⟨(some 83), .nilck (.t 82), (some (79, true)), [18, 15]⟩,
             ⟨(some 84), .load none (.t 83), (some (79, true)), [19, 15]⟩,
             ⟨(some 85), .bin .neq (.t 81) (.t 84), (some (79, true)), [17, 20, 15]⟩,
             ⟨(some 86), .pick (.t 79) (.t 85) (.v (.bool false)), (some (74, false)), [15, 21, 10]⟩,
             ⟨(some 87), .pick (.t 74) (.v (.bool true)) (.t 86), none, [10, 22]⟩])
        (.cond (.t 87)
          (.seq (.reg false [⟨(some 4), .mv (.v (.bool false)), none, []⟩])
           (.ret))
          (.skip)))
       (.seq (.reg false [⟨(some 88), .mv (.t 6), none, []⟩,
             ⟨(some 89), .fld 0 (.t 3), none, []⟩,
             ⟨(some 90), .load none (.t 89), none, [1]⟩,
             ⟨(some 91), .nilck (.t 88), none, [0, 0, 1, 2]⟩,
             ⟨none, .store 1 (.t 91) (.t 90), none, [3, 2, 0, 1, 2]⟩])
        (.seq (.reg false [⟨(some 92), .mv (.t 5), none, []⟩,
              ⟨(some 93), .mv (.t 5), none, []⟩,
              ⟨(some 94), .nilck (.t 93), none, [1]⟩,
              ⟨(some 95), .fld 0 (.t 94), none, [2]⟩,
              ⟨(some 96), .load none (.t 95), none, [3]⟩,
              ⟨(some 97), .slc 1 (.t 96) (some (.v (.int .i64 1))) none, none, [4]⟩,
              ⟨(some 98), .nilck (.t 92), none, [0, 0, 1, 2, 3, 4, 5]⟩,
              ⟨(some 99), .fld 0 (.t 98), none, [6, 0, 1, 2, 3, 4, 5]⟩,
              ⟨none, .store 1 (.t 99) (.t 97), none, [7, 5, 0, 1, 2, 3, 4, 5]⟩])
         (.seq (.reg false [⟨(some 100), .mv (.t 0), none, []⟩,
               ⟨(some 101), .load (some 9) (.t 3), none, []⟩,
               ⟨(some 102), .call 67 [(.t 100), (.t 101)], none, [0, 1]⟩])
          (.seq (.reg false [⟨(some 4), .mv (.v (.bool true)), none, []⟩])
           (.ret))))))))))
def pr43 : List PR := [.t 4]
theorem bd43 : Try.f43.body = some (Try.f43.body.getD .skip) := by kernel_rfl
theorem cp43 : compC Try.prog Try.f43.ntmps eqsL (Try.f43.body.getD .skip) = some pc43 := by kernel_rfl
theorem sp43 [WInv] {env : Env} (hE : EnvOK Try.prog env) {R : List Pa → List Pa → Prop} (hR : ∀ ps rs, R ps rs → ps.length ≤ 103 ∧ pwp env pc43 (fun e s => (e = .normal ∨ e = .ret) ∧ s.res pr43 = some rs) (St.init ps)) : Spec Try.prog 43 R :=
  fn_sound hE eqsOK mixedOK Try.func43 bd43 cp43 (by kernel_rfl) (by kernel_rfl) hR

/-! interleave/event.Valid -/
def pc42 : PC :=
 .seq (.reg false [⟨(some 1), .box (.t 0), none, []⟩,
       ⟨(some 2), .mv (.v (.bool false)), none, []⟩])
  (.seq (.seq (.reg false [⟨(some 5), .fld 1 (.t 1), none, []⟩,
         ⟨(some 6), .load none (.t 5), none, [0]⟩,
         ⟨(some 7), .call 64 [(.t 6)], none, [1]⟩,
         ⟨(some 8), .un .not (.t 7), none, [2]⟩,
         ⟨(some 9), .mv (.t 8), none, [3, 2]⟩,
         ⟨(some 10), .fld 0 (.t 1), (some (9, false)), [4]⟩,
         ⟨(some 11), .load none (.t 10), (some (9, false)), [5, 4]⟩,
         ⟨(some 12), .bin .lss (.t 11) (.v (.int .i64 0)), (some (9, false)), [6, 4]⟩,
         ⟨(some 13), .pick (.t 9) (.v (.bool true)) (.t 12), none, [4, 7]⟩,
         ⟨(some 14), .mv (.t 13), none, [8, 4]⟩,
         ⟨(some 15), .fld 0 (.t 1), (some (14, false)), [9]⟩,
         ⟨(some 16), .load none (.t 15), (some (14, false)), [10, 9]⟩,
         ⟨(some 17), .bin .geq (.t 16) (.v (.int .i64 8)), (some (14, false)), [11, 9]⟩,
         ⟨(some 18), .pick (.t 14) (.v (.bool true)) (.t 17), none, [9, 12]⟩])
    (.cond (.t 18)
      (.seq (.reg false [⟨(some 2), .mv (.v (.bool false)), none, []⟩])
       (.ret))
      (.skip)))
   (.seq (.seq (.reg false [⟨(some 19), .fld 2 (.t 1), none, []⟩,
          ⟨(some 20), .load none (.t 19), none, [0]⟩,
          ⟨(some 21), .fld 3 (.t 1), none, []⟩,
          ⟨(some 22), .load none (.t 21), none, [2]⟩,
          ⟨(some 23), .fld 4 (.t 1), none, []⟩,
          ⟨(some 24), .load none (.t 23), none, [4]⟩,
          ⟨(some 25), .fld 5 (.t 1), none, []⟩,
          ⟨(some 26), .load none (.t 25), none, [6]⟩,
          ⟨(some 27), .fld 6 (.t 1), none, []⟩,
          ⟨(some 28), .load none (.t 27), none, [8]⟩,
          ⟨(some 29), .fld 7 (.t 1), none, []⟩,
          ⟨(some 30), .load none (.t 29), none, [10]⟩,
          ⟨(some 31), .fld 8 (.t 1), none, []⟩,
          ⟨(some 32), .load none (.t 31), none, [12]⟩,
          ⟨(some 33), .build [(.int .i64 0), (.int .i64 0), (.int .i64 0), (.int .i64 0), (.int .i64 0), (.int .i64 0), (.int .i64 0)] [(0, 1, (.t 20)), (1, 1, (.t 22)), (2, 1, (.t 24)), (3, 1, (.t 26)), (4, 1, (.t 28)), (5, 1, (.t 30)), (6, 1, (.t 32))], none, [1, 3, 5, 7, 9, 11, 13]⟩,
          ⟨(some 34), .mv (.v (.int .i64 0)), none, []⟩])
     (.block 0 (.loop (.seq (.reg false [⟨(some 35), .bin .lss (.t 34) (.v (.int .i64 7)), none, []⟩])
        (.seq (.cond (.t 35)
           (.skip)
           (.exit 0))
         (.seq (.block 1 (.seq (.reg false [⟨(some 36), .ixv 7 1 none (.t 33) (.t 34), none, []⟩,
                 ⟨(some 4), .mv (.t 36), none, [0, 0]⟩])
            (.seq (.reg false [⟨(some 37), .mv (.t 4), none, []⟩,
                  ⟨(some 38), .bin .lss (.t 37) (.v (.int .i64 0)), none, [0]⟩,
                  ⟨(some 39), .mv (.t 38), none, [1]⟩,
                  ⟨(some 40), .mv (.t 4), (some (39, false)), [2]⟩,
                  ⟨(some 41), .bin .gtr (.t 40) (.v (.int .i64 2147483647)), (some (39, false)), [3, 2]⟩,
                  ⟨(some 42), .pick (.t 39) (.v (.bool true)) (.t 41), none, [2, 4]⟩])
             (.cond (.t 42)
               (.seq (.reg false [⟨(some 2), .mv (.v (.bool false)), none, []⟩])
                (.ret))
               (.skip)))))
          (.reg false [⟨(some 43), .bin .add (.t 34) (.v (.int .i64 1)), none, []⟩,
               ⟨(some 34), .mv (.t 43), none, [0]⟩])))))))
    (.seq (.block 2 (.seq (.reg false [⟨(some 45), .fld 1 (.t 1), none, []⟩,
            ⟨(some 46), .load none (.t 45), none, [0]⟩,
            ⟨(some 47), .bin .eql (.t 46) (.v (.int .i64 14)), none, [1]⟩,
            ⟨(some 44), .mv (.t 47), none, [2]⟩])
       (.cond (.t 44)
         (.seq (.reg false [⟨(some 48), .fld 2 (.t 1), none, []⟩,
               ⟨(some 49), .load none (.t 48), none, [0]⟩,
               ⟨(some 50), .bin .eql (.t 49) (.v (.int .i64 0)), none, [1]⟩,
               ⟨(some 51), .mv (.t 50), none, [2]⟩,
               ⟨(some 52), .fld 3 (.t 1), (some (51, true)), [3]⟩,
               ⟨(some 53), .load none (.t 52), (some (51, true)), [4, 3]⟩,
               ⟨(some 54), .bin .eql (.t 53) (.v (.int .i64 0)), (some (51, true)), [5, 3]⟩,
               ⟨(some 55), .pick (.t 51) (.t 54) (.v (.bool false)), none, [3, 6]⟩,
               ⟨(some 56), .mv (.t 55), none, [7, 3]⟩,
               ⟨(some 57), .fld 5 (.t 1), (some (56, true)), [8]⟩,
               ⟨(some 58), .load none (.t 57), (some (56, true)), [9, 8]⟩,
               ⟨(some 59), .bin .eql (.t 58) (.v (.int .i64 0)), (some (56, true)), [10, 8]⟩,
               ⟨(some 60), .pick (.t 56) (.t 59) (.v (.bool false)), none, [8, 11]⟩,
               ⟨(some 61), .mv (.t 60), none, [12, 8]⟩,
               ⟨(some 62), .fld 4 (.t 1), (some (61, true)), [13]⟩,
               ⟨(some 63), .load none (.t 62), (some (61, true)), [14, 13]⟩,
               ⟨(some 64), .bin .geq (.t 63) (.v (.int .i64 1)), (some (61, true)), [15, 13]⟩,
               ⟨(some 65), .pick (.t 61) (.t 64) (.v (.bool false)), none, [13, 16]⟩,
               ⟨(some 66), .mv (.t 65), none, [17, 13]⟩,
               ⟨(some 67), .fld 4 (.t 1), (some (66, true)), [18]⟩,
               ⟨(some 68), .load none (.t 67), (some (66, true)), [19, 18]⟩,
               ⟨(some 69), .bin .lss (.t 68) (.v (.int .i64 8)), (some (66, true)), [20, 18]⟩,
               ⟨(some 70), .pick (.t 66) (.t 69) (.v (.bool false)), none, [18, 21]⟩,
               ⟨(some 2), .mv (.t 70), none, [22, 18, 0, 1, 2, 3, 4, 5, 6, 7, 8, 9, 10, 11, 12, 13, 14, 15, 16, 17, 18, 19, 20, 21, 22]⟩])
          (.ret))
         (.seq (.reg false [⟨(some 72), .fld 1 (.t 1), none, []⟩,
               ⟨(some 73), .load none (.t 72), none, [0]⟩,
               ⟨(some 74), .call 44 [(.t 73)], none, [1]⟩,
               ⟨(some 71), .mv (.t 74), none, [2, 2]⟩])
          (.cond (.t 71)
            (.seq (.reg false [⟨(some 75), .fld 3 (.t 1), none, []⟩,
                  ⟨(some 76), .load none (.t 75), none, [0]⟩,
                  ⟨(some 77), .bin .eql (.t 76) (.v (.int .i64 0)), none, [1]⟩,
                  ⟨(some 78), .mv (.t 77), none, [2]⟩,
                  ⟨(some 79), .fld 5 (.t 1), (some (78, true)), [3]⟩,
                  ⟨(some 80), .load none (.t 79), (some (78, true)), [4, 3]⟩,
                  ⟨(some 81), .bin .leq (.t 80) (.v (.int .i64 64)), (some (78, true)), [5, 3]⟩,
                  ⟨(some 82), .pick (.t 78) (.t 81) (.v (.bool false)), none, [3, 6]⟩,
                  ⟨(some 83), .mv (.t 82), none, [7, 3]⟩,
                  ⟨(some 84), .fld 4 (.t 1), (some (83, true)), [8]⟩,
                  ⟨(some 85), .load none (.t 84), (some (83, true)), [9, 8]⟩,
                  ⟨(some 86), .bin .eql (.t 85) (.v (.int .i64 0)), (some (83, true)), [10, 8]⟩,
                  ⟨(some 87), .mv (.t 86), (some (83, true)), [11, 8, 8]⟩,
                  ⟨(some 88), .fld 1 (.t 1), (some (87, false)), [12]⟩,
                  ⟨(some 89), .load none (.t 88), (some (87, false)), [13, 12]⟩,
                  ⟨(some 90), .call 65 [(.t 89)], (some (87, false)), [14, 12, 12]⟩,
                  ⟨(some 91), .pick (.t 87) (.v (.bool true)) (.t 90), (some (83, true)), [12, 15, 8]⟩,
                  ⟨(some 92), .pick (.t 83) (.t 91) (.v (.bool false)), none, [8, 16]⟩,
                  ⟨(some 2), .mv (.t 92), none, [17, 15, 0, 1, 2, 3, 4, 5, 6, 7, 8, 9, 10, 11, 12, 13, 14, 15, 16, 17]⟩])
             (.ret))
            (.skip))))))
     (.seq (.reg false [⟨(some 93), .fld 4 (.t 1), none, []⟩,
           ⟨(some 94), .load none (.t 93), none, [0]⟩,
           ⟨(some 95), .bin .eql (.t 94) (.v (.int .i64 0)), none, [1]⟩,
           ⟨(some 96), .mv (.t 95), none, [2]⟩,
           ⟨(some 97), .fld 5 (.t 1), (some (96, true)), [3]⟩,
           ⟨(some 98), .load none (.t 97), (some (96, true)), [4, 3]⟩,
           ⟨(some 99), .bin .eql (.t 98) (.v (.int .i64 0)), (some (96, true)), [5, 3]⟩,
           ⟨(some 100), .pick (.t 96) (.t 99) (.v (.bool false)), none, [3, 6]⟩,
           ⟨(some 2), .mv (.t 100), none, [7, 3, 0, 1, 2, 3, 4, 5, 6, 7]⟩])
      (.ret)))))
def pr42 : List PR := [.t 2]
abbrev ms42_0 : List Nat := [35, 36, 4, 37, 38, 39, 40, 41, 42, 2, 43, 34]
abbrev os42_0 : List Nat := []
theorem bd42 : Try.f42.body = some (Try.f42.body.getD .skip) := by kernel_rfl
theorem cp42 : compC Try.prog Try.f42.ntmps eqsL (Try.f42.body.getD .skip) = some pc42 := by kernel_rfl
theorem sp42 [WInv] {env : Env} (hE : EnvOK Try.prog env) {R : List Pa → List Pa → Prop} (hR : ∀ ps rs, R ps rs → ps.length ≤ 101 ∧ pwp env pc42 (fun e s => (e = .normal ∨ e = .ret) ∧ s.res pr42 = some rs) (St.init ps)) : Spec Try.prog 42 R :=
  fn_sound hE eqsOK mixedOK Try.func42 bd42 cp42 (by kernel_rfl) (by kernel_rfl) hR

/-! interleave/event.Channel -/
def pc44 : PC :=
 .seq (.reg false [⟨(some 2), .mv (.v (.bool false)), none, []⟩])
  (.seq (.reg false [⟨(some 3), .mv (.t 0), none, []⟩,
        ⟨(some 4), .call 65 [(.t 3)], none, [0]⟩,
        ⟨(some 5), .mv (.t 4), none, [1, 1]⟩,
        ⟨(some 6), .mv (.t 0), (some (5, false)), [2]⟩,
        ⟨(some 7), .bin .eql (.t 6) (.v (.int .i64 19)), (some (5, false)), [3, 2]⟩,
        ⟨(some 8), .pick (.t 5) (.v (.bool true)) (.t 7), none, [2, 4]⟩,
        ⟨(some 9), .mv (.t 8), none, [5, 2]⟩,
        ⟨(some 10), .mv (.t 0), (some (9, false)), [6]⟩,
        ⟨(some 11), .bin .eql (.t 10) (.v (.int .i64 20)), (some (9, false)), [7, 6]⟩,
        ⟨(some 12), .pick (.t 9) (.v (.bool true)) (.t 11), none, [6, 8]⟩,
        ⟨(some 2), .mv (.t 12), none, [9, 6, 0, 1, 2, 3, 4, 5, 6, 7, 8, 9]⟩])
   (.ret))
def pr44 : List PR := [.t 2]
theorem bd44 : Try.f44.body = some (Try.f44.body.getD .skip) := by kernel_rfl
theorem cp44 : compC Try.prog Try.f44.ntmps eqsL (Try.f44.body.getD .skip) = some pc44 := by kernel_rfl
theorem sp44 [WInv] {env : Env} (hE : EnvOK Try.prog env) {R : List Pa → List Pa → Prop} (hR : ∀ ps rs, R ps rs → ps.length ≤ 13 ∧ pwp env pc44 (fun e s => (e = .normal ∨ e = .ret) ∧ s.res pr44 = some rs) (St.init ps)) : Spec Try.prog 44 R :=
  fn_sound hE eqsOK mixedOK Try.func44 bd44 cp44 (by kernel_rfl) (by kernel_rfl) hR

/-! interleave/event.Memory -/
def pc49 : PC :=
 .seq (.reg false [⟨(some 2), .mv (.v (.bool false)), none, []⟩])
  (.seq (.reg false [⟨(some 3), .mv (.t 0), none, []⟩,
        ⟨(some 4), .bin .eql (.t 3) (.v (.int .i64 1)), none, [0]⟩,
        ⟨(some 5), .mv (.t 4), none, [1]⟩,
        ⟨(some 6), .mv (.t 0), (some (5, false)), [2]⟩,
        ⟨(some 7), .bin .eql (.t 6) (.v (.int .i64 2)), (some (5, false)), [3, 2]⟩,
        ⟨(some 8), .pick (.t 5) (.v (.bool true)) (.t 7), none, [2, 4]⟩,
        ⟨(some 2), .mv (.t 8), none, [5, 2, 0, 1, 2, 3, 4, 5]⟩])
   (.ret))
def pr49 : List PR := [.t 2]
theorem bd49 : Try.f49.body = some (Try.f49.body.getD .skip) := by kernel_rfl
theorem cp49 : compC Try.prog Try.f49.ntmps eqsL (Try.f49.body.getD .skip) = some pc49 := by kernel_rfl
theorem sp49 [WInv] {env : Env} (hE : EnvOK Try.prog env) {R : List Pa → List Pa → Prop} (hR : ∀ ps rs, R ps rs → ps.length ≤ 9 ∧ pwp env pc49 (fun e s => (e = .normal ∨ e = .ret) ∧ s.res pr49 = some rs) (St.init ps)) : Spec Try.prog 49 R :=
  fn_sound hE eqsOK mixedOK Try.func49 bd49 cp49 (by kernel_rfl) (by kernel_rfl) hR

/-! interleave/event.isKind -/
def pc64 : PC :=
 .seq (.reg false [⟨(some 2), .mv (.v (.bool false)), none, []⟩])
  (.seq (.reg false [⟨(some 3), .mv (.t 0), none, []⟩,
        ⟨(some 4), .bin .geq (.t 3) (.v (.int .i64 1)), none, [0]⟩,
        ⟨(some 5), .mv (.t 4), none, [1]⟩,
        ⟨(some 6), .mv (.t 0), (some (5, true)), [2]⟩,
        ⟨(some 7), .bin .leq (.t 6) (.v (.int .i64 20)), (some (5, true)), [3, 2]⟩,
        ⟨(some 8), .pick (.t 5) (.t 7) (.v (.bool false)), none, [2, 4]⟩,
        ⟨(some 2), .mv (.t 8), none, [5, 2, 0, 1, 2, 3, 4, 5]⟩])
   (.ret))
def pr64 : List PR := [.t 2]
theorem bd64 : Try.f64.body = some (Try.f64.body.getD .skip) := by kernel_rfl
theorem cp64 : compC Try.prog Try.f64.ntmps eqsL (Try.f64.body.getD .skip) = some pc64 := by kernel_rfl
theorem sp64 [WInv] {env : Env} (hE : EnvOK Try.prog env) {R : List Pa → List Pa → Prop} (hR : ∀ ps rs, R ps rs → ps.length ≤ 9 ∧ pwp env pc64 (fun e s => (e = .normal ∨ e = .ret) ∧ s.res pr64 = some rs) (St.init ps)) : Spec Try.prog 64 R :=
  fn_sound hE eqsOK mixedOK Try.func64 bd64 cp64 (by kernel_rfl) (by kernel_rfl) hR

/-! interleave/event.numbered -/
def pc65 : PC :=
 .seq (.reg false [⟨(some 2), .mv (.v (.bool false)), none, []⟩])
  (.seq (.reg false [⟨(some 3), .mv (.t 0), none, []⟩,
        ⟨(some 4), .bin .geq (.t 3) (.v (.int .i64 15)), none, [0]⟩,
        ⟨(some 5), .mv (.t 4), none, [1]⟩,
        ⟨(some 6), .mv (.t 0), (some (5, true)), [2]⟩,
        ⟨(some 7), .bin .leq (.t 6) (.v (.int .i64 18)), (some (5, true)), [3, 2]⟩,
        ⟨(some 8), .pick (.t 5) (.t 7) (.v (.bool false)), none, [2, 4]⟩,
        ⟨(some 2), .mv (.t 8), none, [5, 2, 0, 1, 2, 3, 4, 5]⟩])
   (.ret))
def pr65 : List PR := [.t 2]
theorem bd65 : Try.f65.body = some (Try.f65.body.getD .skip) := by kernel_rfl
theorem cp65 : compC Try.prog Try.f65.ntmps eqsL (Try.f65.body.getD .skip) = some pc65 := by kernel_rfl
theorem sp65 [WInv] {env : Env} (hE : EnvOK Try.prog env) {R : List Pa → List Pa → Prop} (hR : ∀ ps rs, R ps rs → ps.length ≤ 9 ∧ pwp env pc65 (fun e s => (e = .normal ∨ e = .ret) ∧ s.res pr65 = some rs) (St.init ps)) : Spec Try.prog 65 R :=
  fn_sound hE eqsOK mixedOK Try.func65 bd65 cp65 (by kernel_rfl) (by kernel_rfl) hR


end Go.Proofs.Ytkdagjlkejefnaa
