/- The plain readings of functions of the program, printed by a program of this claim. No conditions. -/
import Derived.Test.YtohliamalaifhaaMb2
import Derived.Test.YtohliamalaifhaaProg
namespace Go.Proofs.Ytohliamalaifhaa
open Go Go.RowKit
set_option linter.unusedSimpArgs false
set_option linter.unusedVariables false
set_option maxRecDepth 100000

def eqsL : List (Nat × List Bool) := [(32, [false, false, false, false, false, false, false, false, false]), (33, [false, false, false, false, false, false, false, false, false]), (35, List.replicate 8 false), (36, List.replicate 8 false), (62, [false, false, false]), (63, [false, false, false]), (65, [false, false, false, false, true]), (66, [false, false, false, false, true]), (70, [false, false, true, false]), (71, [false, false, true, false]), (75, [false, false]), (76, [false, false]), (85, List.replicate 7 false), (89, [false, false, false, true]), (90, [false, false, false, true]), (92, [true, false]), (93, [true, false])]
theorem eqsOK : ∀ p, p ∈ eqsL → EqT Try.prog p.1 p.2 := by
  intro p hp
  simp only [eqsL, List.mem_cons, List.not_mem_nil, or_false] at hp
  rcases hp with rfl | rfl | rfl | rfl | rfl | rfl | rfl | rfl | rfl | rfl | rfl | rfl | rfl | rfl | rfl | rfl | rfl
  · exact eqT_struct Try.underlying32 (by kernel_rfl) (by kernel_rfl) (by kernel_rfl)
  · exact eqT_struct Try.underlying33 (by kernel_rfl) (by kernel_rfl) (by kernel_rfl)
  · exact eqT_array Try.underlying35 (ei := (Try.prog.info? 3).getD default) (by kernel_rfl) (by kernel_rfl) (by kernel_rfl) (by kernel_rfl)
  · exact eqT_array Try.underlying36 (ei := (Try.prog.info? 3).getD default) (by kernel_rfl) (by kernel_rfl) (by kernel_rfl) (by kernel_rfl)
  · exact eqT_struct Try.underlying62 (by kernel_rfl) (by kernel_rfl) (by kernel_rfl)
  · exact eqT_struct Try.underlying63 (by kernel_rfl) (by kernel_rfl) (by kernel_rfl)
  · exact eqT_struct Try.underlying65 (by kernel_rfl) (by kernel_rfl) (by kernel_rfl)
  · exact eqT_struct Try.underlying66 (by kernel_rfl) (by kernel_rfl) (by kernel_rfl)
  · exact eqT_struct Try.underlying70 (by kernel_rfl) (by kernel_rfl) (by kernel_rfl)
  · exact eqT_struct Try.underlying71 (by kernel_rfl) (by kernel_rfl) (by kernel_rfl)
  · exact eqT_struct Try.underlying75 (by kernel_rfl) (by kernel_rfl) (by kernel_rfl)
  · exact eqT_struct Try.underlying76 (by kernel_rfl) (by kernel_rfl) (by kernel_rfl)
  · exact eqT_array Try.underlying85 (ei := (Try.prog.info? 3).getD default) (by kernel_rfl) (by kernel_rfl) (by kernel_rfl) (by kernel_rfl)
  · exact eqT_struct Try.underlying89 (by kernel_rfl) (by kernel_rfl) (by kernel_rfl)
  · exact eqT_struct Try.underlying90 (by kernel_rfl) (by kernel_rfl) (by kernel_rfl)
  · exact eqT_struct Try.underlying92 (by kernel_rfl) (by kernel_rfl) (by kernel_rfl)
  · exact eqT_struct Try.underlying93 (by kernel_rfl) (by kernel_rfl) (by kernel_rfl)
theorem mixedOK : Try.prog.follows .mixedOrders = true := by kernel_rfl

/-! (interleave/interleaveref30.State).Add -/
def pc25 : PC :=
 .seq (.reg false [⟨(some 2), .box (.t 0), none, []⟩,
       ⟨(some 3), .box (.t 1), none, []⟩,
       ⟨(some 4), .new [(.int .i64 0), (.int .i64 0), (.slice none 0 0), (.slice none 0 0), (.slice none 0 0), (.slice none 0 0), (.int .i64 0), (.int .i64 0), (.int .i64 0)], none, []⟩,
       ⟨(some 5), .mv (.v (.bool false)), none, []⟩])
  (.seq (.seq (.reg false [⟨(some 8), .load (some 9) (.t 3), none, []⟩,
         ⟨(some 9), .call 30 [(.t 8)], none, [0]⟩,
         ⟨(some 10), .un .not (.t 9), none, [1]⟩,
         ⟨(some 11), .mv (.t 10), none, [2, 1]⟩,
         ⟨(some 12), .fld 0 (.t 2), (some (11, false)), [3]⟩,
         ⟨(some 13), .load none (.t 12), (some (11, false)), [4, 3]⟩,
         ⟨(some 14), .bin .geq (.t 13) (.v (.int .i64 5000)), (some (11, false)), [5, 3]⟩,
         ⟨(some 15), .pick (.t 11) (.v (.bool true)) (.t 14), none, [3, 6]⟩,
         ⟨(some 16), .mv (.t 15), none, [7, 3]⟩,
         ⟨(some 17), .fld 0 (.t 3), (some (16, false)), [8]⟩,
         ⟨(some 18), .load none (.t 17), (some (16, false)), [9, 8]⟩,
         ⟨(some 19), .fld 1 (.t 2), (some (16, false)), [8]⟩,
         ⟨(some 20), .load none (.t 19), (some (16, false)), [11, 8]⟩,
         ⟨(some 21), .bin .geq (.t 18) (.t 20), (some (16, false)), [10, 12, 8]⟩,
         ⟨(some 22), .pick (.t 16) (.v (.bool true)) (.t 21), none, [8, 13]⟩])
    (.cond (.t 22)
      (.seq (.reg false [⟨(some 23), .load (some 9) (.t 2), none, []⟩,
            ⟨none, .store 9 (.t 4) (.t 23), none, [0, 0]⟩,
            ⟨(some 5), .mv (.v (.bool false)), none, [1, 0, 1]⟩])
       (.ret))
      (.skip)))
   (.seq (.reg false [⟨(some 6), .new [(.int .i64 0), (.int .i64 0), (.slice none 0 0), (.slice none 0 0), (.slice none 0 0), (.slice none 0 0), (.int .i64 0), (.int .i64 0), (.int .i64 0)], none, []⟩])
    (.seq (.reg false [⟨(some 7), .mv (.v (.bool false)), none, []⟩])
     (.seq (.block 0 (.seq (.reg false [⟨(some 31), .fld 5 (.t 2), none, []⟩,
             ⟨(some 32), .load none (.t 31), none, [0]⟩,
             ⟨(some 33), .len (.t 32), none, [1]⟩,
             ⟨(some 34), .bin .gtr (.t 33) (.v (.int .i64 0)), none, [2]⟩,
             ⟨(some 30), .mv (.t 34), none, [3]⟩])
        (.cond (.t 30)
          (.reg false [⟨(some 36), .load (some 9) (.t 2), none, []⟩,
               ⟨(some 37), .load (some 9) (.t 3), none, []⟩,
               ⟨(some 38), .call 31 [(.t 36), (.t 37)], none, [0, 1]⟩,
               ⟨(some 35), .mv (.t 38), none, [2]⟩,
               ⟨(some 39), .ext (.t 35) 0, none, [3]⟩,
               ⟨(some 40), .ext (.t 35) 1, none, [3]⟩,
               ⟨none, .store 9 (.t 6) (.t 39), none, [4, 2, 0, 1, 2, 3, 4]⟩,
               ⟨(some 7), .mv (.t 40), none, [5, 6, 0, 1, 2, 3, 4, 5, 6]⟩])
          (.seq (.reg false [⟨(some 42), .fld 1 (.t 3), none, []⟩,
                ⟨(some 43), .load none (.t 42), none, [0]⟩,
                ⟨(some 44), .call 32 [(.t 43)], none, [1]⟩,
                ⟨(some 41), .mv (.t 44), none, [2, 2]⟩])
           (.cond (.t 41)
             (.reg false [⟨(some 46), .load (some 9) (.t 2), none, []⟩,
                  ⟨(some 47), .load (some 9) (.t 3), none, []⟩,
                  ⟨(some 48), .call 33 [(.t 46), (.t 47)], none, [0, 1]⟩,
                  ⟨(some 45), .mv (.t 48), none, [2]⟩,
                  ⟨(some 49), .ext (.t 45) 0, none, [3]⟩,
                  ⟨(some 50), .ext (.t 45) 1, none, [3]⟩,
                  ⟨none, .store 9 (.t 6) (.t 49), none, [4, 2, 0, 1, 2, 3, 4]⟩,
                  ⟨(some 7), .mv (.t 50), none, [5, 6, 0, 1, 2, 3, 4, 5, 6]⟩])
             (.reg false [⟨(some 25), .load (some 9) (.t 2), none, []⟩,
                  ⟨(some 26), .load (some 9) (.t 3), none, []⟩,
                  ⟨(some 27), .call 34 [(.t 25), (.t 26)], none, [0, 1]⟩,
                  ⟨(some 24), .mv (.t 27), none, [2]⟩,
                  ⟨(some 28), .ext (.t 24) 0, none, [3]⟩,
                  ⟨(some 29), .ext (.t 24) 1, none, [3]⟩,
                  ⟨none, .store 9 (.t 6) (.t 28), none, [4, 2, 0, 1, 2, 3, 4]⟩,
                  ⟨(some 7), .mv (.t 29), none, [5, 6, 0, 1, 2, 3, 4, 5, 6]⟩]))))))
      (.seq (.seq (.reg false [⟨(some 51), .mv (.t 7), none, []⟩,
             ⟨(some 52), .un .not (.t 51), none, [0]⟩])
        (.cond (.t 52)
          (.seq (.reg false [⟨(some 53), .load (some 9) (.t 2), none, []⟩,
                ⟨none, .store 9 (.t 4) (.t 53), none, [0, 0]⟩,
                ⟨(some 5), .mv (.v (.bool false)), none, [1, 0, 1]⟩])
           (.ret))
          (.skip)))
       (.seq (.reg false [⟨(some 54), .fld 0 (.t 6), none, []⟩,
             ⟨(some 55), .load none (.t 54), none, [0]⟩,
             ⟨(some 56), .bin .add (.t 55) (.v (.int .i64 1)), none, [1]⟩,
             ⟨(some 57), .fld 0 (.t 6), none, [0, 1, 2]⟩,
             ⟨none, .store 1 (.t 57) (.t 56), none, [3, 2, 0, 1, 2]⟩])
        (.seq (.reg false [⟨(some 58), .load (some 9) (.t 6), none, []⟩,
              ⟨none, .store 9 (.t 4) (.t 58), none, [0, 0]⟩,
              ⟨(some 5), .mv (.v (.bool true)), none, [1, 0, 1]⟩])
         (.ret))))))))
def pr25 : List PR := [.c 4 (some 9), .t 5]
theorem bd25 : Try.f25.body = some (Try.f25.body.getD .skip) := by kernel_rfl
theorem cp25 : compC Try.prog Try.f25.ntmps eqsL (Try.f25.body.getD .skip) = some pc25 := by kernel_rfl
theorem sp25 [WInv] {env : Env} (hE : EnvOK Try.prog env) {R : List Pa → List Pa → Prop} (hR : ∀ ps rs, R ps rs → ps.length ≤ 59 ∧ pwp env pc25 (fun e s => (e = .normal ∨ e = .ret) ∧ s.res pr25 = some rs) (St.init ps)) : Spec Try.prog 25 R :=
  fn_sound hE eqsOK mixedOK Try.func25 bd25 cp25 (by kernel_rfl) (by kernel_rfl) hR

/-! (interleave/interleaveref30.State).group -/
def pc31c0 : PC :=
 .seq (.reg false [⟨(some 92), .mv (.t 7), none, []⟩,
            ⟨(some 93), .fld 5 (.t 2), none, [0]⟩,
            ⟨none, .store 1 (.t 93) (.t 92), none, [1, 0, 0]⟩])
       (.seq (.reg false [⟨(some 94), .load (some 9) (.t 2), none, []⟩,
             ⟨(some 95), .load (some 9) (.t 3), none, []⟩,
             ⟨(some 96), .call 39 [(.t 94), (.t 95)], none, [0, 1]⟩,
             ⟨none, .store 9 (.t 4) (.t 96), none, [2, 2, 0, 1, 2]⟩,
             ⟨(some 5), .mv (.v (.bool true)), none, [3, 0, 1, 2, 3]⟩])
        (.ret))
def pc31c1 : PC :=
 .seq (.reg false [⟨(some 8), .mv (.v (.int .i64 1)), none, []⟩])
       (.block 0 (.loop (.seq (.seq (.reg false [⟨(some 65), .mv (.t 8), none, []⟩,
                ⟨(some 66), .fld 5 (.t 2), none, []⟩,
                ⟨(some 67), .load none (.t 66), none, [1]⟩,
                ⟨(some 68), .len (.t 67), none, [2]⟩,
                ⟨(some 69), .bin .lss (.t 65) (.t 68), none, [0, 3]⟩])
           (.cond (.t 69)
             (.skip)
             (.exit 0)))
          (.seq (.block 1 (.seq (.reg false [⟨(some 72), .fld 5 (.t 2), none, []⟩,
                  ⟨(some 73), .load none (.t 72), none, [0]⟩,
                  ⟨(some 74), .mv (.t 8), none, []⟩,
                  ⟨(some 75), .ixs 3 (.t 73) (.t 74), none, [1, 2]⟩,
                  ⟨(some 76), .load (some 3) (.t 75), none, [3]⟩,
                  ⟨(some 9), .new [(.int .i64 0), (.int .i64 0), (.int .i64 0)], none, []⟩,
                  ⟨none, .store 3 (.t 9) (.t 76), none, [5, 4, 0, 1, 2, 3, 4, 5]⟩])
             (.seq (.seq (.reg false [⟨(some 77), .fld 1 (.t 6), none, []⟩,
                    ⟨(some 78), .load none (.t 77), none, [0]⟩,
                    ⟨(some 79), .bin .lss (.t 78) (.v (.int .i64 0)), none, [1]⟩,
                    ⟨(some 80), .mv (.t 79), none, [2]⟩,
                    ⟨(some 81), .fld 1 (.t 9), (some (80, true)), [3]⟩,
                    ⟨(some 82), .load none (.t 81), (some (80, true)), [4, 3]⟩,
                    ⟨(some 83), .bin .lss (.t 82) (.v (.int .i64 0)), (some (80, true)), [5, 3]⟩,
                    ⟨(some 84), .pick (.t 80) (.t 83) (.v (.bool false)), none, [3, 6]⟩])
               (.cond (.t 84)
                 (.reg false [⟨(some 85), .fld 0 (.t 3), none, []⟩,
                      ⟨(some 86), .load none (.t 85), none, [0]⟩,
                      ⟨(some 87), .fld 1 (.t 9), none, [0, 1]⟩,
                      ⟨none, .store 1 (.t 87) (.t 86), none, [2, 1, 0, 1]⟩])
                 (.skip)))
              (.reg false [⟨(some 88), .mv (.t 7), none, []⟩,
                   ⟨(some 89), .load (some 3) (.t 9), none, []⟩,
                   ⟨(some 90), .bslice 63 3 [(.int .i64 0), (.int .i64 0), (.int .i64 0)] 1 [(0, 3, (.t 89))], none, [1]⟩,
                   ⟨(some 91), .append 63 3 24 (.t 88) (.t 90), none, [0, 2]⟩,
                   ⟨(some 7), .mv (.t 91), none, [3, 3, 0, 1, 2, 3]⟩]))))
           (.reg false [⟨(some 70), .mv (.t 8), none, []⟩,
                ⟨(some 71), .bin .add (.t 70) (.v (.int .i64 1)), none, [0]⟩,
                ⟨(some 8), .mv (.t 71), none, [1, 0, 1]⟩])))))
def pc31c2 : PC :=
 .seq (.reg false [⟨(some 7), .nilRow 63 3, none, []⟩])
     (.seq (pc31c1)
      (pc31c0))
def pc31c3 : PC :=
 .reg false [⟨(some 14), .fld 1 (.t 3), none, []⟩,
          ⟨(some 15), .load none (.t 14), none, [0]⟩,
          ⟨(some 16), .fld 0 (.t 6), none, []⟩,
          ⟨(some 17), .load none (.t 16), none, [2]⟩,
          ⟨(some 18), .bin .neq (.t 15) (.t 17), none, [1, 3]⟩,
          ⟨(some 19), .mv (.t 18), none, [4]⟩,
          ⟨(some 20), .fld 2 (.t 3), (some (19, false)), [5]⟩,
          ⟨(some 21), .load none (.t 20), (some (19, false)), [6, 5]⟩,
          ⟨(some 22), .fld 6 (.t 2), (some (19, false)), [5]⟩,
          ⟨(some 23), .load none (.t 22), (some (19, false)), [8, 5]⟩,
          ⟨(some 24), .bin .neq (.t 21) (.t 23), (some (19, false)), [7, 9, 5]⟩,
          ⟨(some 25), .pick (.t 19) (.v (.bool true)) (.t 24), none, [5, 10]⟩,
          ⟨(some 26), .mv (.t 25), none, [11, 5]⟩,
          ⟨(some 27), .fld 4 (.t 3), (some (26, false)), [12]⟩,
          ⟨(some 28), .load none (.t 27), (some (26, false)), [13, 12]⟩,
          ⟨(some 29), .fld 7 (.t 2), (some (26, false)), [12]⟩,
          ⟨(some 30), .load none (.t 29), (some (26, false)), [15, 12]⟩,
          ⟨(some 31), .bin .neq (.t 28) (.t 30), (some (26, false)), [14, 16, 12]⟩,
          ⟨(some 32), .pick (.t 26) (.v (.bool true)) (.t 31), none, [12, 17]⟩,
          ⟨(some 33), .mv (.t 32), none, [18, 12]⟩,
          ⟨(some 34), .fld 5 (.t 3), (some (33, false)), [19]⟩,
          ⟨(some 35), .load none (.t 34), (some (33, false)), [20, 19]⟩,
          ⟨(some 36), .fld 8 (.t 2), (some (33, false)), [19]⟩,
          ⟨(some 37), .load none (.t 36), (some (33, false)), [22, 19]⟩,
          ⟨(some 38), .bin .neq (.t 35) (.t 37), (some (33, false)), [21, 23, 19]⟩,
          ⟨(some 39), .pick (.t 33) (.v (.bool true)) (.t 38), none, [19, 24]⟩,
          ⟨(some 40), .mv (.t 39), none, [25, 19]⟩,
          ⟨(some 41), .fld 1 (.t 6), (some (40, false)), [26]⟩,
          ⟨(some 42), .load none (.t 41), (some (40, false)), [27, 26]⟩,
          ⟨(some 43), .bin .geq (.t 42) (.v (.int .i64 0)), (some (40, false)), [28, 26]⟩,
          ⟨(some 44), .mv (.t 43), (some (40, false)), [29, 26, 26]⟩,
          ⟨(some 45), .fld 0 (.t 3), (some (44, true)), [30]⟩,
          ⟨(some 46), .load none (.t 45), (some (44, true)), [31, 30]⟩,
          ⟨(some 47), .fld 1 (.t 6), (some (44, true)), [30]⟩,
          ⟨(some 48), .load none (.t 47), (some (44, true)), [33, 30]⟩,
          ⟨(some 49), .bin .neq (.t 46) (.t 48), (some (44, true)), [32, 34, 30]⟩,
          ⟨(some 50), .pick (.t 44) (.t 49) (.v (.bool false)), (some (40, false)), [30, 35, 26]⟩,
          ⟨(some 51), .pick (.t 40) (.v (.bool true)) (.t 50), none, [26, 36]⟩,
          ⟨(some 52), .mv (.t 51), none, [37, 30]⟩,
          ⟨(some 53), .fld 1 (.t 6), (some (52, false)), [38]⟩,
          ⟨(some 54), .load none (.t 53), (some (52, false)), [39, 38]⟩,
          ⟨(some 55), .bin .lss (.t 54) (.v (.int .i64 0)), (some (52, false)), [40, 38]⟩,
          ⟨(some 56), .mv (.t 55), (some (52, false)), [41, 38, 38]⟩,
          ⟨(some 57), .fld 0 (.t 3), (some (56, true)), [42]⟩,
          ⟨(some 58), .load none (.t 57), (some (56, true)), [43, 42]⟩,
          ⟨(some 59), .fld 2 (.t 6), (some (56, true)), [42]⟩,
          ⟨(some 60), .load none (.t 59), (some (56, true)), [45, 42]⟩,
          ⟨(some 61), .bin .eql (.t 58) (.t 60), (some (56, true)), [44, 46, 42]⟩,
          ⟨(some 62), .pick (.t 56) (.t 61) (.v (.bool false)), (some (52, false)), [42, 47, 38]⟩,
          ⟨(some 63), .pick (.t 52) (.v (.bool true)) (.t 62), none, [38, 48]⟩]
def pc31c4 : PC :=
 .seq (pc31c3)
     (.cond (.t 63)
       (.seq (.reg false [⟨(some 64), .load (some 9) (.t 2), none, []⟩,
             ⟨none, .store 9 (.t 4) (.t 64), none, [0, 0]⟩,
             ⟨(some 5), .mv (.v (.bool false)), none, [1, 0, 1]⟩])
        (.ret))
       (.skip))
def pc31 : PC :=
 .seq (.reg false [⟨(some 2), .box (.t 0), none, []⟩,
       ⟨(some 3), .box (.t 1), none, []⟩,
       ⟨(some 4), .new [(.int .i64 0), (.int .i64 0), (.slice none 0 0), (.slice none 0 0), (.slice none 0 0), (.slice none 0 0), (.int .i64 0), (.int .i64 0), (.int .i64 0)], none, []⟩,
       ⟨(some 5), .mv (.v (.bool false)), none, []⟩])
  (.seq (.reg false [⟨(some 10), .fld 5 (.t 2), none, []⟩,
        ⟨(some 11), .load none (.t 10), none, [0]⟩,
        ⟨(some 12), .ixs 3 (.t 11) (.v (.int .i64 0)), none, [1]⟩,
        ⟨(some 13), .load (some 3) (.t 12), none, [2]⟩,
        ⟨(some 6), .new [(.int .i64 0), (.int .i64 0), (.int .i64 0)], none, []⟩,
        ⟨none, .store 3 (.t 6) (.t 13), none, [4, 3, 0, 1, 2, 3, 4]⟩])
   (.seq (pc31c4)
    (pc31c2)))
def pr31 : List PR := [.c 4 (some 9), .t 5]
abbrev ms31_0 : List Nat := [65, 66, 67, 68, 69, 72, 73, 74, 75, 76, 9, 77, 78, 79, 80, 81, 82, 83, 84, 85, 86, 87, 88, 89, 90, 91, 7, 70, 71, 8]
abbrev os31_0 : List Nat := [9, 90, 7]
theorem bd31 : Try.f31.body = some (Try.f31.body.getD .skip) := by kernel_rfl
theorem cp31 : compC Try.prog Try.f31.ntmps eqsL (Try.f31.body.getD .skip) = some pc31 := by kernel_rfl
theorem sp31 [WInv] {env : Env} (hE : EnvOK Try.prog env) {R : List Pa → List Pa → Prop} (hR : ∀ ps rs, R ps rs → ps.length ≤ 97 ∧ pwp env pc31 (fun e s => (e = .normal ∨ e = .ret) ∧ s.res pr31 = some rs) (St.init ps)) : Spec Try.prog 31 R :=
  fn_sound hE eqsOK mixedOK Try.func31 bd31 cp31 (by kernel_rfl) (by kernel_rfl) hR

/-! (interleave/interleaveref30.State).transfer -/
def pc33c0 : PC :=
 .seq (.reg false [⟨(some 59), .fld 1 (.t 6), none, []⟩,
                   ⟨(some 60), .load none (.t 59), none, [0]⟩,
                   ⟨(some 61), .bin .eql (.t 60) (.v (.int .i64 0)), none, [1]⟩,
                   ⟨(some 62), .mv (.t 61), none, [2]⟩,
                   ⟨(some 63), .mv (.t 7), (some (62, true)), [3]⟩,
                   ⟨(some 64), .pick (.t 62) (.t 63) (.v (.bool false)), none, [3, 4]⟩])
              (.cond (.t 64)
                (.seq (.reg false [⟨(some 65), .load (some 9) (.t 2), none, []⟩,
                      ⟨(some 66), .load (some 9) (.t 3), none, []⟩,
                      ⟨(some 67), .fld 0 (.t 3), none, []⟩,
                      ⟨(some 68), .load none (.t 67), none, [2]⟩,
                      ⟨(some 69), .build [(.int .i64 0), (.int .i64 0), (.int .i64 0)] [(0, 1, (.v (.int .i64 17))), (1, 1, (.v (.int .i64 (-1)))), (2, 1, (.t 68))], none, [3]⟩,
                      ⟨(some 70), .build [(.int .i64 0), (.int .i64 0), (.int .i64 0)] [(0, 1, (.v (.int .i64 18))), (1, 1, (.v (.int .i64 (-1))))], none, []⟩,
                      ⟨(some 71), .fld 0 (.t 3), none, []⟩,
                      ⟨(some 72), .load none (.t 71), none, [6]⟩,
                      ⟨(some 73), .build [(.int .i64 0), (.int .i64 0), (.int .i64 0)] [(0, 1, (.v (.int .i64 16))), (1, 1, (.t 72))], none, [7]⟩,
                      ⟨(some 74), .bslice 63 3 [(.int .i64 0), (.int .i64 0), (.int .i64 0), (.int .i64 0), (.int .i64 0), (.int .i64 0), (.int .i64 0), (.int .i64 0), (.int .i64 0)] 3 [(0, 3, (.t 69)), (3, 3, (.t 70)), (6, 3, (.t 73))], none, [4, 5, 8]⟩,
                      ⟨(some 75), .call 41 [(.t 65), (.t 66), (.t 74)], none, [0, 1, 9]⟩,
                      ⟨(some 76), .ext (.t 75) 0, none, [10]⟩,
                      ⟨(some 77), .ext (.t 75) 1, none, [10]⟩,
                      ⟨none, .store 9 (.t 4) (.t 76), none, [11, 10, 0, 1, 2, 3, 4, 5, 6, 7, 8, 9, 10, 11, 12]⟩,
                      ⟨(some 5), .mv (.t 77), none, [12, 13, 0, 1, 2, 3, 4, 5, 6, 7, 8, 9, 10, 11, 12, 13]⟩])
                 (.ret))
                (.skip))
def pc33c1 : PC :=
 .seq (.reg false [⟨(some 100), .fld 4 (.t 6), none, []⟩,
                      ⟨(some 101), .load none (.t 100), none, [0]⟩,
                      ⟨(some 102), .un .not (.t 101), none, [1]⟩,
                      ⟨(some 103), .mv (.t 102), none, [2]⟩,
                      ⟨(some 104), .mv (.t 7), (some (103, true)), [3]⟩,
                      ⟨(some 105), .pick (.t 103) (.t 104) (.v (.bool false)), none, [3, 4]⟩])
                 (.cond (.t 105)
                   (.seq (.reg false [⟨(some 106), .load (some 9) (.t 2), none, []⟩,
                         ⟨(some 107), .load (some 9) (.t 3), none, []⟩,
                         ⟨(some 108), .fld 0 (.t 3), none, []⟩,
                         ⟨(some 109), .load none (.t 108), none, [2]⟩,
                         ⟨(some 110), .build [(.int .i64 0), (.int .i64 0), (.int .i64 0)] [(0, 1, (.v (.int .i64 15))), (1, 1, (.v (.int .i64 (-1)))), (2, 1, (.t 109))], none, [3]⟩,
                         ⟨(some 111), .fld 0 (.t 3), none, []⟩,
                         ⟨(some 112), .load none (.t 111), none, [5]⟩,
                         ⟨(some 113), .build [(.int .i64 0), (.int .i64 0), (.int .i64 0)] [(0, 1, (.v (.int .i64 18))), (1, 1, (.t 112))], none, [6]⟩,
                         ⟨(some 114), .build [(.int .i64 0), (.int .i64 0), (.int .i64 0)] [(0, 1, (.v (.int .i64 16))), (1, 1, (.v (.int .i64 (-1))))], none, []⟩,
                         ⟨(some 115), .bslice 63 3 [(.int .i64 0), (.int .i64 0), (.int .i64 0), (.int .i64 0), (.int .i64 0), (.int .i64 0), (.int .i64 0), (.int .i64 0), (.int .i64 0)] 3 [(0, 3, (.t 110)), (3, 3, (.t 113)), (6, 3, (.t 114))], none, [4, 7, 8]⟩,
                         ⟨(some 116), .call 41 [(.t 106), (.t 107), (.t 115)], none, [0, 1, 9]⟩,
                         ⟨(some 117), .ext (.t 116) 0, none, [10]⟩,
                         ⟨(some 118), .ext (.t 116) 1, none, [10]⟩,
                         ⟨none, .store 9 (.t 4) (.t 117), none, [11, 10, 0, 1, 2, 3, 4, 5, 6, 7, 8, 9, 10, 11, 12]⟩,
                         ⟨(some 5), .mv (.t 118), none, [12, 13, 0, 1, 2, 3, 4, 5, 6, 7, 8, 9, 10, 11, 12, 13]⟩])
                    (.ret))
                   (.skip))
def pc33c2 : PC :=
 .seq (.reg false [⟨(some 23), .fld 1 (.t 3), none, []⟩,
            ⟨(some 24), .load none (.t 23), none, [0]⟩])
       (.block 0 (.seq (.reg false [⟨(some 26), .bin .eql (.t 24) (.v (.int .i64 15)), none, []⟩,
              ⟨(some 25), .mv (.t 26), none, [0]⟩])
         (.cond (.t 25)
           (.seq (.seq (.reg false [⟨(some 27), .fld 4 (.t 3), none, []⟩,
                  ⟨(some 28), .load none (.t 27), none, [0]⟩,
                  ⟨(some 29), .fld 2 (.t 6), none, []⟩,
                  ⟨(some 30), .load none (.t 29), none, [2]⟩,
                  ⟨(some 31), .bin .neq (.t 28) (.t 30), none, [1, 3]⟩,
                  ⟨(some 32), .mv (.t 31), none, [4]⟩,
                  ⟨(some 33), .fld 4 (.t 6), (some (32, false)), [5]⟩,
                  ⟨(some 34), .load none (.t 33), (some (32, false)), [6, 5]⟩,
                  ⟨(some 35), .pick (.t 32) (.v (.bool true)) (.t 34), none, [5, 7]⟩])
             (.cond (.t 35)
               (.seq (.reg false [⟨(some 36), .load (some 9) (.t 2), none, []⟩,
                     ⟨none, .store 9 (.t 4) (.t 36), none, [0, 0]⟩,
                     ⟨(some 5), .mv (.v (.bool false)), none, [1, 0, 1]⟩])
                (.ret))
               (.skip)))
            (.seq (.seq (.reg false [⟨(some 37), .fld 1 (.t 6), none, []⟩,
                   ⟨(some 38), .load none (.t 37), none, [0]⟩,
                   ⟨(some 39), .bin .gtr (.t 38) (.v (.int .i64 0)), none, [1]⟩,
                   ⟨(some 40), .mv (.t 39), none, [2]⟩,
                   ⟨(some 41), .fld 2 (.t 6), (some (40, true)), [3]⟩,
                   ⟨(some 42), .load none (.t 41), (some (40, true)), [4, 3]⟩,
                   ⟨(some 43), .fld 3 (.t 6), (some (40, true)), [3]⟩,
                   ⟨(some 44), .load none (.t 43), (some (40, true)), [6, 3]⟩,
                   ⟨(some 45), .bin .sub (.t 42) (.t 44), (some (40, true)), [5, 7, 3]⟩,
                   ⟨(some 46), .fld 1 (.t 6), (some (40, true)), [3]⟩,
                   ⟨(some 47), .load none (.t 46), (some (40, true)), [9, 3]⟩,
                   ⟨(some 48), .bin .lss (.t 45) (.t 47), (some (40, true)), [8, 10, 3]⟩,
                   ⟨(some 49), .pick (.t 40) (.t 48) (.v (.bool false)), none, [3, 11]⟩])
              (.cond (.t 49)
                (.seq (.reg false [⟨(some 50), .load (some 9) (.t 2), none, []⟩,
                      ⟨(some 51), .load (some 9) (.t 3), none, []⟩,
                      ⟨(some 52), .fld 0 (.t 3), none, []⟩,
                      ⟨(some 53), .load none (.t 52), none, [2]⟩,
                      ⟨(some 54), .build [(.int .i64 0), (.int .i64 0), (.int .i64 0)] [(0, 1, (.v (.int .i64 16))), (1, 1, (.t 53))], none, [3]⟩,
                      ⟨(some 55), .bslice 63 3 [(.int .i64 0), (.int .i64 0), (.int .i64 0)] 1 [(0, 3, (.t 54))], none, [4]⟩,
                      ⟨(some 56), .call 41 [(.t 50), (.t 51), (.t 55)], none, [0, 1, 5]⟩,
                      ⟨(some 57), .ext (.t 56) 0, none, [6]⟩,
                      ⟨(some 58), .ext (.t 56) 1, none, [6]⟩,
                      ⟨none, .store 9 (.t 4) (.t 57), none, [7, 6, 0, 1, 2, 3, 4, 5, 6, 7, 8]⟩,
                      ⟨(some 5), .mv (.t 58), none, [8, 9, 0, 1, 2, 3, 4, 5, 6, 7, 8, 9]⟩])
                 (.ret))
                (.skip)))
             (pc33c0)))
           (.seq (.reg false [⟨(some 79), .bin .eql (.t 24) (.v (.int .i64 17)), none, []⟩,
                 ⟨(some 78), .mv (.t 79), none, [0]⟩])
            (.cond (.t 78)
              (.seq (.seq (.reg false [⟨(some 80), .fld 4 (.t 3), none, []⟩,
                     ⟨(some 81), .load none (.t 80), none, [0]⟩,
                     ⟨(some 82), .fld 3 (.t 6), none, []⟩,
                     ⟨(some 83), .load none (.t 82), none, [2]⟩,
                     ⟨(some 84), .bin .neq (.t 81) (.t 83), none, [1, 3]⟩])
                (.cond (.t 84)
                  (.seq (.reg false [⟨(some 85), .load (some 9) (.t 2), none, []⟩,
                        ⟨none, .store 9 (.t 4) (.t 85), none, [0, 0]⟩,
                        ⟨(some 5), .mv (.v (.bool false)), none, [1, 0, 1]⟩])
                   (.ret))
                  (.skip)))
               (.seq (.seq (.reg false [⟨(some 86), .fld 2 (.t 6), none, []⟩,
                      ⟨(some 87), .load none (.t 86), none, [0]⟩,
                      ⟨(some 88), .fld 3 (.t 6), none, []⟩,
                      ⟨(some 89), .load none (.t 88), none, [2]⟩,
                      ⟨(some 90), .bin .gtr (.t 87) (.t 89), none, [1, 3]⟩])
                 (.cond (.t 90)
                   (.seq (.reg false [⟨(some 91), .load (some 9) (.t 2), none, []⟩,
                         ⟨(some 92), .load (some 9) (.t 3), none, []⟩,
                         ⟨(some 93), .fld 0 (.t 3), none, []⟩,
                         ⟨(some 94), .load none (.t 93), none, [2]⟩,
                         ⟨(some 95), .build [(.int .i64 0), (.int .i64 0), (.int .i64 0)] [(0, 1, (.v (.int .i64 18))), (1, 1, (.t 94))], none, [3]⟩,
                         ⟨(some 96), .bslice 63 3 [(.int .i64 0), (.int .i64 0), (.int .i64 0)] 1 [(0, 3, (.t 95))], none, [4]⟩,
                         ⟨(some 97), .call 41 [(.t 91), (.t 92), (.t 96)], none, [0, 1, 5]⟩,
                         ⟨(some 98), .ext (.t 97) 0, none, [6]⟩,
                         ⟨(some 99), .ext (.t 97) 1, none, [6]⟩,
                         ⟨none, .store 9 (.t 4) (.t 98), none, [7, 6, 0, 1, 2, 3, 4, 5, 6, 7, 8]⟩,
                         ⟨(some 5), .mv (.t 99), none, [8, 9, 0, 1, 2, 3, 4, 5, 6, 7, 8, 9]⟩])
                    (.ret))
                   (.skip)))
                (pc33c1)))
              (.seq (.reg false [⟨(some 120), .bin .eql (.t 24) (.v (.int .i64 19)), none, []⟩,
                    ⟨(some 119), .mv (.t 120), none, [0]⟩])
               (.cond (.t 119)
                 (.seq (.reg false [⟨(some 121), .fld 4 (.t 6), none, []⟩,
                       ⟨(some 122), .load none (.t 121), none, [0]⟩,
                       ⟨(some 123), .un .not (.t 122), none, [1]⟩])
                  (.cond (.t 123)
                    (.seq (.reg false [⟨(some 124), .fld 4 (.t 6), none, []⟩,
                          ⟨none, .store 1 (.t 124) (.v (.bool true)), none, [0]⟩])
                     (.seq (.reg false [⟨(some 125), .load (some 9) (.t 2), none, []⟩,
                           ⟨(some 126), .load (some 5) (.t 6), none, []⟩,
                           ⟨(some 127), .call 42 [(.t 125), (.t 126)], none, [0, 1]⟩,
                           ⟨none, .store 9 (.t 4) (.t 127), none, [2, 2, 0, 1, 2]⟩,
                           ⟨(some 5), .mv (.v (.bool true)), none, [3, 0, 1, 2, 3]⟩])
                      (.ret)))
                    (.skip)))
                 (.seq (.reg false [⟨(some 129), .bin .eql (.t 24) (.v (.int .i64 20)), none, []⟩,
                       ⟨(some 128), .mv (.t 129), none, [0]⟩])
                  (.cond (.t 128)
                    (.seq (.reg true [⟨(some 130), .load (some 9) (.t 2), none, []⟩,
                          ⟨(some 131), .fld 4 (.t 6), none, []⟩,
                          ⟨(some 132), .load none (.t 131), none, [1]⟩,
                          ⟨(some 133), .mv (.t 132), none, [2]⟩,
                          ⟨(some 134), .fld 2 (.t 6), (some (133, true)), [3]⟩,
                          ⟨(some 135), .load none (.t 134), (some (133, true)), [4, 3]⟩,
                          ⟨(some 136), .fld 3 (.t 6), (some (133, true)), [3]⟩,
                          ⟨(some 137), .load none (.t 136), (some (133, true)), [6, 3]⟩,
                          ⟨(some 138), .bin .eql (.t 135) (.t 137), (some (133, true)), [5, 7, 3]⟩,
                          ⟨(some 139), .pick (.t 133) (.t 138) (.v (.bool false)), none, [3, 8]⟩,
                          ⟨none, .store 9 (.t 4) (.t 130), none, [0, 3, 0]⟩,
                          ⟨(some 5), .mv (.t 139), none, [9, 10, 0, 1, 2, 3, 4, 5, 6, 7, 8, 9, 10]⟩])
                     (.ret))
                    (.skip))))))))))
def pc33 : PC :=
 .seq (.reg false [⟨(some 2), .box (.t 0), none, []⟩,
       ⟨(some 3), .box (.t 1), none, []⟩,
       ⟨(some 4), .new [(.int .i64 0), (.int .i64 0), (.slice none 0 0), (.slice none 0 0), (.slice none 0 0), (.slice none 0 0), (.int .i64 0), (.int .i64 0), (.int .i64 0)], none, []⟩,
       ⟨(some 5), .mv (.v (.bool false)), none, []⟩])
  (.seq (.reg false [⟨(some 8), .load (some 9) (.t 2), none, []⟩,
        ⟨(some 9), .fld 2 (.t 3), none, []⟩,
        ⟨(some 10), .load none (.t 9), none, [1]⟩,
        ⟨(some 11), .fld 5 (.t 3), none, []⟩,
        ⟨(some 12), .load none (.t 11), none, [3]⟩,
        ⟨(some 13), .call 40 [(.t 8), (.t 10), (.t 12)], none, [0, 2, 4]⟩,
        ⟨(some 6), .new [(.int .i64 0), (.int .i64 0), (.int .i64 0), (.int .i64 0), (.bool false)], none, []⟩,
        ⟨none, .store 5 (.t 6) (.t 13), none, [6, 5, 5, 0, 1, 2, 3, 4, 5, 6]⟩])
   (.seq (.seq (.reg false [⟨(some 14), .fld 1 (.t 6), none, []⟩,
          ⟨(some 15), .load none (.t 14), none, [0]⟩,
          ⟨(some 16), .fld 5 (.t 3), none, []⟩,
          ⟨(some 17), .load none (.t 16), none, [2]⟩,
          ⟨(some 18), .bin .neq (.t 15) (.t 17), none, [1, 3]⟩])
     (.cond (.t 18)
       (.seq (.reg false [⟨(some 19), .load (some 9) (.t 2), none, []⟩,
             ⟨none, .store 9 (.t 4) (.t 19), none, [0, 0]⟩,
             ⟨(some 5), .mv (.v (.bool false)), none, [1, 0, 1]⟩])
        (.ret))
       (.skip)))
    (.seq (.reg false [⟨(some 20), .fld 1 (.t 2), none, []⟩,
          ⟨(some 21), .load none (.t 20), none, [0]⟩,
          ⟨(some 22), .bin .gtr (.t 21) (.v (.int .i64 1)), none, [1]⟩,
          ⟨(some 7), .mv (.t 22), none, [2, 0, 1, 2]⟩])
     (.seq (pc33c2)
      (.seq (.reg false [⟨(some 140), .load (some 9) (.t 2), none, []⟩,
            ⟨none, .store 9 (.t 4) (.t 140), none, [0, 0]⟩,
            ⟨(some 5), .mv (.v (.bool false)), none, [1, 0, 1]⟩])
       (.ret))))))
def pr33 : List PR := [.c 4 (some 9), .t 5]
theorem bd33 : Try.f33.body = some (Try.f33.body.getD .skip) := by kernel_rfl
theorem cp33 : compC Try.prog Try.f33.ntmps eqsL (Try.f33.body.getD .skip) = some pc33 := by kernel_rfl
theorem sp33 [WInv] {env : Env} (hE : EnvOK Try.prog env) {R : List Pa → List Pa → Prop} (hR : ∀ ps rs, R ps rs → ps.length ≤ 141 ∧ pwp env pc33 (fun e s => (e = .normal ∨ e = .ret) ∧ s.res pr33 = some rs) (St.init ps)) : Spec Try.prog 33 R :=
  fn_sound hE eqsOK mixedOK Try.func33 bd33 cp33 (by kernel_rfl) (by kernel_rfl) hR

/-! (interleave/interleaveref30.State).other -/
def pc34 : PC :=
 .seq (.reg false [⟨(some 2), .box (.t 0), none, []⟩,
       ⟨(some 3), .box (.t 1), none, []⟩,
       ⟨(some 4), .new [(.int .i64 0), (.int .i64 0), (.slice none 0 0), (.slice none 0 0), (.slice none 0 0), (.slice none 0 0), (.int .i64 0), (.int .i64 0), (.int .i64 0)], none, []⟩,
       ⟨(some 5), .mv (.v (.bool false)), none, []⟩])
  (.seq (.reg false [⟨(some 10), .load (some 9) (.t 2), none, []⟩,
        ⟨(some 11), .fld 2 (.t 3), none, []⟩,
        ⟨(some 12), .load none (.t 11), none, [1]⟩,
        ⟨(some 13), .fld 3 (.t 3), none, []⟩,
        ⟨(some 14), .load none (.t 13), none, [3]⟩,
        ⟨(some 15), .call 43 [(.t 10), (.t 12), (.t 14)], none, [0, 2, 4]⟩,
        ⟨(some 6), .new [(.int .i64 0), (.int .i64 0), (.bool false), (.int .i64 0)], none, []⟩,
        ⟨none, .store 4 (.t 6) (.t 15), none, [6, 5, 5, 0, 1, 2, 3, 4, 5, 6]⟩])
   (.seq (.reg false [⟨(some 16), .fld 2 (.t 6), none, []⟩,
         ⟨(some 17), .load none (.t 16), none, [0]⟩,
         ⟨(some 18), .un .not (.t 17), none, [1]⟩,
         ⟨(some 7), .mv (.t 18), none, [2, 0, 1, 2]⟩])
    (.seq (.seq (.reg false [⟨(some 19), .fld 1 (.t 3), none, []⟩,
           ⟨(some 20), .load none (.t 19), none, [0]⟩])
      (.block 0 (.seq (.reg false [⟨(some 22), .bin .eql (.t 20) (.v (.int .i64 6)), none, []⟩,
             ⟨(some 21), .mv (.t 22), none, [0]⟩])
        (.cond (.t 21)
          (.seq (.reg false [⟨(some 23), .fld 2 (.t 6), none, []⟩,
                ⟨none, .store 1 (.t 23) (.v (.bool true)), none, [0]⟩])
           (.seq (.reg true [⟨(some 24), .load (some 9) (.t 2), none, []⟩,
                 ⟨(some 25), .load (some 4) (.t 6), none, []⟩,
                 ⟨(some 26), .call 44 [(.t 24), (.t 25)], none, [0, 1]⟩,
                 ⟨(some 27), .mv (.t 7), none, []⟩,
                 ⟨(some 28), .mv (.t 27), none, [3, 2]⟩,
                 ⟨(some 29), .fld 3 (.t 6), (some (28, true)), [4]⟩,
                 ⟨(some 30), .load none (.t 29), (some (28, true)), [5, 4]⟩,
                 ⟨(some 31), .bin .eql (.t 30) (.v (.int .i64 0)), (some (28, true)), [6, 4]⟩,
                 ⟨(some 32), .pick (.t 28) (.t 31) (.v (.bool false)), none, [4, 7]⟩,
                 ⟨none, .store 9 (.t 4) (.t 26), none, [2, 4, 0, 1, 2]⟩,
                 ⟨(some 5), .mv (.t 32), none, [8, 9, 0, 1, 2, 3, 4, 5, 6, 7, 8, 9]⟩])
            (.ret)))
          (.seq (.reg false [⟨(some 34), .bin .eql (.t 20) (.v (.int .i64 7)), none, []⟩,
                ⟨(some 33), .mv (.t 34), none, [0]⟩])
           (.cond (.t 33)
             (.seq (.reg false [⟨(some 35), .fld 2 (.t 6), none, []⟩,
                   ⟨none, .store 1 (.t 35) (.v (.bool false)), none, [0]⟩])
              (.seq (.reg false [⟨(some 36), .load (some 9) (.t 2), none, []⟩,
                    ⟨(some 37), .load (some 4) (.t 6), none, []⟩,
                    ⟨(some 38), .call 44 [(.t 36), (.t 37)], none, [0, 1]⟩,
                    ⟨(some 39), .mv (.t 7), none, []⟩,
                    ⟨(some 40), .un .not (.t 39), none, [3]⟩,
                    ⟨none, .store 9 (.t 4) (.t 38), none, [2, 2, 0, 1, 2]⟩,
                    ⟨(some 5), .mv (.t 40), none, [4, 5, 0, 1, 2, 3, 4, 5]⟩])
               (.ret)))
             (.seq (.reg false [⟨(some 42), .bin .eql (.t 20) (.v (.int .i64 8)), none, []⟩,
                   ⟨(some 41), .mv (.t 42), none, [0]⟩])
              (.cond (.t 41)
                (.seq (.reg false [⟨(some 43), .fld 3 (.t 6), none, []⟩,
                      ⟨(some 44), .load none (.t 43), none, [0]⟩,
                      ⟨(some 45), .bin .add (.t 44) (.v (.int .i64 1)), none, [1]⟩,
                      ⟨(some 46), .fld 3 (.t 6), none, [0, 1, 2]⟩,
                      ⟨none, .store 1 (.t 46) (.t 45), none, [3, 2, 0, 1, 2]⟩])
                 (.seq (.reg false [⟨(some 47), .load (some 9) (.t 2), none, []⟩,
                       ⟨(some 48), .load (some 4) (.t 6), none, []⟩,
                       ⟨(some 49), .call 44 [(.t 47), (.t 48)], none, [0, 1]⟩,
                       ⟨(some 50), .mv (.t 7), none, []⟩,
                       ⟨none, .store 9 (.t 4) (.t 49), none, [2, 2, 0, 1, 2]⟩,
                       ⟨(some 5), .mv (.t 50), none, [3, 4, 0, 1, 2, 3, 4]⟩])
                  (.ret)))
                (.seq (.reg false [⟨(some 52), .bin .eql (.t 20) (.v (.int .i64 9)), none, []⟩,
                      ⟨(some 51), .mv (.t 52), none, [0]⟩])
                 (.cond (.t 51)
                   (.seq (.reg false [⟨(some 53), .fld 3 (.t 6), none, []⟩,
                         ⟨(some 54), .load none (.t 53), none, [0]⟩,
                         ⟨(some 55), .bin .sub (.t 54) (.v (.int .i64 1)), none, [1]⟩,
                         ⟨(some 56), .fld 3 (.t 6), none, [0, 1, 2]⟩,
                         ⟨none, .store 1 (.t 56) (.t 55), none, [3, 2, 0, 1, 2]⟩])
                    (.seq (.reg true [⟨(some 57), .load (some 9) (.t 2), none, []⟩,
                          ⟨(some 58), .load (some 4) (.t 6), none, []⟩,
                          ⟨(some 59), .call 44 [(.t 57), (.t 58)], none, [0, 1]⟩,
                          ⟨(some 60), .fld 3 (.t 6), none, []⟩,
                          ⟨(some 61), .load none (.t 60), none, [3]⟩,
                          ⟨(some 62), .bin .geq (.t 61) (.v (.int .i64 0)), none, [4]⟩,
                          ⟨none, .store 9 (.t 4) (.t 59), none, [2, 2, 0, 1, 2]⟩,
                          ⟨(some 5), .mv (.t 62), none, [5, 6, 0, 1, 2, 3, 4, 5, 6]⟩])
                     (.ret)))
                   (.seq (.reg false [⟨(some 64), .bin .eql (.t 20) (.v (.int .i64 12)), none, []⟩,
                         ⟨(some 63), .mv (.t 64), none, [0]⟩])
                    (.cond (.t 63)
                      (.seq (.reg false [⟨(some 65), .load (some 9) (.t 2), none, []⟩,
                            ⟨(some 66), .fld 2 (.t 3), none, []⟩,
                            ⟨(some 67), .load none (.t 66), none, [1]⟩,
                            ⟨(some 68), .fld 3 (.t 3), none, []⟩,
                            ⟨(some 69), .load none (.t 68), none, [3]⟩,
                            ⟨(some 70), .call 45 [(.t 65), (.t 67), (.t 69)], none, [0, 2, 4]⟩,
                            ⟨(some 8), .mv (.t 70), none, [5, 5, 0, 1, 2, 3, 4, 5]⟩])
                       (.seq (.reg true [⟨(some 71), .bslice 76 2 [] 0 [], none, []⟩,
                             ⟨(some 72), .fld 4 (.t 2), none, []⟩,
                             ⟨(some 73), .load none (.t 72), none, [1]⟩,
                             ⟨(some 74), .append 76 2 16 (.t 71) (.t 73), none, [0, 2]⟩,
                             ⟨(some 75), .fld 2 (.t 3), none, []⟩,
                             ⟨(some 76), .load none (.t 75), none, [4]⟩,
                             ⟨(some 77), .fld 3 (.t 3), none, []⟩,
                             ⟨(some 78), .load none (.t 77), none, [6]⟩,
                             ⟨(some 79), .build [(.int .i64 0), (.int .i64 0)] [(0, 1, (.t 76)), (1, 1, (.t 78))], none, [5, 7]⟩,
                             ⟨(some 80), .bslice 76 2 [(.int .i64 0), (.int .i64 0)] 1 [(0, 2, (.t 79))], none, [8]⟩,
                             ⟨(some 81), .append 76 2 16 (.t 74) (.t 80), none, [3, 9, 3]⟩,
                             ⟨(some 82), .fld 4 (.t 2), none, [0, 1, 2, 3, 4, 5, 6, 7, 8, 9, 10]⟩,
                             ⟨none, .store 1 (.t 82) (.t 81), none, [11, 10, 10, 0, 1, 2, 3, 4, 5, 6, 7, 8, 9, 10]⟩])
                        (.seq (.reg false [⟨(some 83), .load (some 9) (.t 2), none, []⟩,
                              ⟨(some 84), .mv (.t 8), none, []⟩,
                              ⟨(some 85), .un .not (.t 84), none, [1]⟩,
                              ⟨none, .store 9 (.t 4) (.t 83), none, [0, 0]⟩,
                              ⟨(some 5), .mv (.t 85), none, [2, 3, 0, 1, 2, 3]⟩])
                         (.ret))))
                      (.seq (.reg false [⟨(some 87), .bin .eql (.t 20) (.v (.int .i64 13)), none, []⟩,
                            ⟨(some 86), .mv (.t 87), none, [0]⟩])
                       (.cond (.t 86)
                         (.seq (.reg true [⟨(some 88), .load (some 9) (.t 2), none, []⟩,
                               ⟨(some 89), .load (some 9) (.t 2), none, []⟩,
                               ⟨(some 90), .fld 2 (.t 3), none, []⟩,
                               ⟨(some 91), .load none (.t 90), none, [2]⟩,
                               ⟨(some 92), .fld 3 (.t 3), none, []⟩,
                               ⟨(some 93), .load none (.t 92), none, [4]⟩,
                               ⟨(some 94), .call 45 [(.t 89), (.t 91), (.t 93)], none, [1, 3, 5]⟩,
                               ⟨none, .store 9 (.t 4) (.t 88), none, [0, 6, 0]⟩,
                               ⟨(some 5), .mv (.t 94), none, [6, 7, 0, 1, 2, 3, 4, 5, 6, 7]⟩])
                          (.ret))
                         (.seq (.reg false [⟨(some 96), .bin .eql (.t 20) (.v (.int .i64 14)), none, []⟩,
                               ⟨(some 95), .mv (.t 96), none, [0]⟩])
                          (.cond (.t 95)
                            (.seq (.reg false [⟨(some 97), .fld 1 (.t 2), none, []⟩,
                                  ⟨(some 98), .load none (.t 97), none, [0]⟩,
                                  ⟨(some 9), .mv (.t 98), none, [1, 0, 1]⟩])
                             (.seq (.reg false [⟨(some 99), .fld 1 (.t 2), none, []⟩,
                                   ⟨(some 100), .load none (.t 99), none, [0]⟩,
                                   ⟨(some 101), .bin .add (.t 100) (.v (.int .i64 1)), none, [1]⟩,
                                   ⟨(some 102), .fld 1 (.t 2), none, [0, 1, 2]⟩,
                                   ⟨none, .store 1 (.t 102) (.t 101), none, [3, 2, 0, 1, 2]⟩])
                              (.seq (.reg true [⟨(some 103), .load (some 9) (.t 2), none, []⟩,
                                    ⟨(some 104), .fld 4 (.t 3), none, []⟩,
                                    ⟨(some 105), .load none (.t 104), none, [1]⟩,
                                    ⟨(some 106), .mv (.t 9), none, []⟩,
                                    ⟨(some 107), .bin .eql (.t 105) (.t 106), none, [2, 3]⟩,
                                    ⟨none, .store 9 (.t 4) (.t 103), none, [0, 0]⟩,
                                    ⟨(some 5), .mv (.t 107), none, [4, 5, 0, 1, 2, 3, 4, 5]⟩])
                               (.ret))))
                            (.skip)))))))))))))))))
     (.seq (.reg false [⟨(some 108), .load (some 9) (.t 2), none, []⟩,
           ⟨none, .store 9 (.t 4) (.t 108), none, [0, 0]⟩,
           ⟨(some 5), .mv (.v (.bool true)), none, [1, 0, 1]⟩])
      (.ret)))))
def pr34 : List PR := [.c 4 (some 9), .t 5]
theorem bd34 : Try.f34.body = some (Try.f34.body.getD .skip) := by kernel_rfl
theorem cp34 : compC Try.prog Try.f34.ntmps eqsL (Try.f34.body.getD .skip) = some pc34 := by kernel_rfl
theorem sp34 [WInv] {env : Env} (hE : EnvOK Try.prog env) {R : List Pa → List Pa → Prop} (hR : ∀ ps rs, R ps rs → ps.length ≤ 109 ∧ pwp env pc34 (fun e s => (e = .normal ∨ e = .ret) ∧ s.res pr34 = some rs) (St.init ps)) : Spec Try.prog 34 R :=
  fn_sound hE eqsOK mixedOK Try.func34 bd34 cp34 (by kernel_rfl) (by kernel_rfl) hR

/-! (interleave/interleaveref30.State).counted -/
def pc39 : PC :=
 .seq (.reg false [⟨(some 2), .box (.t 0), none, []⟩,
       ⟨(some 3), .box (.t 1), none, []⟩,
       ⟨(some 4), .new [(.int .i64 0), (.int .i64 0), (.slice none 0 0), (.slice none 0 0), (.slice none 0 0), (.slice none 0 0), (.int .i64 0), (.int .i64 0), (.int .i64 0)], none, []⟩])
  (.seq (.reg false [⟨(some 6), .load (some 9) (.t 2), none, []⟩,
        ⟨(some 7), .fld 2 (.t 3), none, []⟩,
        ⟨(some 8), .load none (.t 7), none, [1]⟩,
        ⟨(some 9), .fld 5 (.t 3), none, []⟩,
        ⟨(some 10), .load none (.t 9), none, [3]⟩,
        ⟨(some 11), .call 40 [(.t 6), (.t 8), (.t 10)], none, [0, 2, 4]⟩,
        ⟨(some 5), .new [(.int .i64 0), (.int .i64 0), (.int .i64 0), (.int .i64 0), (.bool false)], none, []⟩,
        ⟨none, .store 5 (.t 5) (.t 11), none, [6, 5, 5, 0, 1, 2, 3, 4, 5, 6]⟩])
   (.seq (.seq (.reg false [⟨(some 12), .fld 1 (.t 3), none, []⟩,
          ⟨(some 13), .load none (.t 12), none, [0]⟩])
     (.block 0 (.seq (.reg false [⟨(some 16), .bin .eql (.t 13) (.v (.int .i64 15)), none, []⟩,
            ⟨(some 15), .mv (.t 16), none, [0]⟩])
       (.cond (.t 15)
         (.reg false [⟨(some 17), .fld 2 (.t 5), none, []⟩,
              ⟨(some 18), .load none (.t 17), none, [0]⟩,
              ⟨(some 19), .bin .add (.t 18) (.v (.int .i64 1)), none, [1]⟩,
              ⟨(some 20), .fld 2 (.t 5), none, [0, 1, 2]⟩,
              ⟨none, .store 1 (.t 20) (.t 19), none, [3, 2, 0, 1, 2]⟩])
         (.seq (.reg false [⟨(some 22), .bin .eql (.t 13) (.v (.int .i64 17)), none, []⟩,
               ⟨(some 21), .mv (.t 22), none, [0]⟩])
          (.cond (.t 21)
            (.reg false [⟨(some 23), .fld 3 (.t 5), none, []⟩,
                 ⟨(some 24), .load none (.t 23), none, [0]⟩,
                 ⟨(some 25), .bin .add (.t 24) (.v (.int .i64 1)), none, [1]⟩,
                 ⟨(some 26), .fld 3 (.t 5), none, [0, 1, 2]⟩,
                 ⟨none, .store 1 (.t 26) (.t 25), none, [3, 2, 0, 1, 2]⟩])
            (.seq (.reg false [⟨(some 14), .load (some 9) (.t 2), none, []⟩,
                  ⟨none, .store 9 (.t 4) (.t 14), none, [0, 0]⟩])
             (.ret))))))))
    (.seq (.reg false [⟨(some 27), .load (some 9) (.t 2), none, []⟩,
          ⟨(some 28), .load (some 5) (.t 5), none, []⟩,
          ⟨(some 29), .call 42 [(.t 27), (.t 28)], none, [0, 1]⟩,
          ⟨none, .store 9 (.t 4) (.t 29), none, [2, 2, 0, 1, 2]⟩])
     (.ret))))
def pr39 : List PR := [.c 4 (some 9)]
theorem bd39 : Try.f39.body = some (Try.f39.body.getD .skip) := by kernel_rfl
theorem cp39 : compC Try.prog Try.f39.ntmps eqsL (Try.f39.body.getD .skip) = some pc39 := by kernel_rfl
theorem sp39 [WInv] {env : Env} (hE : EnvOK Try.prog env) {R : List Pa → List Pa → Prop} (hR : ∀ ps rs, R ps rs → ps.length ≤ 30 ∧ pwp env pc39 (fun e s => (e = .normal ∨ e = .ret) ∧ s.res pr39 = some rs) (St.init ps)) : Spec Try.prog 39 R :=
  fn_sound hE eqsOK mixedOK Try.func39 bd39 cp39 (by kernel_rfl) (by kernel_rfl) hR

/-! (interleave/interleaveref30.State).channel -/
def pc40 : PC :=
 .seq (.reg false [⟨(some 3), .box (.t 0), none, []⟩,
       ⟨(some 6), .new [(.int .i64 0), (.int .i64 0), (.int .i64 0), (.int .i64 0), (.bool false)], none, []⟩])
  (.seq (.seq (.reg false [⟨(some 7), .mv (.v (.int .i64 0)), none, []⟩])
    (.block 0 (.loop (.seq (.seq (.reg false [⟨(some 8), .mv (.t 7), none, []⟩,
             ⟨(some 9), .fld 2 (.t 3), none, []⟩,
             ⟨(some 10), .load none (.t 9), none, [1]⟩,
             ⟨(some 11), .len (.t 10), none, [2]⟩,
             ⟨(some 12), .bin .lss (.t 8) (.t 11), none, [0, 3]⟩])
        (.cond (.t 12)
          (.skip)
          (.exit 0)))
       (.seq (.block 1 (.seq (.reg false [⟨(some 15), .fld 2 (.t 3), none, []⟩,
               ⟨(some 16), .load none (.t 15), none, [0]⟩,
               ⟨(some 17), .mv (.t 7), none, []⟩,
               ⟨(some 18), .ixs 5 (.t 16) (.t 17), none, [1, 2]⟩,
               ⟨(some 19), .fld 0 (.t 18), none, [3]⟩,
               ⟨(some 20), .load none (.t 19), none, [4]⟩,
               ⟨(some 21), .mv (.t 1), none, []⟩,
               ⟨(some 22), .bin .eql (.t 20) (.t 21), none, [5, 6]⟩])
          (.cond (.t 22)
            (.seq (.reg false [⟨(some 23), .fld 2 (.t 3), none, []⟩,
                  ⟨(some 24), .load none (.t 23), none, [0]⟩,
                  ⟨(some 25), .mv (.t 7), none, []⟩,
                  ⟨(some 26), .ixs 5 (.t 24) (.t 25), none, [1, 2]⟩,
                  ⟨(some 27), .load (some 5) (.t 26), none, [3]⟩,
                  ⟨none, .store 5 (.t 6) (.t 27), none, [4, 0, 1, 2, 3, 4]⟩])
             (.ret))
            (.skip))))
        (.reg false [⟨(some 13), .mv (.t 7), none, []⟩,
             ⟨(some 14), .bin .add (.t 13) (.v (.int .i64 1)), none, [0]⟩,
             ⟨(some 7), .mv (.t 14), none, [1, 0, 1]⟩]))))))
   (.seq (.reg false [⟨(some 28), .mv (.t 1), none, []⟩,
         ⟨(some 29), .mv (.t 2), none, []⟩,
         ⟨(some 30), .build [(.int .i64 0), (.int .i64 0), (.int .i64 0), (.int .i64 0), (.bool false)] [(0, 1, (.t 28)), (1, 1, (.t 29))], none, [0, 1]⟩,
         ⟨none, .store 5 (.t 6) (.t 30), none, [2, 0, 1, 2]⟩])
    (.ret)))
def pr40 : List PR := [.c 6 (some 5)]
abbrev ms40_0 : List Nat := [8, 9, 10, 11, 12, 15, 16, 17, 18, 19, 20, 21, 22, 23, 24, 25, 26, 27, 13, 14, 7]
abbrev os40_0 : List Nat := [6]
theorem bd40 : Try.f40.body = some (Try.f40.body.getD .skip) := by kernel_rfl
theorem cp40 : compC Try.prog Try.f40.ntmps eqsL (Try.f40.body.getD .skip) = some pc40 := by kernel_rfl
theorem sp40 [WInv] {env : Env} (hE : EnvOK Try.prog env) {R : List Pa → List Pa → Prop} (hR : ∀ ps rs, R ps rs → ps.length ≤ 31 ∧ pwp env pc40 (fun e s => (e = .normal ∨ e = .ret) ∧ s.res pr40 = some rs) (St.init ps)) : Spec Try.prog 40 R :=
  fn_sound hE eqsOK mixedOK Try.func40 bd40 cp40 (by kernel_rfl) (by kernel_rfl) hR

/-! (interleave/interleaveref30.State).begin -/
def pc41 : PC :=
 .seq (.reg false [⟨(some 3), .box (.t 0), none, []⟩,
       ⟨(some 4), .box (.t 1), none, []⟩,
       ⟨(some 6), .new [(.int .i64 0), (.int .i64 0), (.slice none 0 0), (.slice none 0 0), (.slice none 0 0), (.slice none 0 0), (.int .i64 0), (.int .i64 0), (.int .i64 0)], none, []⟩,
       ⟨(some 7), .mv (.v (.bool false)), none, []⟩])
  (.seq (.reg true [⟨(some 8), .mv (.t 2), none, []⟩,
        ⟨(some 9), .fld 2 (.t 4), none, []⟩,
        ⟨(some 10), .load none (.t 9), none, [1]⟩,
        ⟨(some 11), .fld 4 (.t 4), none, []⟩,
        ⟨(some 12), .load none (.t 11), none, [3]⟩,
        ⟨(some 13), .fld 5 (.t 4), none, []⟩,
        ⟨(some 14), .load none (.t 13), none, [5]⟩,
        ⟨(some 15), .fld 5 (.t 3), none, [0]⟩,
        ⟨none, .store 1 (.t 15) (.t 8), none, [7, 0, 0]⟩,
        ⟨(some 16), .fld 6 (.t 3), none, [0, 1, 2, 7, 8]⟩,
        ⟨none, .store 1 (.t 16) (.t 10), none, [9, 2, 8, 0, 1, 2, 7, 8]⟩,
        ⟨(some 17), .fld 7 (.t 3), none, [0, 1, 2, 3, 4, 7, 8, 9, 10]⟩,
        ⟨none, .store 1 (.t 17) (.t 12), none, [11, 4, 10, 0, 1, 2, 3, 4, 7, 8, 9, 10]⟩,
        ⟨(some 18), .fld 8 (.t 3), none, [0, 1, 2, 3, 4, 5, 6, 7, 8, 9, 10, 11, 12]⟩,
        ⟨none, .store 1 (.t 18) (.t 14), none, [13, 6, 12, 0, 1, 2, 3, 4, 5, 6, 7, 8, 9, 10, 11, 12]⟩])
   (.seq (.reg false [⟨(some 19), .load (some 9) (.t 3), none, []⟩,
         ⟨(some 20), .load (some 9) (.t 4), none, []⟩,
         ⟨(some 21), .call 39 [(.t 19), (.t 20)], none, [0, 1]⟩,
         ⟨none, .store 9 (.t 6) (.t 21), none, [2, 2, 0, 1, 2]⟩,
         ⟨(some 7), .mv (.v (.bool true)), none, [3, 0, 1, 2, 3]⟩])
    (.ret)))
def pr41 : List PR := [.c 6 (some 9), .t 7]
theorem bd41 : Try.f41.body = some (Try.f41.body.getD .skip) := by kernel_rfl
theorem cp41 : compC Try.prog Try.f41.ntmps eqsL (Try.f41.body.getD .skip) = some pc41 := by kernel_rfl
theorem sp41 [WInv] {env : Env} (hE : EnvOK Try.prog env) {R : List Pa → List Pa → Prop} (hR : ∀ ps rs, R ps rs → ps.length ≤ 22 ∧ pwp env pc41 (fun e s => (e = .normal ∨ e = .ret) ∧ s.res pr41 = some rs) (St.init ps)) : Spec Try.prog 41 R :=
  fn_sound hE eqsOK mixedOK Try.func41 bd41 cp41 (by kernel_rfl) (by kernel_rfl) hR

/-! (interleave/interleaveref30.State).setChannel -/
def pc42 : PC :=
 .seq (.reg false [⟨(some 2), .box (.t 0), none, []⟩,
       ⟨(some 3), .box (.t 1), none, []⟩,
       ⟨(some 4), .new [(.int .i64 0), (.int .i64 0), (.slice none 0 0), (.slice none 0 0), (.slice none 0 0), (.slice none 0 0), (.int .i64 0), (.int .i64 0), (.int .i64 0)], none, []⟩])
  (.seq (.reg false [⟨(some 5), .nilRow 66 5, none, []⟩])
   (.seq (.seq (.reg false [⟨(some 6), .mv (.v (.int .i64 0)), none, []⟩])
     (.block 0 (.loop (.seq (.seq (.reg false [⟨(some 7), .mv (.t 6), none, []⟩,
              ⟨(some 8), .fld 2 (.t 2), none, []⟩,
              ⟨(some 9), .load none (.t 8), none, [1]⟩,
              ⟨(some 10), .len (.t 9), none, [2]⟩,
              ⟨(some 11), .bin .lss (.t 7) (.t 10), none, [0, 3]⟩])
         (.cond (.t 11)
           (.skip)
           (.exit 0)))
        (.seq (.block 1 (.seq (.reg true [⟨(some 14), .fld 2 (.t 2), none, []⟩,
                ⟨(some 15), .load none (.t 14), none, [0]⟩,
                ⟨(some 16), .mv (.t 6), none, []⟩,
                ⟨(some 17), .ixs 5 (.t 15) (.t 16), none, [1, 2]⟩,
                ⟨(some 18), .fld 0 (.t 17), none, [3]⟩,
                ⟨(some 19), .load none (.t 18), none, [4]⟩,
                ⟨(some 20), .fld 0 (.t 3), none, []⟩,
                ⟨(some 21), .load none (.t 20), none, [6]⟩,
                ⟨(some 22), .bin .neq (.t 19) (.t 21), none, [5, 7]⟩])
           (.cond (.t 22)
             (.reg false [⟨(some 23), .mv (.t 5), none, []⟩,
                  ⟨(some 24), .fld 2 (.t 2), none, []⟩,
                  ⟨(some 25), .load none (.t 24), none, [1]⟩,
                  ⟨(some 26), .mv (.t 6), none, []⟩,
                  ⟨(some 27), .ixs 5 (.t 25) (.t 26), none, [2, 3]⟩,
                  ⟨(some 28), .load (some 5) (.t 27), none, [4]⟩,
                  ⟨(some 29), .bslice 66 5 [(.int .i64 0), (.int .i64 0), (.int .i64 0), (.int .i64 0), (.bool false)] 1 [(0, 5, (.t 28))], none, [5]⟩,
                  ⟨(some 30), .append 66 5 40 (.t 23) (.t 29), none, [0, 6]⟩,
                  ⟨(some 5), .mv (.t 30), none, [7, 7, 0, 1, 2, 3, 4, 5, 6, 7]⟩])
             (.skip))))
         (.reg false [⟨(some 12), .mv (.t 6), none, []⟩,
              ⟨(some 13), .bin .add (.t 12) (.v (.int .i64 1)), none, [0]⟩,
              ⟨(some 6), .mv (.t 13), none, [1, 0, 1]⟩]))))))
    (.seq (.reg false [⟨(some 31), .mv (.t 5), none, []⟩,
          ⟨(some 32), .load (some 5) (.t 3), none, []⟩,
          ⟨(some 33), .bslice 66 5 [(.int .i64 0), (.int .i64 0), (.int .i64 0), (.int .i64 0), (.bool false)] 1 [(0, 5, (.t 32))], none, [1]⟩,
          ⟨(some 34), .append 66 5 40 (.t 31) (.t 33), none, [0, 2]⟩,
          ⟨(some 35), .fld 2 (.t 2), none, [0, 1, 2, 3]⟩,
          ⟨none, .store 1 (.t 35) (.t 34), none, [4, 3, 3, 0, 1, 2, 3]⟩])
     (.seq (.reg false [⟨(some 36), .load (some 9) (.t 2), none, []⟩,
           ⟨none, .store 9 (.t 4) (.t 36), none, [0, 0]⟩])
      (.ret)))))
def pr42 : List PR := [.c 4 (some 9)]
abbrev ms42_0 : List Nat := [7, 8, 9, 10, 11, 14, 15, 16, 17, 18, 19, 20, 21, 22, 23, 24, 25, 26, 27, 28, 29, 30, 5, 12, 13, 6]
abbrev os42_0 : List Nat := [29, 5]
theorem bd42 : Try.f42.body = some (Try.f42.body.getD .skip) := by kernel_rfl
theorem cp42 : compC Try.prog Try.f42.ntmps eqsL (Try.f42.body.getD .skip) = some pc42 := by kernel_rfl
theorem sp42 [WInv] {env : Env} (hE : EnvOK Try.prog env) {R : List Pa → List Pa → Prop} (hR : ∀ ps rs, R ps rs → ps.length ≤ 37 ∧ pwp env pc42 (fun e s => (e = .normal ∨ e = .ret) ∧ s.res pr42 = some rs) (St.init ps)) : Spec Try.prog 42 R :=
  fn_sound hE eqsOK mixedOK Try.func42 bd42 cp42 (by kernel_rfl) (by kernel_rfl) hR

/-! (interleave/interleaveref30.State).lock -/
def pc43 : PC :=
 .seq (.reg false [⟨(some 3), .box (.t 0), none, []⟩,
       ⟨(some 6), .new [(.int .i64 0), (.int .i64 0), (.bool false), (.int .i64 0)], none, []⟩])
  (.seq (.seq (.reg false [⟨(some 7), .mv (.v (.int .i64 0)), none, []⟩])
    (.block 0 (.loop (.seq (.seq (.reg false [⟨(some 8), .mv (.t 7), none, []⟩,
             ⟨(some 9), .fld 3 (.t 3), none, []⟩,
             ⟨(some 10), .load none (.t 9), none, [1]⟩,
             ⟨(some 11), .len (.t 10), none, [2]⟩,
             ⟨(some 12), .bin .lss (.t 8) (.t 11), none, [0, 3]⟩])
        (.cond (.t 12)
          (.skip)
          (.exit 0)))
       (.seq (.block 1 (.seq (.reg false [⟨(some 15), .fld 3 (.t 3), none, []⟩,
               ⟨(some 16), .load none (.t 15), none, [0]⟩,
               ⟨(some 17), .mv (.t 7), none, []⟩,
               ⟨(some 18), .ixs 4 (.t 16) (.t 17), none, [1, 2]⟩,
               ⟨(some 19), .fld 0 (.t 18), none, [3]⟩,
               ⟨(some 20), .load none (.t 19), none, [4]⟩,
               ⟨(some 21), .mv (.t 1), none, []⟩,
               ⟨(some 22), .bin .eql (.t 20) (.t 21), none, [5, 6]⟩,
               ⟨(some 23), .mv (.t 22), none, [7]⟩,
               ⟨(some 24), .fld 3 (.t 3), (some (23, true)), [8]⟩,
               ⟨(some 25), .load none (.t 24), (some (23, true)), [9, 8]⟩,
               ⟨(some 26), .mv (.t 7), (some (23, true)), [8]⟩,
               ⟨(some 27), .ixs 4 (.t 25) (.t 26), (some (23, true)), [10, 11, 8]⟩,
               ⟨(some 28), .fld 1 (.t 27), (some (23, true)), [12, 8]⟩,
               ⟨(some 29), .load none (.t 28), (some (23, true)), [13, 8]⟩,
               ⟨(some 30), .mv (.t 2), (some (23, true)), [8]⟩,
               ⟨(some 31), .bin .eql (.t 29) (.t 30), (some (23, true)), [14, 15, 8]⟩,
               ⟨(some 32), .pick (.t 23) (.t 31) (.v (.bool false)), none, [8, 16]⟩])
          (.cond (.t 32)
            (.seq (.reg false [⟨(some 33), .fld 3 (.t 3), none, []⟩,
                  ⟨(some 34), .load none (.t 33), none, [0]⟩,
                  ⟨(some 35), .mv (.t 7), none, []⟩,
                  ⟨(some 36), .ixs 4 (.t 34) (.t 35), none, [1, 2]⟩,
                  ⟨(some 37), .load (some 4) (.t 36), none, [3]⟩,
                  ⟨none, .store 4 (.t 6) (.t 37), none, [4, 0, 1, 2, 3, 4]⟩])
             (.ret))
            (.skip))))
        (.reg false [⟨(some 13), .mv (.t 7), none, []⟩,
             ⟨(some 14), .bin .add (.t 13) (.v (.int .i64 1)), none, [0]⟩,
             ⟨(some 7), .mv (.t 14), none, [1, 0, 1]⟩]))))))
   (.seq (.reg false [⟨(some 38), .mv (.t 1), none, []⟩,
         ⟨(some 39), .mv (.t 2), none, []⟩,
         ⟨(some 40), .build [(.int .i64 0), (.int .i64 0), (.bool false), (.int .i64 0)] [(0, 1, (.t 38)), (1, 1, (.t 39))], none, [0, 1]⟩,
         ⟨none, .store 4 (.t 6) (.t 40), none, [2, 0, 1, 2]⟩])
    (.ret)))
def pr43 : List PR := [.c 6 (some 4)]
abbrev ms43_0 : List Nat := [8, 9, 10, 11, 12, 15, 16, 17, 18, 19, 20, 21, 22, 23, 24, 25, 26, 27, 28, 29, 30, 31, 32, 33, 34, 35, 36, 37, 13, 14, 7]
abbrev os43_0 : List Nat := [6]
theorem bd43 : Try.f43.body = some (Try.f43.body.getD .skip) := by kernel_rfl
theorem cp43 : compC Try.prog Try.f43.ntmps eqsL (Try.f43.body.getD .skip) = some pc43 := by kernel_rfl
theorem sp43 [WInv] {env : Env} (hE : EnvOK Try.prog env) {R : List Pa → List Pa → Prop} (hR : ∀ ps rs, R ps rs → ps.length ≤ 41 ∧ pwp env pc43 (fun e s => (e = .normal ∨ e = .ret) ∧ s.res pr43 = some rs) (St.init ps)) : Spec Try.prog 43 R :=
  fn_sound hE eqsOK mixedOK Try.func43 bd43 cp43 (by kernel_rfl) (by kernel_rfl) hR

/-! (interleave/interleaveref30.State).setLock -/
def pc44 : PC :=
 .seq (.reg false [⟨(some 2), .box (.t 0), none, []⟩,
       ⟨(some 3), .box (.t 1), none, []⟩,
       ⟨(some 4), .new [(.int .i64 0), (.int .i64 0), (.slice none 0 0), (.slice none 0 0), (.slice none 0 0), (.slice none 0 0), (.int .i64 0), (.int .i64 0), (.int .i64 0)], none, []⟩])
  (.seq (.reg false [⟨(some 5), .nilRow 71 4, none, []⟩])
   (.seq (.seq (.reg false [⟨(some 6), .mv (.v (.int .i64 0)), none, []⟩])
     (.block 0 (.loop (.seq (.seq (.reg false [⟨(some 7), .mv (.t 6), none, []⟩,
              ⟨(some 8), .fld 3 (.t 2), none, []⟩,
              ⟨(some 9), .load none (.t 8), none, [1]⟩,
              ⟨(some 10), .len (.t 9), none, [2]⟩,
              ⟨(some 11), .bin .lss (.t 7) (.t 10), none, [0, 3]⟩])
         (.cond (.t 11)
           (.skip)
           (.exit 0)))
        (.seq (.block 1 (.seq (.reg true [⟨(some 14), .fld 3 (.t 2), none, []⟩,
                ⟨(some 15), .load none (.t 14), none, [0]⟩,
                ⟨(some 16), .mv (.t 6), none, []⟩,
                ⟨(some 17), .ixs 4 (.t 15) (.t 16), none, [1, 2]⟩,
                ⟨(some 18), .fld 0 (.t 17), none, [3]⟩,
                ⟨(some 19), .load none (.t 18), none, [4]⟩,
                ⟨(some 20), .fld 0 (.t 3), none, []⟩,
                ⟨(some 21), .load none (.t 20), none, [6]⟩,
                ⟨(some 22), .bin .neq (.t 19) (.t 21), none, [5, 7]⟩,
                ⟨(some 23), .mv (.t 22), none, [8]⟩,
                ⟨(some 24), .fld 3 (.t 2), (some (23, false)), [9]⟩,
                ⟨(some 25), .load none (.t 24), (some (23, false)), [10, 9]⟩,
                ⟨(some 26), .mv (.t 6), (some (23, false)), [9]⟩,
                ⟨(some 27), .ixs 4 (.t 25) (.t 26), (some (23, false)), [11, 12, 9]⟩,
                ⟨(some 28), .fld 1 (.t 27), (some (23, false)), [13, 9]⟩,
                ⟨(some 29), .load none (.t 28), (some (23, false)), [14, 9]⟩,
                ⟨(some 30), .fld 1 (.t 3), (some (23, false)), [9]⟩,
                ⟨(some 31), .load none (.t 30), (some (23, false)), [16, 9]⟩,
                ⟨(some 32), .bin .neq (.t 29) (.t 31), (some (23, false)), [15, 17, 9]⟩,
                ⟨(some 33), .pick (.t 23) (.v (.bool true)) (.t 32), none, [9, 18]⟩])
           (.cond (.t 33)
             (.reg false [⟨(some 34), .mv (.t 5), none, []⟩,
                  ⟨(some 35), .fld 3 (.t 2), none, []⟩,
                  ⟨(some 36), .load none (.t 35), none, [1]⟩,
                  ⟨(some 37), .mv (.t 6), none, []⟩,
                  ⟨(some 38), .ixs 4 (.t 36) (.t 37), none, [2, 3]⟩,
                  ⟨(some 39), .load (some 4) (.t 38), none, [4]⟩,
                  ⟨(some 40), .bslice 71 4 [(.int .i64 0), (.int .i64 0), (.bool false), (.int .i64 0)] 1 [(0, 4, (.t 39))], none, [5]⟩,
                  ⟨(some 41), .append 71 4 32 (.t 34) (.t 40), none, [0, 6]⟩,
                  ⟨(some 5), .mv (.t 41), none, [7, 7, 0, 1, 2, 3, 4, 5, 6, 7]⟩])
             (.skip))))
         (.reg false [⟨(some 12), .mv (.t 6), none, []⟩,
              ⟨(some 13), .bin .add (.t 12) (.v (.int .i64 1)), none, [0]⟩,
              ⟨(some 6), .mv (.t 13), none, [1, 0, 1]⟩]))))))
    (.seq (.reg false [⟨(some 42), .mv (.t 5), none, []⟩,
          ⟨(some 43), .load (some 4) (.t 3), none, []⟩,
          ⟨(some 44), .bslice 71 4 [(.int .i64 0), (.int .i64 0), (.bool false), (.int .i64 0)] 1 [(0, 4, (.t 43))], none, [1]⟩,
          ⟨(some 45), .append 71 4 32 (.t 42) (.t 44), none, [0, 2]⟩,
          ⟨(some 46), .fld 3 (.t 2), none, [0, 1, 2, 3]⟩,
          ⟨none, .store 1 (.t 46) (.t 45), none, [4, 3, 3, 0, 1, 2, 3]⟩])
     (.seq (.reg false [⟨(some 47), .load (some 9) (.t 2), none, []⟩,
           ⟨none, .store 9 (.t 4) (.t 47), none, [0, 0]⟩])
      (.ret)))))
def pr44 : List PR := [.c 4 (some 9)]
abbrev ms44_0 : List Nat := [7, 8, 9, 10, 11, 14, 15, 16, 17, 18, 19, 20, 21, 22, 23, 24, 25, 26, 27, 28, 29, 30, 31, 32, 33, 34, 35, 36, 37, 38, 39, 40, 41, 5, 12, 13, 6]
abbrev os44_0 : List Nat := [40, 5]
theorem bd44 : Try.f44.body = some (Try.f44.body.getD .skip) := by kernel_rfl
theorem cp44 : compC Try.prog Try.f44.ntmps eqsL (Try.f44.body.getD .skip) = some pc44 := by kernel_rfl
theorem sp44 [WInv] {env : Env} (hE : EnvOK Try.prog env) {R : List Pa → List Pa → Prop} (hR : ∀ ps rs, R ps rs → ps.length ≤ 48 ∧ pwp env pc44 (fun e s => (e = .normal ∨ e = .ret) ∧ s.res pr44 = some rs) (St.init ps)) : Spec Try.prog 44 R :=
  fn_sound hE eqsOK mixedOK Try.func44 bd44 cp44 (by kernel_rfl) (by kernel_rfl) hR

/-! (interleave/interleaveref30.State).done -/
def pc45 : PC :=
 .seq (.reg false [⟨(some 3), .box (.t 0), none, []⟩,
       ⟨(some 6), .mv (.v (.bool false)), none, []⟩])
  (.seq (.seq (.reg false [⟨(some 7), .mv (.v (.int .i64 0)), none, []⟩])
    (.block 0 (.loop (.seq (.seq (.reg false [⟨(some 8), .mv (.t 7), none, []⟩,
             ⟨(some 9), .fld 4 (.t 3), none, []⟩,
             ⟨(some 10), .load none (.t 9), none, [1]⟩,
             ⟨(some 11), .len (.t 10), none, [2]⟩,
             ⟨(some 12), .bin .lss (.t 8) (.t 11), none, [0, 3]⟩])
        (.cond (.t 12)
          (.skip)
          (.exit 0)))
       (.seq (.block 1 (.seq (.reg false [⟨(some 15), .fld 4 (.t 3), none, []⟩,
               ⟨(some 16), .load none (.t 15), none, [0]⟩,
               ⟨(some 17), .mv (.t 7), none, []⟩,
               ⟨(some 18), .ixs 2 (.t 16) (.t 17), none, [1, 2]⟩,
               ⟨(some 19), .fld 0 (.t 18), none, [3]⟩,
               ⟨(some 20), .load none (.t 19), none, [4]⟩,
               ⟨(some 21), .mv (.t 1), none, []⟩,
               ⟨(some 22), .bin .eql (.t 20) (.t 21), none, [5, 6]⟩,
               ⟨(some 23), .mv (.t 22), none, [7]⟩,
               ⟨(some 24), .fld 4 (.t 3), (some (23, true)), [8]⟩,
               ⟨(some 25), .load none (.t 24), (some (23, true)), [9, 8]⟩,
               ⟨(some 26), .mv (.t 7), (some (23, true)), [8]⟩,
               ⟨(some 27), .ixs 2 (.t 25) (.t 26), (some (23, true)), [10, 11, 8]⟩,
               ⟨(some 28), .fld 1 (.t 27), (some (23, true)), [12, 8]⟩,
               ⟨(some 29), .load none (.t 28), (some (23, true)), [13, 8]⟩,
               ⟨(some 30), .mv (.t 2), (some (23, true)), [8]⟩,
               ⟨(some 31), .bin .eql (.t 29) (.t 30), (some (23, true)), [14, 15, 8]⟩,
               ⟨(some 32), .pick (.t 23) (.t 31) (.v (.bool false)), none, [8, 16]⟩])
          (.cond (.t 32)
            (.seq (.reg false [⟨(some 6), .mv (.v (.bool true)), none, []⟩])
             (.ret))
            (.skip))))
        (.reg false [⟨(some 13), .mv (.t 7), none, []⟩,
             ⟨(some 14), .bin .add (.t 13) (.v (.int .i64 1)), none, [0]⟩,
             ⟨(some 7), .mv (.t 14), none, [1, 0, 1]⟩]))))))
   (.seq (.reg false [⟨(some 6), .mv (.v (.bool false)), none, []⟩])
    (.ret)))
def pr45 : List PR := [.t 6]
abbrev ms45_0 : List Nat := [8, 9, 10, 11, 12, 15, 16, 17, 18, 19, 20, 21, 22, 23, 24, 25, 26, 27, 28, 29, 30, 31, 32, 6, 13, 14, 7]
abbrev os45_0 : List Nat := []
theorem bd45 : Try.f45.body = some (Try.f45.body.getD .skip) := by kernel_rfl
theorem cp45 : compC Try.prog Try.f45.ntmps eqsL (Try.f45.body.getD .skip) = some pc45 := by kernel_rfl
theorem sp45 [WInv] {env : Env} (hE : EnvOK Try.prog env) {R : List Pa → List Pa → Prop} (hR : ∀ ps rs, R ps rs → ps.length ≤ 33 ∧ pwp env pc45 (fun e s => (e = .normal ∨ e = .ret) ∧ s.res pr45 = some rs) (St.init ps)) : Spec Try.prog 45 R :=
  fn_sound hE eqsOK mixedOK Try.func45 bd45 cp45 (by kernel_rfl) (by kernel_rfl) hR

/-! interleave/interleaveref30.Valid -/
def pc13 : PC :=
 .seq (.reg false [⟨(some 2), .mv (.v (.bool false)), none, []⟩])
  (.seq (.reg false [⟨(some 6), .mv (.t 0), none, []⟩,
        ⟨(some 7), .call 19 [(.t 6)], none, [0]⟩,
        ⟨(some 5), .mv (.t 7), none, [1]⟩,
        ⟨(some 8), .ext (.t 5) 0, none, [2]⟩,
        ⟨(some 9), .ext (.t 5) 1, none, [2]⟩,
        ⟨(some 3), .mv (.t 8), none, [3, 1, 0, 1, 2, 3]⟩,
        ⟨(some 4), .mv (.t 9), none, [4, 5, 0, 1, 2, 3, 4, 5]⟩])
   (.seq (.reg false [⟨(some 10), .mv (.t 4), none, []⟩,
         ⟨(some 2), .mv (.t 10), none, [0, 0]⟩])
    (.ret)))
def pr13 : List PR := [.t 2]
theorem bd13 : Try.f13.body = some (Try.f13.body.getD .skip) := by kernel_rfl
theorem cp13 : compC Try.prog Try.f13.ntmps eqsL (Try.f13.body.getD .skip) = some pc13 := by kernel_rfl
theorem sp13 [WInv] {env : Env} (hE : EnvOK Try.prog env) {R : List Pa → List Pa → Prop} (hR : ∀ ps rs, R ps rs → ps.length ≤ 11 ∧ pwp env pc13 (fun e s => (e = .normal ∨ e = .ret) ∧ s.res pr13 = some rs) (St.init ps)) : Spec Try.prog 13 R :=
  fn_sound hE eqsOK mixedOK Try.func13 bd13 cp13 (by kernel_rfl) (by kernel_rfl) hR

/-! interleave/interleaveref30.Check -/
def pc19 : PC :=
 .seq (.reg false [⟨(some 2), .mv (.v (.int .i64 0)), none, []⟩,
       ⟨(some 3), .mv (.v (.bool false)), none, [0]⟩])
  (.seq (.reg false [⟨(some 8), .call 24 [], none, []⟩,
        ⟨(some 4), .new [(.int .i64 0), (.int .i64 0), (.slice none 0 0), (.slice none 0 0), (.slice none 0 0), (.slice none 0 0), (.int .i64 0), (.int .i64 0), (.int .i64 0)], none, []⟩,
        ⟨none, .store 9 (.t 4) (.t 8), none, [1, 0, 0, 0, 1]⟩])
   (.seq (.seq (.reg false [⟨(some 5), .mv (.v (.int .i64 0)), none, []⟩])
     (.block 0 (.loop (.seq (.seq (.reg false [⟨(some 9), .mv (.t 5), none, []⟩,
              ⟨(some 10), .mv (.t 0), none, []⟩,
              ⟨(some 11), .len (.t 10), none, [1]⟩,
              ⟨(some 12), .bin .lss (.t 9) (.t 11), none, [0, 2]⟩])
         (.cond (.t 12)
           (.skip)
           (.exit 0)))
        (.seq (.block 1 (.seq (.reg true [⟨(some 16), .load (some 9) (.t 4), none, []⟩,
                ⟨(some 17), .mv (.t 0), none, []⟩,
                ⟨(some 18), .mv (.t 5), none, []⟩,
                ⟨(some 19), .ixs 9 (.t 17) (.t 18), none, [1, 2]⟩,
                ⟨(some 20), .load (some 9) (.t 19), none, [3]⟩,
                ⟨(some 21), .call 25 [(.t 16), (.t 20)], none, [0, 4]⟩,
                ⟨(some 15), .mv (.t 21), none, [5]⟩,
                ⟨(some 22), .ext (.t 15) 0, none, [6]⟩,
                ⟨(some 23), .ext (.t 15) 1, none, [6]⟩,
                ⟨(some 6), .new [(.int .i64 0), (.int .i64 0), (.slice none 0 0), (.slice none 0 0), (.slice none 0 0), (.slice none 0 0), (.int .i64 0), (.int .i64 0), (.int .i64 0)], none, []⟩,
                ⟨none, .store 9 (.t 6) (.t 22), none, [9, 7, 5, 0, 1, 2, 3, 4, 5, 6, 7, 9]⟩,
                ⟨(some 7), .mv (.t 23), none, [8, 10, 0, 1, 2, 3, 4, 5, 6, 7, 8, 9, 10]⟩])
           (.seq (.seq (.reg false [⟨(some 24), .mv (.t 7), none, []⟩,
                  ⟨(some 25), .un .not (.t 24), none, [0]⟩])
             (.cond (.t 25)
               (.seq (.reg false [⟨(some 26), .mv (.t 5), none, []⟩,
                     ⟨(some 2), .mv (.t 26), none, [0, 0]⟩,
                     ⟨(some 3), .mv (.v (.bool false)), none, [1, 0, 1]⟩])
                (.ret))
               (.skip)))
            (.reg false [⟨(some 27), .load (some 9) (.t 6), none, []⟩,
                 ⟨none, .store 9 (.t 4) (.t 27), none, [0, 0]⟩]))))
         (.reg false [⟨(some 13), .mv (.t 5), none, []⟩,
              ⟨(some 14), .bin .add (.t 13) (.v (.int .i64 1)), none, [0]⟩,
              ⟨(some 5), .mv (.t 14), none, [1, 0, 1]⟩]))))))
    (.seq (.reg false [⟨(some 28), .mv (.t 0), none, []⟩,
          ⟨(some 29), .len (.t 28), none, [0]⟩,
          ⟨(some 2), .mv (.t 29), none, [1, 0, 1]⟩,
          ⟨(some 3), .mv (.v (.bool true)), none, [2, 0, 1, 2]⟩])
     (.ret))))
def pr19 : List PR := [.t 2, .t 3]
abbrev ms19_0 : List Nat := [9, 10, 11, 12, 16, 17, 18, 19, 20, 21, 15, 22, 23, 6, 7, 24, 25, 26, 2, 3, 27, 13, 14, 5]
abbrev os19_0 : List Nat := [6, 4]
theorem bd19 : Try.f19.body = some (Try.f19.body.getD .skip) := by kernel_rfl
theorem cp19 : compC Try.prog Try.f19.ntmps eqsL (Try.f19.body.getD .skip) = some pc19 := by kernel_rfl
theorem sp19 [WInv] {env : Env} (hE : EnvOK Try.prog env) {R : List Pa → List Pa → Prop} (hR : ∀ ps rs, R ps rs → ps.length ≤ 30 ∧ pwp env pc19 (fun e s => (e = .normal ∨ e = .ret) ∧ s.res pr19 = some rs) (St.init ps)) : Spec Try.prog 19 R :=
  fn_sound hE eqsOK mixedOK Try.func19 bd19 cp19 (by kernel_rfl) (by kernel_rfl) hR

/-! interleave/interleaveref30.New -/
def pc24 : PC :=
 .seq (.reg false [⟨(some 0), .new [(.int .i64 0), (.int .i64 0), (.slice none 0 0), (.slice none 0 0), (.slice none 0 0), (.slice none 0 0), (.int .i64 0), (.int .i64 0), (.int .i64 0)], none, []⟩])
  (.seq (.reg false [⟨(some 1), .build [(.int .i64 0), (.int .i64 0), (.slice none 0 0), (.slice none 0 0), (.slice none 0 0), (.slice none 0 0), (.int .i64 0), (.int .i64 0), (.int .i64 0)] [(1, 1, (.v (.int .i64 1)))], none, []⟩,
        ⟨none, .store 9 (.t 0) (.t 1), none, [0, 0]⟩])
   (.ret))
def pr24 : List PR := [.c 0 (some 9)]
theorem bd24 : Try.f24.body = some (Try.f24.body.getD .skip) := by kernel_rfl
theorem cp24 : compC Try.prog Try.f24.ntmps eqsL (Try.f24.body.getD .skip) = some pc24 := by kernel_rfl
theorem sp24 [WInv] {env : Env} (hE : EnvOK Try.prog env) {R : List Pa → List Pa → Prop} (hR : ∀ ps rs, R ps rs → ps.length ≤ 2 ∧ pwp env pc24 (fun e s => (e = .normal ∨ e = .ret) ∧ s.res pr24 = some rs) (St.init ps)) : Spec Try.prog 24 R :=
  fn_sound hE eqsOK mixedOK Try.func24 bd24 cp24 (by kernel_rfl) (by kernel_rfl) hR

/-! interleave/interleaveref20.Valid -/
def pc30c0 : PC :=
 .seq (.reg false [⟨(some 108), .fld 4 (.t 1), none, []⟩,
            ⟨(some 109), .load none (.t 108), none, [0]⟩,
            ⟨(some 110), .bin .eql (.t 109) (.v (.int .i64 0)), none, [1]⟩,
            ⟨(some 111), .mv (.t 110), none, [2]⟩,
            ⟨(some 112), .fld 5 (.t 1), (some (111, true)), [3]⟩,
            ⟨(some 113), .load none (.t 112), (some (111, true)), [4, 3]⟩,
            ⟨(some 114), .bin .eql (.t 113) (.v (.int .i64 0)), (some (111, true)), [5, 3]⟩,
            ⟨(some 115), .pick (.t 111) (.t 114) (.v (.bool false)), none, [3, 6]⟩,
            ⟨(some 2), .mv (.t 115), none, [7, 3, 0, 1, 2, 3, 4, 5, 6, 7]⟩])
       (.ret)
def pc30c1 : PC :=
 .seq (.reg false [⟨(some 56), .fld 2 (.t 1), none, []⟩,
                 ⟨(some 57), .load none (.t 56), none, [0]⟩,
                 ⟨(some 58), .bin .eql (.t 57) (.v (.int .i64 0)), none, [1]⟩,
                 ⟨(some 59), .mv (.t 58), none, [2]⟩,
                 ⟨(some 60), .fld 3 (.t 1), (some (59, true)), [3]⟩,
                 ⟨(some 61), .load none (.t 60), (some (59, true)), [4, 3]⟩,
                 ⟨(some 62), .bin .eql (.t 61) (.v (.int .i64 0)), (some (59, true)), [5, 3]⟩,
                 ⟨(some 63), .pick (.t 59) (.t 62) (.v (.bool false)), none, [3, 6]⟩,
                 ⟨(some 64), .mv (.t 63), none, [7, 3]⟩,
                 ⟨(some 65), .fld 5 (.t 1), (some (64, true)), [8]⟩,
                 ⟨(some 66), .load none (.t 65), (some (64, true)), [9, 8]⟩,
                 ⟨(some 67), .bin .eql (.t 66) (.v (.int .i64 0)), (some (64, true)), [10, 8]⟩,
                 ⟨(some 68), .pick (.t 64) (.t 67) (.v (.bool false)), none, [8, 11]⟩,
                 ⟨(some 69), .mv (.t 68), none, [12, 8]⟩,
                 ⟨(some 70), .fld 4 (.t 1), (some (69, true)), [13]⟩,
                 ⟨(some 71), .load none (.t 70), (some (69, true)), [14, 13]⟩,
                 ⟨(some 72), .bin .gtr (.t 71) (.v (.int .i64 0)), (some (69, true)), [15, 13]⟩,
                 ⟨(some 73), .pick (.t 69) (.t 72) (.v (.bool false)), none, [13, 16]⟩,
                 ⟨(some 74), .mv (.t 73), none, [17, 13]⟩,
                 ⟨(some 75), .fld 4 (.t 1), (some (74, true)), [18]⟩,
                 ⟨(some 76), .load none (.t 75), (some (74, true)), [19, 18]⟩,
                 ⟨(some 77), .bin .lss (.t 76) (.v (.int .i64 8)), (some (74, true)), [20, 18]⟩,
                 ⟨(some 78), .pick (.t 74) (.t 77) (.v (.bool false)), none, [18, 21]⟩,
                 ⟨(some 2), .mv (.t 78), none, [22, 18, 0, 1, 2, 3, 4, 5, 6, 7, 8, 9, 10, 11, 12, 13, 14, 15, 16, 17, 18, 19, 20, 21, 22]⟩])
            (.ret)
def pc30c2 : PC :=
 .seq (.reg false [⟨(some 84), .fld 3 (.t 1), none, []⟩,
                    ⟨(some 85), .load none (.t 84), none, [0]⟩,
                    ⟨(some 86), .bin .eql (.t 85) (.v (.int .i64 0)), none, [1]⟩,
                    ⟨(some 87), .mv (.t 86), none, [2]⟩,
                    ⟨(some 88), .fld 5 (.t 1), (some (87, true)), [3]⟩,
                    ⟨(some 89), .load none (.t 88), (some (87, true)), [4, 3]⟩,
                    ⟨(some 90), .bin .leq (.t 89) (.v (.int .i64 64)), (some (87, true)), [5, 3]⟩,
                    ⟨(some 91), .pick (.t 87) (.t 90) (.v (.bool false)), none, [3, 6]⟩,
                    ⟨(some 2), .mv (.t 91), none, [7, 3, 0, 1, 2, 3, 4, 5, 6, 7]⟩])
               (.ret)
def pc30c3 : PC :=
 .seq (.reg false [⟨(some 95), .fld 3 (.t 1), none, []⟩,
                       ⟨(some 96), .load none (.t 95), none, [0]⟩,
                       ⟨(some 97), .bin .eql (.t 96) (.v (.int .i64 0)), none, [1]⟩,
                       ⟨(some 98), .mv (.t 97), none, [2]⟩,
                       ⟨(some 99), .fld 4 (.t 1), (some (98, true)), [3]⟩,
                       ⟨(some 100), .load none (.t 99), (some (98, true)), [4, 3]⟩,
                       ⟨(some 101), .bin .eql (.t 100) (.v (.int .i64 0)), (some (98, true)), [5, 3]⟩,
                       ⟨(some 102), .pick (.t 98) (.t 101) (.v (.bool false)), none, [3, 6]⟩,
                       ⟨(some 103), .mv (.t 102), none, [7, 3]⟩,
                       ⟨(some 104), .fld 5 (.t 1), (some (103, true)), [8]⟩,
                       ⟨(some 105), .load none (.t 104), (some (103, true)), [9, 8]⟩,
                       ⟨(some 106), .bin .leq (.t 105) (.v (.int .i64 64)), (some (103, true)), [10, 8]⟩,
                       ⟨(some 107), .pick (.t 103) (.t 106) (.v (.bool false)), none, [8, 11]⟩,
                       ⟨(some 2), .mv (.t 107), none, [12, 8, 0, 1, 2, 3, 4, 5, 6, 7, 8, 9, 10, 11, 12]⟩])
                  (.ret)
def pc30c4 : PC :=
 .seq (.seq (.reg false [⟨(some 93), .bin .eql (.t 53) (.v (.int .i64 19)), none, []⟩,
                     ⟨(some 92), .mv (.t 93), none, [0]⟩])
                (.cond (.t 92)
                  (.skip)
                  (.reg false [⟨(some 94), .bin .eql (.t 53) (.v (.int .i64 20)), none, []⟩,
                       ⟨(some 92), .mv (.t 94), none, [0]⟩])))
               (.cond (.t 92)
                 (pc30c3)
                 (.skip))
def pc30c5 : PC :=
 .seq (.seq (.reg false [⟨(some 80), .bin .eql (.t 53) (.v (.int .i64 15)), none, []⟩,
                  ⟨(some 79), .mv (.t 80), none, [0]⟩])
             (.cond (.t 79)
               (.skip)
               (.seq (.reg false [⟨(some 81), .bin .eql (.t 53) (.v (.int .i64 16)), none, []⟩,
                     ⟨(some 79), .mv (.t 81), none, [0]⟩])
                (.cond (.t 79)
                  (.skip)
                  (.seq (.reg false [⟨(some 82), .bin .eql (.t 53) (.v (.int .i64 17)), none, []⟩,
                        ⟨(some 79), .mv (.t 82), none, [0]⟩])
                   (.cond (.t 79)
                     (.skip)
                     (.reg false [⟨(some 83), .bin .eql (.t 53) (.v (.int .i64 18)), none, []⟩,
                          ⟨(some 79), .mv (.t 83), none, [0]⟩])))))))
            (.cond (.t 79)
              (pc30c2)
              (pc30c4))
def pc30c6 : PC :=
 .seq (.reg false [⟨(some 52), .fld 1 (.t 1), none, []⟩,
            ⟨(some 53), .load none (.t 52), none, [0]⟩])
       (.block 2 (.seq (.reg false [⟨(some 55), .bin .eql (.t 53) (.v (.int .i64 14)), none, []⟩,
              ⟨(some 54), .mv (.t 55), none, [0]⟩])
         (.cond (.t 54)
           (pc30c1)
           (pc30c5))))
def pc30c7 : PC :=
 .seq (pc30c6)
      (pc30c0)
def pc30c8 : PC :=
 .seq (.seq (.reg false [⟨(some 4), .mv (.v (.int .i64 0)), none, []⟩])
      (.block 0 (.loop (.seq (.seq (.reg false [⟨(some 34), .mv (.t 4), none, []⟩,
               ⟨(some 35), .mv (.t 3), none, []⟩,
               ⟨(some 36), .len (.t 35), none, [1]⟩,
               ⟨(some 37), .bin .lss (.t 34) (.t 36), none, [0, 2]⟩])
          (.cond (.t 37)
            (.skip)
            (.exit 0)))
         (.seq (.block 1 (.seq (.reg false [⟨(some 40), .mv (.t 3), none, []⟩,
                 ⟨(some 41), .mv (.t 4), none, []⟩,
                 ⟨(some 42), .ixs 1 (.t 40) (.t 41), none, [0, 1]⟩,
                 ⟨(some 43), .load none (.t 42), none, [2]⟩,
                 ⟨(some 44), .bin .lss (.t 43) (.v (.int .i64 0)), none, [3]⟩,
                 ⟨(some 45), .mv (.t 44), none, [4]⟩,
                 ⟨(some 46), .mv (.t 3), (some (45, false)), [5]⟩,
                 ⟨(some 47), .mv (.t 4), (some (45, false)), [5]⟩,
                 ⟨(some 48), .ixs 1 (.t 46) (.t 47), (some (45, false)), [6, 7, 5]⟩,
                 ⟨(some 49), .load none (.t 48), (some (45, false)), [8, 5]⟩,
                 ⟨(some 50), .bin .gtr (.t 49) (.v (.int .i64 2147483647)), (some (45, false)), [9, 5]⟩,
                 ⟨(some 51), .pick (.t 45) (.v (.bool true)) (.t 50), none, [5, 10]⟩])
            (.cond (.t 51)
              (.seq (.reg false [⟨(some 2), .mv (.v (.bool false)), none, []⟩])
               (.ret))
              (.skip))))
          (.reg false [⟨(some 38), .mv (.t 4), none, []⟩,
               ⟨(some 39), .bin .add (.t 38) (.v (.int .i64 1)), none, [0]⟩,
               ⟨(some 4), .mv (.t 39), none, [1, 0, 1]⟩]))))))
     (pc30c7)
def pc30c9 : PC :=
 .seq (.reg false [⟨(some 19), .fld 2 (.t 1), none, []⟩,
         ⟨(some 20), .load none (.t 19), none, [0]⟩,
         ⟨(some 21), .fld 3 (.t 1), none, []⟩,
         ⟨(some 22), .load none (.t 21), none, [2]⟩,
         ⟨(some 23), .fld 4 (.t 1), none, []⟩,
         ⟨(some 24), .load none (.t 23), none, [4]⟩,
         ⟨(some 25), .fld 5 (.t 1), none, []⟩,
         ⟨(some 26), .load none (.t 25), none, [6]⟩,
         ⟨(some 27), .fld 6 (.t 1), none, []⟩,
         ⟨(some 28), .load none (.t 27), none, [8]⟩,
         ⟨(some 29), .fld 7 (.t 1), none, []⟩,
         ⟨(some 30), .load none (.t 29), none, [10]⟩,
         ⟨(some 31), .fld 8 (.t 1), none, []⟩,
         ⟨(some 32), .load none (.t 31), none, [12]⟩,
         ⟨(some 33), .bslice 3 1 [(.int .i64 0), (.int .i64 0), (.int .i64 0), (.int .i64 0), (.int .i64 0), (.int .i64 0), (.int .i64 0)] 7 [(0, 1, (.t 20)), (1, 1, (.t 22)), (2, 1, (.t 24)), (3, 1, (.t 26)), (4, 1, (.t 28)), (5, 1, (.t 30)), (6, 1, (.t 32))], none, [1, 3, 5, 7, 9, 11, 13]⟩,
         ⟨(some 3), .mv (.t 33), none, [14, 0, 1, 2, 3, 4, 5, 6, 7, 8, 9, 10, 11, 12, 13, 14]⟩])
    (pc30c8)
def pc30 : PC :=
 .seq (.reg false [⟨(some 1), .box (.t 0), none, []⟩,
       ⟨(some 2), .mv (.v (.bool false)), none, []⟩])
  (.seq (.seq (.reg false [⟨(some 5), .fld 0 (.t 1), none, []⟩,
         ⟨(some 6), .load none (.t 5), none, [0]⟩,
         ⟨(some 7), .bin .lss (.t 6) (.v (.int .i64 0)), none, [1]⟩,
         ⟨(some 8), .mv (.t 7), none, [2]⟩,
         ⟨(some 9), .fld 0 (.t 1), (some (8, false)), [3]⟩,
         ⟨(some 10), .load none (.t 9), (some (8, false)), [4, 3]⟩,
         ⟨(some 11), .bin .geq (.t 10) (.v (.int .i64 8)), (some (8, false)), [5, 3]⟩,
         ⟨(some 12), .pick (.t 8) (.v (.bool true)) (.t 11), none, [3, 6]⟩,
         ⟨(some 13), .mv (.t 12), none, [7, 3]⟩,
         ⟨(some 14), .fld 1 (.t 1), (some (13, false)), [8]⟩,
         ⟨(some 15), .load none (.t 14), (some (13, false)), [9, 8]⟩,
         ⟨(some 16), .call 38 [(.t 15)], (some (13, false)), [10, 8, 8]⟩,
         ⟨(some 17), .bin .eql (.t 16) (.v (.string ⟨#[]⟩)), (some (13, false)), [11, 8]⟩,
         ⟨(some 18), .pick (.t 13) (.v (.bool true)) (.t 17), none, [8, 12]⟩])
    (.cond (.t 18)
      (.seq (.reg false [⟨(some 2), .mv (.v (.bool false)), none, []⟩])
       (.ret))
      (.skip)))
   (pc30c9))
def pr30 : List PR := [.t 2]
abbrev ms30_0 : List Nat := [34, 35, 36, 37, 40, 41, 42, 43, 44, 45, 46, 47, 48, 49, 50, 51, 2, 38, 39, 4]
abbrev os30_0 : List Nat := []
theorem bd30 : Try.f30.body = some (Try.f30.body.getD .skip) := by kernel_rfl
theorem cp30 : compC Try.prog Try.f30.ntmps eqsL (Try.f30.body.getD .skip) = some pc30 := by kernel_rfl
theorem sp30 [WInv] {env : Env} (hE : EnvOK Try.prog env) {R : List Pa → List Pa → Prop} (hR : ∀ ps rs, R ps rs → ps.length ≤ 116 ∧ pwp env pc30 (fun e s => (e = .normal ∨ e = .ret) ∧ s.res pr30 = some rs) (St.init ps)) : Spec Try.prog 30 R :=
  fn_sound hE eqsOK mixedOK Try.func30 bd30 cp30 (by kernel_rfl) (by kernel_rfl) hR

/-! interleave/interleaveref20.Channel -/
def pc32 : PC :=
 .seq (.reg false [⟨(some 2), .mv (.v (.bool false)), none, []⟩])
  (.seq (.reg false [⟨(some 3), .mv (.t 0), none, []⟩,
        ⟨(some 4), .bin .geq (.t 3) (.v (.int .i64 15)), none, [0]⟩,
        ⟨(some 5), .mv (.t 4), none, [1]⟩,
        ⟨(some 6), .mv (.t 0), (some (5, true)), [2]⟩,
        ⟨(some 7), .bin .leq (.t 6) (.v (.int .i64 20)), (some (5, true)), [3, 2]⟩,
        ⟨(some 8), .pick (.t 5) (.t 7) (.v (.bool false)), none, [2, 4]⟩,
        ⟨(some 2), .mv (.t 8), none, [5, 2, 0, 1, 2, 3, 4, 5]⟩])
   (.ret))
def pr32 : List PR := [.t 2]
theorem bd32 : Try.f32.body = some (Try.f32.body.getD .skip) := by kernel_rfl
theorem cp32 : compC Try.prog Try.f32.ntmps eqsL (Try.f32.body.getD .skip) = some pc32 := by kernel_rfl
theorem sp32 [WInv] {env : Env} (hE : EnvOK Try.prog env) {R : List Pa → List Pa → Prop} (hR : ∀ ps rs, R ps rs → ps.length ≤ 9 ∧ pwp env pc32 (fun e s => (e = .normal ∨ e = .ret) ∧ s.res pr32 = some rs) (St.init ps)) : Spec Try.prog 32 R :=
  fn_sound hE eqsOK mixedOK Try.func32 bd32 cp32 (by kernel_rfl) (by kernel_rfl) hR

/-! interleave/interleaveref20.Name -/
def pc38 : PC :=
 .seq (.reg false [⟨(some 2), .mv (.v (.string ⟨#[]⟩)), none, []⟩])
  (.seq (.reg false [⟨(some 4), .bslice 9 1 [(.string ⟨#[]⟩), (.string ⟨#[]⟩), (.string ⟨#[]⟩), (.string ⟨#[]⟩), (.string ⟨#[]⟩), (.string ⟨#[]⟩), (.string ⟨#[]⟩), (.string ⟨#[]⟩), (.string ⟨#[]⟩), (.string ⟨#[]⟩), (.string ⟨#[]⟩), (.string ⟨#[]⟩), (.string ⟨#[]⟩), (.string ⟨#[]⟩), (.string ⟨#[]⟩), (.string ⟨#[]⟩), (.string ⟨#[]⟩), (.string ⟨#[]⟩), (.string ⟨#[]⟩), (.string ⟨#[]⟩), (.string ⟨#[]⟩)] 21 [(0, 1, (.v (.string ⟨#[]⟩))), (1, 1, (.v (.string ⟨#[114, 101, 97, 100]⟩))), (2, 1, (.v (.string ⟨#[119, 114, 105, 116, 101]⟩))), (3, 1, (.v (.string ⟨#[97, 116, 111, 109, 105, 99, 45, 114, 101, 97, 100]⟩))), (4, 1, (.v (.string ⟨#[97, 116, 111, 109, 105, 99, 45, 119, 114, 105, 116, 101]⟩))), (5, 1, (.v (.string ⟨#[97, 116, 111, 109, 105, 99, 45, 98, 111, 116, 104]⟩))), (6, 1, (.v (.string ⟨#[108, 111, 99, 107]⟩))), (7, 1, (.v (.string ⟨#[117, 110, 108, 111, 99, 107]⟩))), (8, 1, (.v (.string ⟨#[114, 108, 111, 99, 107]⟩))), (9, 1, (.v (.string ⟨#[114, 117, 110, 108, 111, 99, 107]⟩))), (10, 1, (.v (.string ⟨#[100, 111, 110, 101]⟩))), (11, 1, (.v (.string ⟨#[119, 97, 105, 116]⟩))), (12, 1, (.v (.string ⟨#[111, 110, 99, 101, 45, 101, 110, 100]⟩))), (13, 1, (.v (.string ⟨#[111, 110, 99, 101, 45, 115, 101, 101, 110]⟩))), (14, 1, (.v (.string ⟨#[103, 111]⟩))), (15, 1, (.v (.string ⟨#[115, 101, 110, 100, 45, 115, 116, 97, 114, 116]⟩))), (16, 1, (.v (.string ⟨#[115, 101, 110, 100, 45, 101, 110, 100]⟩))), (17, 1, (.v (.string ⟨#[114, 101, 99, 118, 45, 115, 116, 97, 114, 116]⟩))), (18, 1, (.v (.string ⟨#[114, 101, 99, 118, 45, 101, 110, 100]⟩))), (19, 1, (.v (.string ⟨#[99, 108, 111, 115, 101]⟩))), (20, 1, (.v (.string ⟨#[114, 101, 99, 118, 45, 99, 108, 111, 115, 101, 100]⟩)))], none, []⟩,
        ⟨(some 3), .mv (.t 4), none, [0, 0]⟩])
   (.seq (.seq (.reg false [⟨(some 5), .mv (.t 0), none, []⟩,
          ⟨(some 6), .bin .lss (.t 5) (.v (.int .i64 1)), none, [0]⟩,
          ⟨(some 7), .mv (.t 6), none, [1]⟩,
          ⟨(some 8), .mv (.t 0), (some (7, false)), [2]⟩,
          ⟨(some 9), .bin .gtr (.t 8) (.v (.int .i64 20)), (some (7, false)), [3, 2]⟩,
          ⟨(some 10), .pick (.t 7) (.v (.bool true)) (.t 9), none, [2, 4]⟩])
     (.cond (.t 10)
       (.seq (.reg false [⟨(some 2), .mv (.v (.string ⟨#[]⟩)), none, []⟩])
        (.ret))
       (.skip)))
    (.seq (.reg false [⟨(some 11), .mv (.t 3), none, []⟩,
          ⟨(some 12), .mv (.t 0), none, []⟩,
          ⟨(some 13), .ixs 1 (.t 11) (.t 12), none, [0, 1]⟩,
          ⟨(some 14), .load none (.t 13), none, [2]⟩,
          ⟨(some 2), .mv (.t 14), none, [3, 0, 1, 2, 3]⟩])
     (.ret))))
def pr38 : List PR := [.t 2]
theorem bd38 : Try.f38.body = some (Try.f38.body.getD .skip) := by kernel_rfl
theorem cp38 : compC Try.prog Try.f38.ntmps eqsL (Try.f38.body.getD .skip) = some pc38 := by kernel_rfl
theorem sp38 [WInv] {env : Env} (hE : EnvOK Try.prog env) {R : List Pa → List Pa → Prop} (hR : ∀ ps rs, R ps rs → ps.length ≤ 15 ∧ pwp env pc38 (fun e s => (e = .normal ∨ e = .ret) ∧ s.res pr38 = some rs) (St.init ps)) : Spec Try.prog 38 R :=
  fn_sound hE eqsOK mixedOK Try.func38 bd38 cp38 (by kernel_rfl) (by kernel_rfl) hR

/-! interleave/interleavelaw35.StampMatchesReference -/
def pc3 : PC :=
 .seq (.reg false [⟨(some 2), .mv (.v (.bool false)), none, []⟩])
  (.seq (.seq (.reg false [⟨(some 7), .call 9 [], none, []⟩,
         ⟨(some 8), .un .not (.t 7), none, [0]⟩])
    (.cond (.t 8)
      (.seq (.reg false [⟨(some 2), .mv (.v (.bool false)), none, []⟩])
       (.ret))
      (.skip)))
   (.seq (.seq (.reg false [⟨(some 9), .mv (.t 0), none, []⟩,
          ⟨(some 10), .len (.t 9), none, [0]⟩,
          ⟨(some 11), .bin .gtr (.t 10) (.v (.int .i64 24)), none, [1]⟩])
     (.cond (.t 11)
       (.seq (.reg false [⟨(some 2), .mv (.v (.bool true)), none, []⟩])
        (.ret))
       (.skip)))
    (.seq (.reg false [⟨(some 13), .mv (.t 0), none, []⟩,
          ⟨(some 14), .call 10 [(.t 13)], none, [0]⟩,
          ⟨(some 12), .mv (.t 14), none, [1]⟩,
          ⟨(some 15), .ext (.t 12) 0, none, [2]⟩,
          ⟨(some 16), .ext (.t 12) 1, none, [2]⟩,
          ⟨(some 3), .mv (.t 15), none, [3, 1, 0, 1, 2, 3]⟩,
          ⟨(some 4), .mv (.t 16), none, [4, 5, 0, 1, 2, 3, 4, 5]⟩])
     (.seq (.reg false [⟨(some 18), .mv (.t 0), none, []⟩,
           ⟨(some 19), .call 11 [(.t 18)], none, [0]⟩,
           ⟨(some 17), .mv (.t 19), none, [1]⟩,
           ⟨(some 20), .ext (.t 17) 0, none, [2]⟩,
           ⟨(some 21), .ext (.t 17) 1, none, [2]⟩,
           ⟨(some 5), .mv (.t 20), none, [3, 1, 0, 1, 2, 3]⟩,
           ⟨(some 6), .mv (.t 21), none, [4, 5, 0, 1, 2, 3, 4, 5]⟩])
      (.seq (.reg false [⟨(some 22), .mv (.t 4), none, []⟩,
            ⟨(some 23), .mv (.t 6), none, []⟩,
            ⟨(some 24), .bin .eql (.t 22) (.t 23), none, [0, 1]⟩,
            ⟨(some 25), .mv (.t 24), none, [2]⟩,
            ⟨(some 26), .mv (.t 3), (some (25, true)), [3]⟩,
            ⟨(some 27), .mv (.t 5), (some (25, true)), [3]⟩,
            ⟨(some 28), .call 12 [(.t 26), (.t 27)], (some (25, true)), [4, 5, 3, 3]⟩,
            ⟨(some 29), .pick (.t 25) (.t 28) (.v (.bool false)), none, [3, 6]⟩,
            ⟨(some 2), .mv (.t 29), none, [7, 6, 0, 1, 2, 3, 4, 5, 6, 7]⟩])
       (.ret))))))
def pr3 : List PR := [.t 2]
theorem bd3 : Try.f3.body = some (Try.f3.body.getD .skip) := by kernel_rfl
theorem cp3 : compC Try.prog Try.f3.ntmps eqsL (Try.f3.body.getD .skip) = some pc3 := by kernel_rfl
theorem sp3 [WInv] {env : Env} (hE : EnvOK Try.prog env) {R : List Pa → List Pa → Prop} (hR : ∀ ps rs, R ps rs → ps.length ≤ 30 ∧ pwp env pc3 (fun e s => (e = .normal ∨ e = .ret) ∧ s.res pr3 = some rs) (St.init ps)) : Spec Try.prog 3 R :=
  fn_sound hE eqsOK mixedOK Try.func3 bd3 cp3 (by kernel_rfl) (by kernel_rfl) hR

/-! interleave/interleavelaw35.StampCharacterizesOrder -/
def pc4 : PC :=
 .seq (.reg false [⟨(some 2), .mv (.v (.bool false)), none, []⟩])
  (.seq (.seq (.reg false [⟨(some 10), .call 9 [], none, []⟩,
         ⟨(some 11), .un .not (.t 10), none, [0]⟩])
    (.cond (.t 11)
      (.seq (.reg false [⟨(some 2), .mv (.v (.bool false)), none, []⟩])
       (.ret))
      (.skip)))
   (.seq (.seq (.reg false [⟨(some 12), .mv (.t 0), none, []⟩,
          ⟨(some 13), .len (.t 12), none, [0]⟩,
          ⟨(some 14), .bin .gtr (.t 13) (.v (.int .i64 24)), none, [1]⟩,
          ⟨(some 15), .mv (.t 14), none, [2]⟩,
          ⟨(some 16), .mv (.t 0), (some (15, false)), [3]⟩,
          ⟨(some 17), .call 13 [(.t 16)], (some (15, false)), [4, 3, 3]⟩,
          ⟨(some 18), .un .not (.t 17), (some (15, false)), [5, 3]⟩,
          ⟨(some 19), .pick (.t 15) (.v (.bool true)) (.t 18), none, [3, 6]⟩])
     (.cond (.t 19)
       (.seq (.reg false [⟨(some 2), .mv (.v (.bool true)), none, []⟩])
        (.ret))
       (.skip)))
    (.seq (.reg false [⟨(some 21), .mv (.t 0), none, []⟩,
          ⟨(some 22), .call 10 [(.t 21)], none, [0]⟩,
          ⟨(some 20), .mv (.t 22), none, [1]⟩,
          ⟨(some 23), .ext (.t 20) 0, none, [2]⟩,
          ⟨(some 24), .ext (.t 20) 1, none, [2]⟩,
          ⟨(some 3), .mv (.t 23), none, [3, 1, 0, 1, 2, 3]⟩,
          ⟨(some 4), .mv (.t 24), none, [4, 5, 0, 1, 2, 3, 4, 5]⟩])
     (.seq (.seq (.reg false [⟨(some 25), .mv (.t 4), none, []⟩,
            ⟨(some 26), .bin .neq (.t 25) (.v (.int .i64 0)), none, [0]⟩,
            ⟨(some 27), .mv (.t 26), none, [1]⟩,
            ⟨(some 28), .mv (.t 3), (some (27, false)), [2]⟩,
            ⟨(some 29), .len (.t 28), (some (27, false)), [3, 2]⟩,
            ⟨(some 30), .mv (.t 0), (some (27, false)), [2]⟩,
            ⟨(some 31), .len (.t 30), (some (27, false)), [5, 2]⟩,
            ⟨(some 32), .bin .neq (.t 29) (.t 31), (some (27, false)), [4, 6, 2]⟩,
            ⟨(some 33), .pick (.t 27) (.v (.bool true)) (.t 32), none, [2, 7]⟩])
       (.cond (.t 33)
         (.seq (.reg false [⟨(some 2), .mv (.v (.bool false)), none, []⟩])
          (.ret))
         (.skip)))
      (.seq (.reg false [⟨(some 34), .mv (.t 0), none, []⟩,
            ⟨(some 35), .call 14 [(.t 34)], none, [0]⟩,
            ⟨(some 5), .mv (.t 35), none, [1, 1, 0, 1]⟩])
       (.seq (.seq (.reg false [⟨(some 6), .mv (.v (.int .i64 0)), none, []⟩])
         (.block 0 (.loop (.seq (.seq (.reg false [⟨(some 36), .mv (.t 6), none, []⟩,
                  ⟨(some 37), .mv (.t 0), none, []⟩,
                  ⟨(some 38), .len (.t 37), none, [1]⟩,
                  ⟨(some 39), .bin .lss (.t 36) (.t 38), none, [0, 2]⟩])
             (.cond (.t 39)
               (.skip)
               (.exit 0)))
            (.seq (.block 1 (.seq (.reg false [⟨(some 7), .mv (.v (.int .i64 0)), none, []⟩])
               (.block 2 (.loop (.seq (.seq (.reg false [⟨(some 42), .mv (.t 7), none, []⟩,
                        ⟨(some 43), .mv (.t 0), none, []⟩,
                        ⟨(some 44), .len (.t 43), none, [1]⟩,
                        ⟨(some 45), .bin .lss (.t 42) (.t 44), none, [0, 2]⟩])
                   (.cond (.t 45)
                     (.skip)
                     (.exit 2)))
                  (.seq (.block 3 (.seq (.seq (.reg false [⟨(some 48), .mv (.t 6), none, []⟩,
                           ⟨(some 49), .mv (.t 7), none, []⟩,
                           ⟨(some 50), .bin .eql (.t 48) (.t 49), none, [0, 1]⟩])
                      (.cond (.t 50)
                        (.exit 3)
                        (.skip)))
                     (.seq (.reg false [⟨(some 51), .mv (.t 0), none, []⟩,
                           ⟨(some 52), .mv (.t 6), none, []⟩,
                           ⟨(some 53), .ixs 9 (.t 51) (.t 52), none, [0, 1]⟩,
                           ⟨(some 54), .fld 0 (.t 53), none, [2]⟩,
                           ⟨(some 55), .load none (.t 54), none, [3]⟩,
                           ⟨(some 8), .mv (.t 55), none, [4, 0, 1, 2, 3, 4]⟩])
                      (.seq (.seq (.reg true [⟨(some 56), .mv (.t 5), none, []⟩,
                             ⟨(some 57), .mv (.t 6), none, []⟩,
                             ⟨(some 58), .ixs 1 (.t 56) (.t 57), none, [0, 1]⟩,
                             ⟨(some 59), .load none (.t 58), none, [2]⟩,
                             ⟨(some 60), .mv (.t 7), none, []⟩,
                             ⟨(some 61), .ixs 1 (.t 59) (.t 60), none, [3, 4]⟩,
                             ⟨(some 62), .load none (.t 61), none, [5]⟩,
                             ⟨(some 63), .mv (.t 3), none, []⟩,
                             ⟨(some 64), .mv (.t 6), none, []⟩,
                             ⟨(some 65), .mv (.t 8), none, []⟩,
                             ⟨(some 66), .ixs 8 (.t 63) (.t 64), none, [7, 8]⟩,
                             ⟨(some 67), .ixa 8 1 (.t 66) (.t 65), none, [10, 9]⟩,
                             ⟨(some 68), .load none (.t 67), none, [11]⟩,
                             ⟨(some 69), .mv (.t 3), none, []⟩,
                             ⟨(some 70), .mv (.t 7), none, []⟩,
                             ⟨(some 71), .mv (.t 8), none, []⟩,
                             ⟨(some 72), .ixs 8 (.t 69) (.t 70), none, [13, 14]⟩,
                             ⟨(some 73), .ixa 8 1 (.t 72) (.t 71), none, [16, 15]⟩,
                             ⟨(some 74), .load none (.t 73), none, [17]⟩,
                             ⟨(some 75), .bin .leq (.t 68) (.t 74), none, [12, 18]⟩,
                             ⟨(some 76), .eqb true (.t 62) (.t 75), none, [6, 19]⟩,
                             ⟨(some 77), .mv (.t 76), none, [20]⟩,
                             ⟨(some 78), .mv (.t 3), (some (77, false)), [21]⟩,
                             ⟨(some 79), .mv (.t 6), (some (77, false)), [21]⟩,
                             ⟨(some 80), .ixs 8 (.t 78) (.t 79), (some (77, false)), [22, 23, 21]⟩,
                             ⟨(some 81), .load (some 8) (.t 80), (some (77, false)), [24, 21]⟩,
                             ⟨(some 82), .mv (.t 3), (some (77, false)), [21]⟩,
                             ⟨(some 83), .mv (.t 7), (some (77, false)), [21]⟩,
                             ⟨(some 84), .ixs 8 (.t 82) (.t 83), (some (77, false)), [26, 27, 21]⟩,
                             ⟨(some 85), .load (some 8) (.t 84), (some (77, false)), [28, 21]⟩,
                             ⟨(some 86), .eqs false [false, false, false, false, false, false, false, false] (.t 81) (.t 85), (some (77, false)), [25, 29, 21]⟩,
                             ⟨(some 87), .pick (.t 77) (.v (.bool true)) (.t 86), none, [21, 30]⟩])
                        (.cond (.t 87)
                          (.seq (.reg false [⟨(some 2), .mv (.v (.bool false)), none, []⟩])
                           (.ret))
                          (.skip)))
                       (.seq (.reg false [⟨(some 9), .mv (.v (.int .i64 0)), none, []⟩])
                        (.block 4 (.loop (.seq (.seq (.reg false [⟨(some 88), .mv (.t 5), none, []⟩,
                                 ⟨(some 89), .mv (.t 6), none, []⟩,
                                 ⟨(some 90), .ixs 1 (.t 88) (.t 89), none, [0, 1]⟩,
                                 ⟨(some 91), .load none (.t 90), none, [2]⟩,
                                 ⟨(some 92), .mv (.t 7), none, []⟩,
                                 ⟨(some 93), .ixs 1 (.t 91) (.t 92), none, [3, 4]⟩,
                                 ⟨(some 94), .load none (.t 93), none, [5]⟩,
                                 ⟨(some 95), .mv (.t 94), none, [6]⟩,
                                 ⟨(some 96), .mv (.t 9), (some (95, true)), [7]⟩,
                                 ⟨(some 97), .bin .lss (.t 96) (.v (.int .i64 8)), (some (95, true)), [8, 7]⟩,
                                 ⟨(some 98), .pick (.t 95) (.t 97) (.v (.bool false)), none, [7, 9]⟩])
                            (.cond (.t 98)
                              (.skip)
                              (.exit 4)))
                           (.seq (.block 5 (.seq (.reg true [⟨(some 101), .mv (.t 3), none, []⟩,
                                   ⟨(some 102), .mv (.t 6), none, []⟩,
                                   ⟨(some 103), .mv (.t 9), none, []⟩,
                                   ⟨(some 104), .ixs 8 (.t 101) (.t 102), none, [0, 1]⟩,
                                   ⟨(some 105), .ixa 8 1 (.t 104) (.t 103), none, [3, 2]⟩,
                                   ⟨(some 106), .load none (.t 105), none, [4]⟩,
                                   ⟨(some 107), .mv (.t 3), none, []⟩,
                                   ⟨(some 108), .mv (.t 7), none, []⟩,
                                   ⟨(some 109), .mv (.t 9), none, []⟩,
                                   ⟨(some 110), .ixs 8 (.t 107) (.t 108), none, [6, 7]⟩,
                                   ⟨(some 111), .ixa 8 1 (.t 110) (.t 109), none, [9, 8]⟩,
                                   ⟨(some 112), .load none (.t 111), none, [10]⟩,
                                   ⟨(some 113), .bin .gtr (.t 106) (.t 112), none, [5, 11]⟩])
                              (.cond (.t 113)
                                (.seq (.reg false [⟨(some 2), .mv (.v (.bool false)), none, []⟩])
                                 (.ret))
                                (.skip))))
                            (.reg false [⟨(some 99), .mv (.t 9), none, []⟩,
                                 ⟨(some 100), .bin .add (.t 99) (.v (.int .i64 1)), none, [0]⟩,
                                 ⟨(some 9), .mv (.t 100), none, [1, 0, 1]⟩]))))))))))
                   (.reg false [⟨(some 46), .mv (.t 7), none, []⟩,
                        ⟨(some 47), .bin .add (.t 46) (.v (.int .i64 1)), none, [0]⟩,
                        ⟨(some 7), .mv (.t 47), none, [1, 0, 1]⟩])))))))
             (.reg false [⟨(some 40), .mv (.t 6), none, []⟩,
                  ⟨(some 41), .bin .add (.t 40) (.v (.int .i64 1)), none, [0]⟩,
                  ⟨(some 6), .mv (.t 41), none, [1, 0, 1]⟩]))))))
        (.seq (.reg false [⟨(some 2), .mv (.v (.bool true)), none, []⟩])
         (.ret))))))))
def pr4 : List PR := [.t 2]
abbrev ms4_0 : List Nat := [36, 37, 38, 39, 7, 42, 43, 44, 45, 48, 49, 50, 51, 52, 53, 54, 55, 8, 56, 57, 58, 59, 60, 61, 62, 63, 64, 65, 66, 67, 68, 69, 70, 71, 72, 73, 74, 75, 76, 77, 78, 79, 80, 81, 82, 83, 84, 85, 86, 87, 2, 9, 88, 89, 90, 91, 92, 93, 94, 95, 96, 97, 98, 101, 102, 103, 104, 105, 106, 107, 108, 109, 110, 111, 112, 113, 99, 100, 46, 47, 40, 41, 6]
abbrev os4_0 : List Nat := []
abbrev ms4_1 : List Nat := [42, 43, 44, 45, 48, 49, 50, 51, 52, 53, 54, 55, 8, 56, 57, 58, 59, 60, 61, 62, 63, 64, 65, 66, 67, 68, 69, 70, 71, 72, 73, 74, 75, 76, 77, 78, 79, 80, 81, 82, 83, 84, 85, 86, 87, 2, 9, 88, 89, 90, 91, 92, 93, 94, 95, 96, 97, 98, 101, 102, 103, 104, 105, 106, 107, 108, 109, 110, 111, 112, 113, 99, 100, 46, 47, 7]
abbrev os4_1 : List Nat := []
abbrev ms4_2 : List Nat := [88, 89, 90, 91, 92, 93, 94, 95, 96, 97, 98, 101, 102, 103, 104, 105, 106, 107, 108, 109, 110, 111, 112, 113, 2, 99, 100, 9]
abbrev os4_2 : List Nat := []
theorem bd4 : Try.f4.body = some (Try.f4.body.getD .skip) := by kernel_rfl
theorem cp4 : compC Try.prog Try.f4.ntmps eqsL (Try.f4.body.getD .skip) = some pc4 := by kernel_rfl
theorem sp4 [WInv] {env : Env} (hE : EnvOK Try.prog env) {R : List Pa → List Pa → Prop} (hR : ∀ ps rs, R ps rs → ps.length ≤ 114 ∧ pwp env pc4 (fun e s => (e = .normal ∨ e = .ret) ∧ s.res pr4 = some rs) (St.init ps)) : Spec Try.prog 4 R :=
  fn_sound hE eqsOK mixedOK Try.func4 bd4 cp4 (by kernel_rfl) (by kernel_rfl) hR

/-! interleave/interleavelaw35.StampCountsOwnEvents -/
def pc5 : PC :=
 .seq (.reg false [⟨(some 2), .mv (.v (.bool false)), none, []⟩])
  (.seq (.seq (.reg false [⟨(some 9), .call 9 [], none, []⟩,
         ⟨(some 10), .un .not (.t 9), none, [0]⟩])
    (.cond (.t 10)
      (.seq (.reg false [⟨(some 2), .mv (.v (.bool false)), none, []⟩])
       (.ret))
      (.skip)))
   (.seq (.seq (.reg false [⟨(some 11), .mv (.t 0), none, []⟩,
          ⟨(some 12), .len (.t 11), none, [0]⟩,
          ⟨(some 13), .bin .gtr (.t 12) (.v (.int .i64 60)), none, [1]⟩,
          ⟨(some 14), .mv (.t 13), none, [2]⟩,
          ⟨(some 15), .mv (.t 0), (some (14, false)), [3]⟩,
          ⟨(some 16), .call 13 [(.t 15)], (some (14, false)), [4, 3, 3]⟩,
          ⟨(some 17), .un .not (.t 16), (some (14, false)), [5, 3]⟩,
          ⟨(some 18), .pick (.t 14) (.v (.bool true)) (.t 17), none, [3, 6]⟩])
     (.cond (.t 18)
       (.seq (.reg false [⟨(some 2), .mv (.v (.bool true)), none, []⟩])
        (.ret))
       (.skip)))
    (.seq (.reg false [⟨(some 20), .mv (.t 0), none, []⟩,
          ⟨(some 21), .call 10 [(.t 20)], none, [0]⟩,
          ⟨(some 19), .mv (.t 21), none, [1]⟩,
          ⟨(some 22), .ext (.t 19) 0, none, [2]⟩,
          ⟨(some 23), .ext (.t 19) 1, none, [2]⟩,
          ⟨(some 3), .mv (.t 22), none, [3, 1, 0, 1, 2, 3]⟩,
          ⟨(some 4), .mv (.t 23), none, [4, 5, 0, 1, 2, 3, 4, 5]⟩])
     (.seq (.seq (.reg false [⟨(some 24), .mv (.t 4), none, []⟩,
            ⟨(some 25), .bin .neq (.t 24) (.v (.int .i64 0)), none, [0]⟩,
            ⟨(some 26), .mv (.t 25), none, [1]⟩,
            ⟨(some 27), .mv (.t 3), (some (26, false)), [2]⟩,
            ⟨(some 28), .len (.t 27), (some (26, false)), [3, 2]⟩,
            ⟨(some 29), .mv (.t 0), (some (26, false)), [2]⟩,
            ⟨(some 30), .len (.t 29), (some (26, false)), [5, 2]⟩,
            ⟨(some 31), .bin .neq (.t 28) (.t 30), (some (26, false)), [4, 6, 2]⟩,
            ⟨(some 32), .pick (.t 26) (.v (.bool true)) (.t 31), none, [2, 7]⟩])
       (.cond (.t 32)
         (.seq (.reg false [⟨(some 2), .mv (.v (.bool false)), none, []⟩])
          (.ret))
         (.skip)))
      (.seq (.reg false [⟨(some 5), .new [(.int .i64 0), (.int .i64 0), (.int .i64 0), (.int .i64 0), (.int .i64 0), (.int .i64 0), (.int .i64 0), (.int .i64 0), (.int .i64 0), (.int .i64 0), (.int .i64 0), (.int .i64 0), (.int .i64 0), (.int .i64 0), (.int .i64 0), (.int .i64 0), (.int .i64 0), (.int .i64 0), (.int .i64 0), (.int .i64 0), (.int .i64 0), (.int .i64 0), (.int .i64 0), (.int .i64 0), (.int .i64 0), (.int .i64 0), (.int .i64 0), (.int .i64 0), (.int .i64 0), (.int .i64 0), (.int .i64 0), (.int .i64 0), (.int .i64 0), (.int .i64 0), (.int .i64 0), (.int .i64 0), (.int .i64 0), (.int .i64 0), (.int .i64 0), (.int .i64 0), (.int .i64 0), (.int .i64 0), (.int .i64 0), (.int .i64 0), (.int .i64 0), (.int .i64 0), (.int .i64 0), (.int .i64 0), (.int .i64 0), (.int .i64 0), (.int .i64 0), (.int .i64 0), (.int .i64 0), (.int .i64 0), (.int .i64 0), (.int .i64 0), (.int .i64 0), (.int .i64 0), (.int .i64 0), (.int .i64 0), (.int .i64 0), (.int .i64 0), (.int .i64 0), (.int .i64 0)], none, []⟩])
       (.seq (.seq (.reg false [⟨(some 6), .mv (.v (.int .i64 0)), none, []⟩])
         (.block 0 (.loop (.seq (.seq (.reg false [⟨(some 33), .mv (.t 6), none, []⟩,
                  ⟨(some 34), .mv (.t 0), none, []⟩,
                  ⟨(some 35), .len (.t 34), none, [1]⟩,
                  ⟨(some 36), .bin .lss (.t 33) (.t 35), none, [0, 2]⟩])
             (.cond (.t 36)
               (.skip)
               (.exit 0)))
            (.seq (.block 1 (.seq (.reg false [⟨(some 39), .mv (.t 0), none, []⟩,
                    ⟨(some 40), .mv (.t 6), none, []⟩,
                    ⟨(some 41), .ixs 9 (.t 39) (.t 40), none, [0, 1]⟩,
                    ⟨(some 42), .fld 0 (.t 41), none, [2]⟩,
                    ⟨(some 43), .load none (.t 42), none, [3]⟩,
                    ⟨(some 7), .mv (.t 43), none, [4, 0, 1, 2, 3, 4]⟩])
               (.seq (.seq (.reg true [⟨(some 44), .mv (.t 3), none, []⟩,
                      ⟨(some 45), .mv (.t 6), none, []⟩,
                      ⟨(some 46), .mv (.t 7), none, []⟩,
                      ⟨(some 47), .ixs 8 (.t 44) (.t 45), none, [0, 1]⟩,
                      ⟨(some 48), .ixa 8 1 (.t 47) (.t 46), none, [3, 2]⟩,
                      ⟨(some 49), .load none (.t 48), none, [4]⟩,
                      ⟨(some 50), .mv (.t 7), none, []⟩,
                      ⟨(some 51), .mv (.t 7), none, []⟩,
                      ⟨(some 52), .ixa 8 8 (.t 5) (.t 50), none, [6]⟩,
                      ⟨(some 53), .ixa 8 1 (.t 52) (.t 51), none, [8, 7]⟩,
                      ⟨(some 54), .load none (.t 53), none, [9]⟩,
                      ⟨(some 55), .bin .add (.t 54) (.v (.int .i64 1)), none, [10]⟩,
                      ⟨(some 56), .bin .neq (.t 49) (.t 55), none, [5, 11]⟩])
                 (.cond (.t 56)
                   (.seq (.reg false [⟨(some 2), .mv (.v (.bool false)), none, []⟩])
                    (.ret))
                   (.skip)))
                (.seq (.seq (.reg false [⟨(some 8), .mv (.v (.int .i64 0)), none, []⟩])
                  (.block 2 (.loop (.seq (.seq (.reg false [⟨(some 57), .mv (.t 8), none, []⟩,
                           ⟨(some 58), .bin .lss (.t 57) (.v (.int .i64 8)), none, [0]⟩])
                      (.cond (.t 58)
                        (.skip)
                        (.exit 2)))
                     (.seq (.block 3 (.seq (.reg true [⟨(some 61), .mv (.t 3), none, []⟩,
                             ⟨(some 62), .mv (.t 6), none, []⟩,
                             ⟨(some 63), .mv (.t 8), none, []⟩,
                             ⟨(some 64), .ixs 8 (.t 61) (.t 62), none, [0, 1]⟩,
                             ⟨(some 65), .ixa 8 1 (.t 64) (.t 63), none, [3, 2]⟩,
                             ⟨(some 66), .load none (.t 65), none, [4]⟩,
                             ⟨(some 67), .mv (.t 7), none, []⟩,
                             ⟨(some 68), .mv (.t 8), none, []⟩,
                             ⟨(some 69), .ixa 8 8 (.t 5) (.t 67), none, [6]⟩,
                             ⟨(some 70), .ixa 8 1 (.t 69) (.t 68), none, [8, 7]⟩,
                             ⟨(some 71), .load none (.t 70), none, [9]⟩,
                             ⟨(some 72), .bin .lss (.t 66) (.t 71), none, [5, 10]⟩,
                             ⟨(some 73), .mv (.t 72), none, [11]⟩,
                             ⟨(some 74), .mv (.t 8), (some (73, false)), [12]⟩,
                             ⟨(some 75), .mv (.t 7), (some (73, false)), [12]⟩,
                             ⟨(some 76), .bin .neq (.t 74) (.t 75), (some (73, false)), [13, 14, 12]⟩,
                             ⟨(some 77), .mv (.t 76), (some (73, false)), [15, 12, 12]⟩,
                             ⟨(some 78), .mv (.t 3), (some (77, true)), [16]⟩,
                             ⟨(some 79), .mv (.t 6), (some (77, true)), [16]⟩,
                             ⟨(some 80), .mv (.t 8), (some (77, true)), [16]⟩,
                             ⟨(some 81), .ixs 8 (.t 78) (.t 79), (some (77, true)), [17, 18, 16]⟩,
                             ⟨(some 82), .ixa 8 1 (.t 81) (.t 80), (some (77, true)), [20, 19, 16]⟩,
                             ⟨(some 83), .load none (.t 82), (some (77, true)), [21, 16]⟩,
                             ⟨(some 84), .mv (.t 8), (some (77, true)), [16]⟩,
                             ⟨(some 85), .mv (.t 8), (some (77, true)), [16]⟩,
                             ⟨(some 86), .ixa 8 8 (.t 5) (.t 84), (some (77, true)), [23, 16]⟩,
                             ⟨(some 87), .ixa 8 1 (.t 86) (.t 85), (some (77, true)), [25, 24, 16]⟩,
                             ⟨(some 88), .load none (.t 87), (some (77, true)), [26, 16]⟩,
                             ⟨(some 89), .bin .gtr (.t 83) (.t 88), (some (77, true)), [22, 27, 16]⟩,
                             ⟨(some 90), .pick (.t 77) (.t 89) (.v (.bool false)), (some (73, false)), [16, 28, 12]⟩,
                             ⟨(some 91), .pick (.t 73) (.v (.bool true)) (.t 90), none, [12, 29]⟩])
                        (.cond (.t 91)
                          (.seq (.reg false [⟨(some 2), .mv (.v (.bool false)), none, []⟩])
                           (.ret))
                          (.skip))))
                      (.reg false [⟨(some 59), .mv (.t 8), none, []⟩,
                           ⟨(some 60), .bin .add (.t 59) (.v (.int .i64 1)), none, [0]⟩,
                           ⟨(some 8), .mv (.t 60), none, [1, 0, 1]⟩]))))))
                 (.reg false [⟨(some 92), .mv (.t 7), none, []⟩,
                      ⟨(some 93), .mv (.t 3), none, []⟩,
                      ⟨(some 94), .mv (.t 6), none, []⟩,
                      ⟨(some 95), .ixs 8 (.t 93) (.t 94), none, [1, 2]⟩,
                      ⟨(some 96), .load (some 8) (.t 95), none, [3]⟩,
                      ⟨(some 97), .ixa 8 8 (.t 5) (.t 92), none, [0, 0, 1, 2, 3, 4]⟩,
                      ⟨none, .store 8 (.t 97) (.t 96), none, [5, 4, 0, 1, 2, 3, 4]⟩])))))
             (.reg false [⟨(some 37), .mv (.t 6), none, []⟩,
                  ⟨(some 38), .bin .add (.t 37) (.v (.int .i64 1)), none, [0]⟩,
                  ⟨(some 6), .mv (.t 38), none, [1, 0, 1]⟩]))))))
        (.seq (.reg false [⟨(some 2), .mv (.v (.bool true)), none, []⟩])
         (.ret))))))))
def pr5 : List PR := [.t 2]
abbrev ms5_0 : List Nat := [33, 34, 35, 36, 39, 40, 41, 42, 43, 7, 44, 45, 46, 47, 48, 49, 50, 51, 52, 53, 54, 55, 56, 2, 8, 57, 58, 61, 62, 63, 64, 65, 66, 67, 68, 69, 70, 71, 72, 73, 74, 75, 76, 77, 78, 79, 80, 81, 82, 83, 84, 85, 86, 87, 88, 89, 90, 91, 59, 60, 92, 93, 94, 95, 96, 97, 37, 38, 6]
abbrev os5_0 : List Nat := [5]
abbrev ms5_1 : List Nat := [57, 58, 61, 62, 63, 64, 65, 66, 67, 68, 69, 70, 71, 72, 73, 74, 75, 76, 77, 78, 79, 80, 81, 82, 83, 84, 85, 86, 87, 88, 89, 90, 91, 2, 59, 60, 8]
abbrev os5_1 : List Nat := []
theorem bd5 : Try.f5.body = some (Try.f5.body.getD .skip) := by kernel_rfl
theorem cp5 : compC Try.prog Try.f5.ntmps eqsL (Try.f5.body.getD .skip) = some pc5 := by kernel_rfl
theorem sp5 [WInv] {env : Env} (hE : EnvOK Try.prog env) {R : List Pa → List Pa → Prop} (hR : ∀ ps rs, R ps rs → ps.length ≤ 98 ∧ pwp env pc5 (fun e s => (e = .normal ∨ e = .ret) ∧ s.res pr5 = some rs) (St.init ps)) : Spec Try.prog 5 R :=
  fn_sound hE eqsOK mixedOK Try.func5 bd5 cp5 (by kernel_rfl) (by kernel_rfl) hR

/-! interleave/interleavelaw35.StampPrefix -/
def pc6 : PC :=
 .seq (.reg false [⟨(some 4), .mv (.v (.bool false)), none, []⟩])
  (.seq (.seq (.reg false [⟨(some 9), .call 9 [], none, []⟩,
         ⟨(some 10), .un .not (.t 9), none, [0]⟩])
    (.cond (.t 10)
      (.seq (.reg false [⟨(some 4), .mv (.v (.bool false)), none, []⟩])
       (.ret))
      (.skip)))
   (.seq (.seq (.reg false [⟨(some 11), .mv (.t 0), none, []⟩,
          ⟨(some 12), .len (.t 11), none, [0]⟩,
          ⟨(some 13), .bin .gtr (.t 12) (.v (.int .i64 60)), none, [1]⟩,
          ⟨(some 14), .mv (.t 13), none, [2]⟩,
          ⟨(some 15), .mv (.t 1), (some (14, false)), [3]⟩,
          ⟨(some 16), .bin .lss (.t 15) (.v (.int .i64 0)), (some (14, false)), [4, 3]⟩,
          ⟨(some 17), .pick (.t 14) (.v (.bool true)) (.t 16), none, [3, 5]⟩,
          ⟨(some 18), .mv (.t 17), none, [6, 3]⟩,
          ⟨(some 19), .mv (.t 1), (some (18, false)), [7]⟩,
          ⟨(some 20), .mv (.t 0), (some (18, false)), [7]⟩,
          ⟨(some 21), .len (.t 20), (some (18, false)), [9, 7]⟩,
          ⟨(some 22), .bin .gtr (.t 19) (.t 21), (some (18, false)), [8, 10, 7]⟩,
          ⟨(some 23), .pick (.t 18) (.v (.bool true)) (.t 22), none, [7, 11]⟩,
          ⟨(some 24), .mv (.t 23), none, [12, 7]⟩,
          ⟨(some 25), .mv (.t 0), (some (24, false)), [13]⟩,
          ⟨(some 26), .call 13 [(.t 25)], (some (24, false)), [14, 13, 13]⟩,
          ⟨(some 27), .un .not (.t 26), (some (24, false)), [15, 13]⟩,
          ⟨(some 28), .pick (.t 24) (.v (.bool true)) (.t 27), none, [13, 16]⟩,
          ⟨(some 29), .mv (.t 28), none, [17, 15]⟩,
          ⟨(some 30), .mv (.t 0), (some (29, false)), [18]⟩,
          ⟨(some 31), .mv (.t 1), (some (29, false)), [18]⟩,
          ⟨(some 32), .slc 9 (.t 30) none (some (.t 31)), (some (29, false)), [19, 20, 18]⟩,
          ⟨(some 33), .call 13 [(.t 32)], (some (29, false)), [21, 18, 18]⟩,
          ⟨(some 34), .un .not (.t 33), (some (29, false)), [22, 18]⟩,
          ⟨(some 35), .pick (.t 29) (.v (.bool true)) (.t 34), none, [18, 23]⟩])
     (.cond (.t 35)
       (.seq (.reg false [⟨(some 4), .mv (.v (.bool true)), none, []⟩])
        (.ret))
       (.skip)))
    (.seq (.reg false [⟨(some 37), .mv (.t 0), none, []⟩,
          ⟨(some 38), .call 10 [(.t 37)], none, [0]⟩,
          ⟨(some 36), .mv (.t 38), none, [1]⟩,
          ⟨(some 39), .ext (.t 36) 0, none, [2]⟩,
          ⟨(some 40), .ext (.t 36) 1, none, [2]⟩,
          ⟨(some 5), .mv (.t 39), none, [3, 1, 0, 1, 2, 3]⟩,
          ⟨(some 6), .mv (.t 40), none, [4, 5, 0, 1, 2, 3, 4, 5]⟩])
     (.seq (.reg false [⟨(some 42), .mv (.t 0), none, []⟩,
           ⟨(some 43), .mv (.t 1), none, []⟩,
           ⟨(some 44), .slc 9 (.t 42) none (some (.t 43)), none, [0, 1]⟩,
           ⟨(some 45), .call 10 [(.t 44)], none, [2]⟩,
           ⟨(some 41), .mv (.t 45), none, [3]⟩,
           ⟨(some 46), .ext (.t 41) 0, none, [4]⟩,
           ⟨(some 47), .ext (.t 41) 1, none, [4]⟩,
           ⟨(some 7), .mv (.t 46), none, [5, 3, 0, 1, 2, 3, 4, 5]⟩,
           ⟨(some 8), .mv (.t 47), none, [6, 7, 0, 1, 2, 3, 4, 5, 6, 7]⟩])
      (.seq (.reg false [⟨(some 48), .mv (.t 6), none, []⟩,
            ⟨(some 49), .bin .eql (.t 48) (.v (.int .i64 0)), none, [0]⟩,
            ⟨(some 50), .mv (.t 49), none, [1]⟩,
            ⟨(some 51), .mv (.t 8), (some (50, true)), [2]⟩,
            ⟨(some 52), .bin .eql (.t 51) (.v (.int .i64 0)), (some (50, true)), [3, 2]⟩,
            ⟨(some 53), .pick (.t 50) (.t 52) (.v (.bool false)), none, [2, 4]⟩,
            ⟨(some 54), .mv (.t 53), none, [5, 2]⟩,
            ⟨(some 55), .mv (.t 5), (some (54, true)), [6]⟩,
            ⟨(some 56), .len (.t 55), (some (54, true)), [7, 6]⟩,
            ⟨(some 57), .mv (.t 0), (some (54, true)), [6]⟩,
            ⟨(some 58), .len (.t 57), (some (54, true)), [9, 6]⟩,
            ⟨(some 59), .bin .eql (.t 56) (.t 58), (some (54, true)), [8, 10, 6]⟩,
            ⟨(some 60), .pick (.t 54) (.t 59) (.v (.bool false)), none, [6, 11]⟩,
            ⟨(some 61), .mv (.t 60), none, [12, 6]⟩,
            ⟨(some 62), .mv (.t 5), (some (61, true)), [13]⟩,
            ⟨(some 63), .mv (.t 1), (some (61, true)), [13]⟩,
            ⟨(some 64), .slc 8 (.t 62) none (some (.t 63)), (some (61, true)), [14, 15, 13]⟩,
            ⟨(some 65), .mv (.t 7), (some (61, true)), [13]⟩,
            ⟨(some 66), .call 12 [(.t 64), (.t 65)], (some (61, true)), [16, 17, 13, 13]⟩,
            ⟨(some 67), .pick (.t 61) (.t 66) (.v (.bool false)), none, [13, 18]⟩,
            ⟨(some 4), .mv (.t 67), none, [19, 18, 0, 1, 2, 3, 4, 5, 6, 7, 8, 9, 10, 11, 12, 13, 14, 15, 16, 17, 18, 19]⟩])
       (.ret))))))
def pr6 : List PR := [.t 4]
theorem bd6 : Try.f6.body = some (Try.f6.body.getD .skip) := by kernel_rfl
theorem cp6 : compC Try.prog Try.f6.ntmps eqsL (Try.f6.body.getD .skip) = some pc6 := by kernel_rfl
theorem sp6 [WInv] {env : Env} (hE : EnvOK Try.prog env) {R : List Pa → List Pa → Prop} (hR : ∀ ps rs, R ps rs → ps.length ≤ 68 ∧ pwp env pc6 (fun e s => (e = .normal ∨ e = .ret) ∧ s.res pr6 = some rs) (St.init ps)) : Spec Try.prog 6 R :=
  fn_sound hE eqsOK mixedOK Try.func6 bd6 cp6 (by kernel_rfl) (by kernel_rfl) hR

/-! interleave/interleavelaw35.StampAcquires -/
def pc7 : PC :=
 .seq (.reg false [⟨(some 2), .mv (.v (.bool false)), none, []⟩])
  (.seq (.seq (.reg false [⟨(some 9), .call 9 [], none, []⟩,
         ⟨(some 10), .un .not (.t 9), none, [0]⟩])
    (.cond (.t 10)
      (.seq (.reg false [⟨(some 2), .mv (.v (.bool false)), none, []⟩])
       (.ret))
      (.skip)))
   (.seq (.seq (.reg false [⟨(some 11), .mv (.t 0), none, []⟩,
          ⟨(some 12), .len (.t 11), none, [0]⟩,
          ⟨(some 13), .bin .gtr (.t 12) (.v (.int .i64 60)), none, [1]⟩,
          ⟨(some 14), .mv (.t 13), none, [2]⟩,
          ⟨(some 15), .mv (.t 0), (some (14, false)), [3]⟩,
          ⟨(some 16), .call 13 [(.t 15)], (some (14, false)), [4, 3, 3]⟩,
          ⟨(some 17), .un .not (.t 16), (some (14, false)), [5, 3]⟩,
          ⟨(some 18), .pick (.t 14) (.v (.bool true)) (.t 17), none, [3, 6]⟩])
     (.cond (.t 18)
       (.seq (.reg false [⟨(some 2), .mv (.v (.bool true)), none, []⟩])
        (.ret))
       (.skip)))
    (.seq (.reg false [⟨(some 20), .mv (.t 0), none, []⟩,
          ⟨(some 21), .call 10 [(.t 20)], none, [0]⟩,
          ⟨(some 19), .mv (.t 21), none, [1]⟩,
          ⟨(some 22), .ext (.t 19) 0, none, [2]⟩,
          ⟨(some 23), .ext (.t 19) 1, none, [2]⟩,
          ⟨(some 3), .mv (.t 22), none, [3, 1, 0, 1, 2, 3]⟩,
          ⟨(some 4), .mv (.t 23), none, [4, 5, 0, 1, 2, 3, 4, 5]⟩])
     (.seq (.seq (.reg false [⟨(some 24), .mv (.t 4), none, []⟩,
            ⟨(some 25), .bin .neq (.t 24) (.v (.int .i64 0)), none, [0]⟩,
            ⟨(some 26), .mv (.t 25), none, [1]⟩,
            ⟨(some 27), .mv (.t 3), (some (26, false)), [2]⟩,
            ⟨(some 28), .len (.t 27), (some (26, false)), [3, 2]⟩,
            ⟨(some 29), .mv (.t 0), (some (26, false)), [2]⟩,
            ⟨(some 30), .len (.t 29), (some (26, false)), [5, 2]⟩,
            ⟨(some 31), .bin .neq (.t 28) (.t 30), (some (26, false)), [4, 6, 2]⟩,
            ⟨(some 32), .pick (.t 26) (.v (.bool true)) (.t 31), none, [2, 7]⟩])
       (.cond (.t 32)
         (.seq (.reg false [⟨(some 2), .mv (.v (.bool false)), none, []⟩])
          (.ret))
         (.skip)))
      (.seq (.reg false [⟨(some 5), .new [(.int .i64 0), (.int .i64 0), (.int .i64 0), (.int .i64 0), (.int .i64 0), (.int .i64 0), (.int .i64 0), (.int .i64 0), (.int .i64 0), (.int .i64 0), (.int .i64 0), (.int .i64 0), (.int .i64 0), (.int .i64 0), (.int .i64 0), (.int .i64 0), (.int .i64 0), (.int .i64 0), (.int .i64 0), (.int .i64 0), (.int .i64 0), (.int .i64 0), (.int .i64 0), (.int .i64 0), (.int .i64 0), (.int .i64 0), (.int .i64 0), (.int .i64 0), (.int .i64 0), (.int .i64 0), (.int .i64 0), (.int .i64 0), (.int .i64 0), (.int .i64 0), (.int .i64 0), (.int .i64 0), (.int .i64 0), (.int .i64 0), (.int .i64 0), (.int .i64 0), (.int .i64 0), (.int .i64 0), (.int .i64 0), (.int .i64 0), (.int .i64 0), (.int .i64 0), (.int .i64 0), (.int .i64 0), (.int .i64 0), (.int .i64 0), (.int .i64 0), (.int .i64 0), (.int .i64 0), (.int .i64 0), (.int .i64 0), (.int .i64 0), (.int .i64 0), (.int .i64 0), (.int .i64 0), (.int .i64 0), (.int .i64 0), (.int .i64 0), (.int .i64 0), (.int .i64 0)], none, []⟩])
       (.seq (.seq (.reg false [⟨(some 6), .mv (.v (.int .i64 0)), none, []⟩])
         (.block 0 (.loop (.seq (.seq (.reg false [⟨(some 33), .mv (.t 6), none, []⟩,
                  ⟨(some 34), .mv (.t 0), none, []⟩,
                  ⟨(some 35), .len (.t 34), none, [1]⟩,
                  ⟨(some 36), .bin .lss (.t 33) (.t 35), none, [0, 2]⟩])
             (.cond (.t 36)
               (.skip)
               (.exit 0)))
            (.seq (.block 1 (.seq (.reg false [⟨(some 39), .mv (.t 0), none, []⟩,
                    ⟨(some 40), .mv (.t 6), none, []⟩,
                    ⟨(some 41), .ixs 9 (.t 39) (.t 40), none, [0, 1]⟩,
                    ⟨(some 42), .fld 0 (.t 41), none, [2]⟩,
                    ⟨(some 43), .load none (.t 42), none, [3]⟩,
                    ⟨(some 7), .mv (.t 43), none, [4, 0, 1, 2, 3, 4]⟩])
               (.seq (.seq (.reg false [⟨(some 8), .mv (.v (.int .i64 0)), none, []⟩])
                 (.block 2 (.loop (.seq (.seq (.reg false [⟨(some 44), .mv (.t 8), none, []⟩,
                          ⟨(some 45), .bin .lss (.t 44) (.v (.int .i64 8)), none, [0]⟩])
                     (.cond (.t 45)
                       (.skip)
                       (.exit 2)))
                    (.seq (.block 3 (.seq (.seq (.reg true [⟨(some 48), .mv (.t 8), none, []⟩,
                             ⟨(some 49), .mv (.t 7), none, []⟩,
                             ⟨(some 50), .bin .eql (.t 48) (.t 49), none, [0, 1]⟩,
                             ⟨(some 51), .mv (.t 50), none, [2]⟩,
                             ⟨(some 52), .mv (.t 7), (some (51, false)), [3]⟩,
                             ⟨(some 53), .mv (.t 7), (some (51, false)), [3]⟩,
                             ⟨(some 54), .ixa 8 8 (.t 5) (.t 52), (some (51, false)), [4, 3]⟩,
                             ⟨(some 55), .ixa 8 1 (.t 54) (.t 53), (some (51, false)), [6, 5, 3]⟩,
                             ⟨(some 56), .load none (.t 55), (some (51, false)), [7, 3]⟩,
                             ⟨(some 57), .bin .eql (.t 56) (.v (.int .i64 0)), (some (51, false)), [8, 3]⟩,
                             ⟨(some 58), .pick (.t 51) (.v (.bool true)) (.t 57), none, [3, 9]⟩,
                             ⟨(some 59), .mv (.t 58), none, [10, 3]⟩,
                             ⟨(some 60), .mv (.t 3), (some (59, false)), [11]⟩,
                             ⟨(some 61), .mv (.t 6), (some (59, false)), [11]⟩,
                             ⟨(some 62), .mv (.t 8), (some (59, false)), [11]⟩,
                             ⟨(some 63), .ixs 8 (.t 60) (.t 61), (some (59, false)), [12, 13, 11]⟩,
                             ⟨(some 64), .ixa 8 1 (.t 63) (.t 62), (some (59, false)), [15, 14, 11]⟩,
                             ⟨(some 65), .load none (.t 64), (some (59, false)), [16, 11]⟩,
                             ⟨(some 66), .mv (.t 7), (some (59, false)), [11]⟩,
                             ⟨(some 67), .mv (.t 8), (some (59, false)), [11]⟩,
                             ⟨(some 68), .ixa 8 8 (.t 5) (.t 66), (some (59, false)), [18, 11]⟩,
                             ⟨(some 69), .ixa 8 1 (.t 68) (.t 67), (some (59, false)), [20, 19, 11]⟩,
                             ⟨(some 70), .load none (.t 69), (some (59, false)), [21, 11]⟩,
                             ⟨(some 71), .bin .eql (.t 65) (.t 70), (some (59, false)), [17, 22, 11]⟩,
                             ⟨(some 72), .pick (.t 59) (.v (.bool true)) (.t 71), none, [11, 23]⟩])
                        (.cond (.t 72)
                          (.exit 3)
                          (.skip)))
                       (.seq (.reg false [⟨(some 73), .mv (.t 0), none, []⟩,
                             ⟨(some 74), .mv (.t 6), none, []⟩,
                             ⟨(some 75), .ixs 9 (.t 73) (.t 74), none, [0, 1]⟩,
                             ⟨(some 76), .fld 1 (.t 75), none, [2]⟩,
                             ⟨(some 77), .load none (.t 76), none, [3]⟩])
                        (.block 4 (.seq (.seq (.reg false [⟨(some 79), .bin .eql (.t 77) (.v (.int .i64 3)), none, []⟩,
                                ⟨(some 78), .mv (.t 79), none, [0]⟩])
                           (.cond (.t 78)
                             (.skip)
                             (.seq (.reg false [⟨(some 80), .bin .eql (.t 77) (.v (.int .i64 5)), none, []⟩,
                                   ⟨(some 78), .mv (.t 80), none, [0]⟩])
                              (.cond (.t 78)
                                (.skip)
                                (.seq (.reg false [⟨(some 81), .bin .eql (.t 77) (.v (.int .i64 6)), none, []⟩,
                                      ⟨(some 78), .mv (.t 81), none, [0]⟩])
                                 (.cond (.t 78)
                                   (.skip)
                                   (.seq (.reg false [⟨(some 82), .bin .eql (.t 77) (.v (.int .i64 8)), none, []⟩,
                                         ⟨(some 78), .mv (.t 82), none, [0]⟩])
                                    (.cond (.t 78)
                                      (.skip)
                                      (.seq (.reg false [⟨(some 83), .bin .eql (.t 77) (.v (.int .i64 11)), none, []⟩,
                                            ⟨(some 78), .mv (.t 83), none, [0]⟩])
                                       (.cond (.t 78)
                                         (.skip)
                                         (.seq (.reg false [⟨(some 84), .bin .eql (.t 77) (.v (.int .i64 13)), none, []⟩,
                                               ⟨(some 78), .mv (.t 84), none, [0]⟩])
                                          (.cond (.t 78)
                                            (.skip)
                                            (.seq (.reg false [⟨(some 85), .bin .eql (.t 77) (.v (.int .i64 16)), none, []⟩,
                                                  ⟨(some 78), .mv (.t 85), none, [0]⟩])
                                             (.cond (.t 78)
                                               (.skip)
                                               (.seq (.reg false [⟨(some 86), .bin .eql (.t 77) (.v (.int .i64 18)), none, []⟩,
                                                     ⟨(some 78), .mv (.t 86), none, [0]⟩])
                                                (.cond (.t 78)
                                                  (.skip)
                                                  (.reg false [⟨(some 87), .bin .eql (.t 77) (.v (.int .i64 20)), none, []⟩,
                                                       ⟨(some 78), .mv (.t 87), none, [0]⟩])))))))))))))))))
                          (.cond (.t 78)
                            (.skip)
                            (.seq (.reg false [⟨(some 2), .mv (.v (.bool false)), none, []⟩])
                             (.ret))))))))
                     (.reg false [⟨(some 46), .mv (.t 8), none, []⟩,
                          ⟨(some 47), .bin .add (.t 46) (.v (.int .i64 1)), none, [0]⟩,
                          ⟨(some 8), .mv (.t 47), none, [1, 0, 1]⟩]))))))
                (.reg false [⟨(some 88), .mv (.t 7), none, []⟩,
                     ⟨(some 89), .mv (.t 3), none, []⟩,
                     ⟨(some 90), .mv (.t 6), none, []⟩,
                     ⟨(some 91), .ixs 8 (.t 89) (.t 90), none, [1, 2]⟩,
                     ⟨(some 92), .load (some 8) (.t 91), none, [3]⟩,
                     ⟨(some 93), .ixa 8 8 (.t 5) (.t 88), none, [0, 0, 1, 2, 3, 4]⟩,
                     ⟨none, .store 8 (.t 93) (.t 92), none, [5, 4, 0, 1, 2, 3, 4]⟩]))))
             (.reg false [⟨(some 37), .mv (.t 6), none, []⟩,
                  ⟨(some 38), .bin .add (.t 37) (.v (.int .i64 1)), none, [0]⟩,
                  ⟨(some 6), .mv (.t 38), none, [1, 0, 1]⟩]))))))
        (.seq (.reg false [⟨(some 2), .mv (.v (.bool true)), none, []⟩])
         (.ret))))))))
def pr7 : List PR := [.t 2]
abbrev ms7_0 : List Nat := [33, 34, 35, 36, 39, 40, 41, 42, 43, 7, 8, 44, 45, 48, 49, 50, 51, 52, 53, 54, 55, 56, 57, 58, 59, 60, 61, 62, 63, 64, 65, 66, 67, 68, 69, 70, 71, 72, 73, 74, 75, 76, 77, 79, 78, 80, 81, 82, 83, 84, 85, 86, 87, 2, 46, 47, 88, 89, 90, 91, 92, 93, 37, 38, 6]
abbrev os7_0 : List Nat := [5]
abbrev ms7_1 : List Nat := [44, 45, 48, 49, 50, 51, 52, 53, 54, 55, 56, 57, 58, 59, 60, 61, 62, 63, 64, 65, 66, 67, 68, 69, 70, 71, 72, 73, 74, 75, 76, 77, 79, 78, 80, 81, 82, 83, 84, 85, 86, 87, 2, 46, 47, 8]
abbrev os7_1 : List Nat := []
theorem bd7 : Try.f7.body = some (Try.f7.body.getD .skip) := by kernel_rfl
theorem cp7 : compC Try.prog Try.f7.ntmps eqsL (Try.f7.body.getD .skip) = some pc7 := by kernel_rfl
theorem sp7 [WInv] {env : Env} (hE : EnvOK Try.prog env) {R : List Pa → List Pa → Prop} (hR : ∀ ps rs, R ps rs → ps.length ≤ 94 ∧ pwp env pc7 (fun e s => (e = .normal ∨ e = .ret) ∧ s.res pr7 = some rs) (St.init ps)) : Spec Try.prog 7 R :=
  fn_sound hE eqsOK mixedOK Try.func7 bd7 cp7 (by kernel_rfl) (by kernel_rfl) hR

/-! interleave/interleavelaw35.StampBeforeMatchesReference -/
def pc8 : PC :=
 .seq (.reg false [⟨(some 6), .mv (.v (.bool false)), none, []⟩])
  (.seq (.seq (.reg false [⟨(some 10), .call 9 [], none, []⟩,
         ⟨(some 11), .un .not (.t 10), none, [0]⟩])
    (.cond (.t 11)
      (.seq (.reg false [⟨(some 6), .mv (.v (.bool false)), none, []⟩])
       (.ret))
      (.skip)))
   (.seq (.seq (.reg false [⟨(some 12), .mv (.t 0), none, []⟩,
          ⟨(some 13), .len (.t 12), none, [0]⟩,
          ⟨(some 14), .bin .gtr (.t 13) (.v (.int .i64 24)), none, [1]⟩])
     (.cond (.t 14)
       (.seq (.reg false [⟨(some 6), .mv (.v (.bool true)), none, []⟩])
        (.ret))
       (.skip)))
    (.seq (.seq (.reg false [⟨(some 15), .mv (.t 0), none, []⟩,
           ⟨(some 16), .mv (.t 1), none, []⟩,
           ⟨(some 17), .mv (.t 2), none, []⟩,
           ⟨(some 18), .call 15 [(.t 15), (.t 16), (.t 17)], none, [0, 1, 2]⟩,
           ⟨(some 19), .mv (.t 0), none, []⟩,
           ⟨(some 20), .mv (.t 1), none, []⟩,
           ⟨(some 21), .mv (.t 2), none, []⟩,
           ⟨(some 22), .call 16 [(.t 19), (.t 20), (.t 21)], none, [4, 5, 6, 3]⟩,
           ⟨(some 23), .eqb true (.t 18) (.t 22), none, [3, 7]⟩])
      (.cond (.t 23)
        (.seq (.reg false [⟨(some 6), .mv (.v (.bool false)), none, []⟩])
         (.ret))
        (.skip)))
     (.seq (.seq (.reg false [⟨(some 24), .mv (.t 0), none, []⟩,
            ⟨(some 25), .call 13 [(.t 24)], none, [0]⟩,
            ⟨(some 26), .un .not (.t 25), none, [1]⟩])
       (.cond (.t 26)
         (.seq (.reg false [⟨(some 6), .mv (.v (.bool true)), none, []⟩])
          (.ret))
         (.skip)))
      (.seq (.reg false [⟨(some 27), .mv (.t 0), none, []⟩,
            ⟨(some 28), .call 14 [(.t 27)], none, [0]⟩,
            ⟨(some 7), .mv (.t 28), none, [1, 1, 0, 1]⟩])
       (.seq (.seq (.reg false [⟨(some 8), .mv (.v (.int .i64 0)), none, []⟩])
         (.block 0 (.loop (.seq (.seq (.reg false [⟨(some 29), .mv (.t 8), none, []⟩,
                  ⟨(some 30), .mv (.t 0), none, []⟩,
                  ⟨(some 31), .len (.t 30), none, [1]⟩,
                  ⟨(some 32), .bin .lss (.t 29) (.t 31), none, [0, 2]⟩])
             (.cond (.t 32)
               (.skip)
               (.exit 0)))
            (.seq (.block 1 (.seq (.reg false [⟨(some 9), .mv (.v (.int .i64 0)), none, []⟩])
               (.block 2 (.loop (.seq (.seq (.reg false [⟨(some 35), .mv (.t 9), none, []⟩,
                        ⟨(some 36), .mv (.t 0), none, []⟩,
                        ⟨(some 37), .len (.t 36), none, [1]⟩,
                        ⟨(some 38), .bin .lss (.t 35) (.t 37), none, [0, 2]⟩])
                   (.cond (.t 38)
                     (.skip)
                     (.exit 2)))
                  (.seq (.block 3 (.seq (.reg true [⟨(some 41), .mv (.t 0), none, []⟩,
                          ⟨(some 42), .mv (.t 8), none, []⟩,
                          ⟨(some 43), .mv (.t 9), none, []⟩,
                          ⟨(some 44), .call 15 [(.t 41), (.t 42), (.t 43)], none, [0, 1, 2]⟩,
                          ⟨(some 45), .mv (.t 7), none, []⟩,
                          ⟨(some 46), .mv (.t 8), none, []⟩,
                          ⟨(some 47), .ixs 1 (.t 45) (.t 46), none, [4, 5]⟩,
                          ⟨(some 48), .load none (.t 47), none, [6]⟩,
                          ⟨(some 49), .mv (.t 9), none, []⟩,
                          ⟨(some 50), .ixs 1 (.t 48) (.t 49), none, [7, 8]⟩,
                          ⟨(some 51), .load none (.t 50), none, [9]⟩,
                          ⟨(some 52), .eqb true (.t 44) (.t 51), none, [3, 10]⟩])
                     (.cond (.t 52)
                       (.seq (.reg false [⟨(some 6), .mv (.v (.bool false)), none, []⟩])
                        (.ret))
                       (.skip))))
                   (.reg false [⟨(some 39), .mv (.t 9), none, []⟩,
                        ⟨(some 40), .bin .add (.t 39) (.v (.int .i64 1)), none, [0]⟩,
                        ⟨(some 9), .mv (.t 40), none, [1, 0, 1]⟩])))))))
             (.reg false [⟨(some 33), .mv (.t 8), none, []⟩,
                  ⟨(some 34), .bin .add (.t 33) (.v (.int .i64 1)), none, [0]⟩,
                  ⟨(some 8), .mv (.t 34), none, [1, 0, 1]⟩]))))))
        (.seq (.reg false [⟨(some 6), .mv (.v (.bool true)), none, []⟩])
         (.ret))))))))
def pr8 : List PR := [.t 6]
abbrev ms8_0 : List Nat := [29, 30, 31, 32, 9, 35, 36, 37, 38, 41, 42, 43, 44, 45, 46, 47, 48, 49, 50, 51, 52, 6, 39, 40, 33, 34, 8]
abbrev os8_0 : List Nat := []
abbrev ms8_1 : List Nat := [35, 36, 37, 38, 41, 42, 43, 44, 45, 46, 47, 48, 49, 50, 51, 52, 6, 39, 40, 9]
abbrev os8_1 : List Nat := []
theorem bd8 : Try.f8.body = some (Try.f8.body.getD .skip) := by kernel_rfl
theorem cp8 : compC Try.prog Try.f8.ntmps eqsL (Try.f8.body.getD .skip) = some pc8 := by kernel_rfl
theorem sp8 [WInv] {env : Env} (hE : EnvOK Try.prog env) {R : List Pa → List Pa → Prop} (hR : ∀ ps rs, R ps rs → ps.length ≤ 53 ∧ pwp env pc8 (fun e s => (e = .normal ∨ e = .ret) ∧ s.res pr8 = some rs) (St.init ps)) : Spec Try.prog 8 R :=
  fn_sound hE eqsOK mixedOK Try.func8 bd8 cp8 (by kernel_rfl) (by kernel_rfl) hR

/-! interleave/interleavelaw35.awake -/
def pc9 : PC :=
 .seq (.reg false [⟨(some 0), .mv (.v (.bool false)), none, []⟩])
  (.seq (.reg false [⟨(some 4), .build [(.int .i64 0), (.int .i64 0), (.int .i64 0), (.int .i64 0), (.int .i64 0), (.int .i64 0), (.int .i64 0), (.int .i64 0), (.int .i64 0)] [(1, 1, (.v (.int .i64 14))), (4, 1, (.v (.int .i64 1)))], none, []⟩,
        ⟨(some 5), .build [(.int .i64 0), (.int .i64 0), (.int .i64 0), (.int .i64 0), (.int .i64 0), (.int .i64 0), (.int .i64 0), (.int .i64 0), (.int .i64 0)] [(1, 1, (.v (.int .i64 2)))], none, []⟩,
        ⟨(some 6), .build [(.int .i64 0), (.int .i64 0), (.int .i64 0), (.int .i64 0), (.int .i64 0), (.int .i64 0), (.int .i64 0), (.int .i64 0), (.int .i64 0)] [(0, 1, (.v (.int .i64 1))), (1, 1, (.v (.int .i64 2)))], none, []⟩,
        ⟨(some 7), .bslice 33 9 [(.int .i64 0), (.int .i64 0), (.int .i64 0), (.int .i64 0), (.int .i64 0), (.int .i64 0), (.int .i64 0), (.int .i64 0), (.int .i64 0), (.int .i64 0), (.int .i64 0), (.int .i64 0), (.int .i64 0), (.int .i64 0), (.int .i64 0), (.int .i64 0), (.int .i64 0), (.int .i64 0), (.int .i64 0), (.int .i64 0), (.int .i64 0), (.int .i64 0), (.int .i64 0), (.int .i64 0), (.int .i64 0), (.int .i64 0), (.int .i64 0)] 3 [(0, 9, (.t 4)), (9, 9, (.t 5)), (18, 9, (.t 6))], none, [0, 1, 2]⟩,
        ⟨(some 8), .call 10 [(.t 7)], none, [3]⟩,
        ⟨(some 3), .mv (.t 8), none, [4]⟩,
        ⟨(some 9), .ext (.t 3) 0, none, [5]⟩,
        ⟨(some 10), .ext (.t 3) 1, none, [5]⟩,
        ⟨(some 1), .mv (.t 9), none, [6, 4, 0, 1, 2, 3, 4, 5, 6]⟩,
        ⟨(some 2), .mv (.t 10), none, [7, 8, 0, 1, 2, 3, 4, 5, 6, 7, 8]⟩])
   (.seq (.reg false [⟨(some 11), .mv (.t 2), none, []⟩,
         ⟨(some 12), .bin .eql (.t 11) (.v (.int .i64 0)), none, [0]⟩,
         ⟨(some 13), .mv (.t 12), none, [1]⟩,
         ⟨(some 14), .mv (.t 1), (some (13, true)), [2]⟩,
         ⟨(some 15), .len (.t 14), (some (13, true)), [3, 2]⟩,
         ⟨(some 16), .bin .eql (.t 15) (.v (.int .i64 3)), (some (13, true)), [4, 2]⟩,
         ⟨(some 17), .pick (.t 13) (.t 16) (.v (.bool false)), none, [2, 5]⟩,
         ⟨(some 18), .mv (.t 17), none, [6, 2]⟩,
         ⟨(some 19), .mv (.t 1), (some (18, true)), [7]⟩,
         ⟨(some 20), .ixs 8 (.t 19) (.v (.int .i64 0)), (some (18, true)), [8, 7]⟩,
         ⟨(some 21), .load (some 8) (.t 20), (some (18, true)), [9, 7]⟩,
         ⟨(some 22), .build [(.int .i64 0), (.int .i64 0), (.int .i64 0), (.int .i64 0), (.int .i64 0), (.int .i64 0), (.int .i64 0), (.int .i64 0)] [(0, 1, (.v (.int .i64 1)))], (some (18, true)), [7]⟩,
         ⟨(some 23), .eqs false [false, false, false, false, false, false, false, false] (.t 21) (.t 22), (some (18, true)), [10, 11, 7]⟩,
         ⟨(some 24), .pick (.t 18) (.t 23) (.v (.bool false)), none, [7, 12]⟩,
         ⟨(some 25), .mv (.t 24), none, [13, 7]⟩,
         ⟨(some 26), .mv (.t 1), (some (25, true)), [14]⟩,
         ⟨(some 27), .ixs 8 (.t 26) (.v (.int .i64 1)), (some (25, true)), [15, 14]⟩,
         ⟨(some 28), .load (some 8) (.t 27), (some (25, true)), [16, 14]⟩,
         ⟨(some 29), .build [(.int .i64 0), (.int .i64 0), (.int .i64 0), (.int .i64 0), (.int .i64 0), (.int .i64 0), (.int .i64 0), (.int .i64 0)] [(0, 1, (.v (.int .i64 2)))], (some (25, true)), [14]⟩,
         ⟨(some 30), .eqs false [false, false, false, false, false, false, false, false] (.t 28) (.t 29), (some (25, true)), [17, 18, 14]⟩,
         ⟨(some 31), .pick (.t 25) (.t 30) (.v (.bool false)), none, [14, 19]⟩,
         ⟨(some 32), .mv (.t 31), none, [20, 14]⟩,
         ⟨(some 33), .mv (.t 1), (some (32, true)), [21]⟩,
         ⟨(some 34), .ixs 8 (.t 33) (.v (.int .i64 2)), (some (32, true)), [22, 21]⟩,
         ⟨(some 35), .load (some 8) (.t 34), (some (32, true)), [23, 21]⟩,
         ⟨(some 36), .build [(.int .i64 0), (.int .i64 0), (.int .i64 0), (.int .i64 0), (.int .i64 0), (.int .i64 0), (.int .i64 0), (.int .i64 0)] [(0, 1, (.v (.int .i64 1))), (1, 1, (.v (.int .i64 1)))], (some (32, true)), [21]⟩,
         ⟨(some 37), .eqs false [false, false, false, false, false, false, false, false] (.t 35) (.t 36), (some (32, true)), [24, 25, 21]⟩,
         ⟨(some 38), .pick (.t 32) (.t 37) (.v (.bool false)), none, [21, 26]⟩,
         ⟨(some 0), .mv (.t 38), none, [27, 21, 0, 1, 2, 3, 4, 5, 6, 7, 8, 9, 10, 11, 12, 13, 14, 15, 16, 17, 18, 19, 20, 21, 22, 23, 24, 25, 26, 27]⟩])
    (.ret)))
def pr9 : List PR := [.t 0]
theorem bd9 : Try.f9.body = some (Try.f9.body.getD .skip) := by kernel_rfl
theorem cp9 : compC Try.prog Try.f9.ntmps eqsL (Try.f9.body.getD .skip) = some pc9 := by kernel_rfl
theorem sp9 [WInv] {env : Env} (hE : EnvOK Try.prog env) {R : List Pa → List Pa → Prop} (hR : ∀ ps rs, R ps rs → ps.length ≤ 39 ∧ pwp env pc9 (fun e s => (e = .normal ∨ e = .ret) ∧ s.res pr9 = some rs) (St.init ps)) : Spec Try.prog 9 R :=
  fn_sound hE eqsOK mixedOK Try.func9 bd9 cp9 (by kernel_rfl) (by kernel_rfl) hR

/-! interleave/stamp.Stamps -/
def pc10 : PC :=
 .seq (.reg false [⟨(some 2), .nilRow 36 8, none, []⟩,
       ⟨(some 3), .mv (.v (.int .i64 0)), none, [0]⟩])
  (.seq (.seq (.reg false [⟨(some 4), .mv (.t 0), none, []⟩,
         ⟨(some 5), .call 17 [(.t 4)], none, [0]⟩,
         ⟨(some 6), .un .not (.t 5), none, [1]⟩])
    (.cond (.t 6)
      (.seq (.reg false [⟨(some 2), .nilRow 36 8, none, []⟩,
            ⟨(some 3), .mv (.v (.int .i64 1)), none, [0, 0]⟩])
       (.ret))
      (.skip)))
   (.seq (.reg false [⟨(some 7), .mv (.t 0), none, []⟩,
         ⟨(some 8), .call 18 [(.t 7)], none, [0]⟩,
         ⟨(some 2), .mv (.t 8), none, [1, 1, 0, 1]⟩,
         ⟨(some 3), .mv (.v (.int .i64 0)), none, [2, 0, 1, 2]⟩])
    (.ret)))
def pr10 : List PR := [.t 2, .t 3]
theorem bd10 : Try.f10.body = some (Try.f10.body.getD .skip) := by kernel_rfl
theorem cp10 : compC Try.prog Try.f10.ntmps eqsL (Try.f10.body.getD .skip) = some pc10 := by kernel_rfl
theorem sp10 [WInv] {env : Env} (hE : EnvOK Try.prog env) {R : List Pa → List Pa → Prop} (hR : ∀ ps rs, R ps rs → ps.length ≤ 9 ∧ pwp env pc10 (fun e s => (e = .normal ∨ e = .ret) ∧ s.res pr10 = some rs) (St.init ps)) : Spec Try.prog 10 R :=
  fn_sound hE eqsOK mixedOK Try.func10 bd10 cp10 (by kernel_rfl) (by kernel_rfl) hR

/-! interleave/stamp.Before -/
def pc15 : PC :=
 .seq (.reg false [⟨(some 6), .mv (.v (.bool false)), none, []⟩])
  (.seq (.seq (.reg false [⟨(some 8), .mv (.t 1), none, []⟩,
         ⟨(some 9), .bin .lss (.t 8) (.v (.int .i64 0)), none, [0]⟩,
         ⟨(some 10), .mv (.t 9), none, [1]⟩,
         ⟨(some 11), .mv (.t 2), (some (10, false)), [2]⟩,
         ⟨(some 12), .bin .lss (.t 11) (.v (.int .i64 0)), (some (10, false)), [3, 2]⟩,
         ⟨(some 13), .pick (.t 10) (.v (.bool true)) (.t 12), none, [2, 4]⟩,
         ⟨(some 14), .mv (.t 13), none, [5, 2]⟩,
         ⟨(some 15), .mv (.t 1), (some (14, false)), [6]⟩,
         ⟨(some 16), .mv (.t 0), (some (14, false)), [6]⟩,
         ⟨(some 17), .len (.t 16), (some (14, false)), [8, 6]⟩,
         ⟨(some 18), .bin .geq (.t 15) (.t 17), (some (14, false)), [7, 9, 6]⟩,
         ⟨(some 19), .pick (.t 14) (.v (.bool true)) (.t 18), none, [6, 10]⟩,
         ⟨(some 20), .mv (.t 19), none, [11, 6]⟩,
         ⟨(some 21), .mv (.t 2), (some (20, false)), [12]⟩,
         ⟨(some 22), .mv (.t 0), (some (20, false)), [12]⟩,
         ⟨(some 23), .len (.t 22), (some (20, false)), [14, 12]⟩,
         ⟨(some 24), .bin .geq (.t 21) (.t 23), (some (20, false)), [13, 15, 12]⟩,
         ⟨(some 25), .pick (.t 20) (.v (.bool true)) (.t 24), none, [12, 16]⟩,
         ⟨(some 26), .mv (.t 25), none, [17, 12]⟩,
         ⟨(some 27), .mv (.t 1), (some (26, false)), [18]⟩,
         ⟨(some 28), .mv (.t 2), (some (26, false)), [18]⟩,
         ⟨(some 29), .bin .eql (.t 27) (.t 28), (some (26, false)), [19, 20, 18]⟩,
         ⟨(some 30), .pick (.t 26) (.v (.bool true)) (.t 29), none, [18, 21]⟩,
         ⟨(some 31), .mv (.t 30), none, [22, 18]⟩,
         ⟨(some 32), .mv (.t 0), (some (31, false)), [23]⟩,
         ⟨(some 33), .call 17 [(.t 32)], (some (31, false)), [24, 23, 23]⟩,
         ⟨(some 34), .un .not (.t 33), (some (31, false)), [25, 23]⟩,
         ⟨(some 35), .pick (.t 31) (.v (.bool true)) (.t 34), none, [23, 26]⟩])
    (.cond (.t 35)
      (.seq (.reg false [⟨(some 6), .mv (.v (.bool false)), none, []⟩])
       (.ret))
      (.skip)))
   (.seq (.reg false [⟨(some 36), .mv (.t 0), none, []⟩,
         ⟨(some 37), .call 18 [(.t 36)], none, [0]⟩,
         ⟨(some 7), .mv (.t 37), none, [1, 1, 0, 1]⟩])
    (.seq (.reg true [⟨(some 38), .mv (.t 7), none, []⟩,
          ⟨(some 39), .mv (.t 1), none, []⟩,
          ⟨(some 40), .mv (.t 0), none, []⟩,
          ⟨(some 41), .mv (.t 1), none, []⟩,
          ⟨(some 42), .ixs 9 (.t 40) (.t 41), none, [2, 3]⟩,
          ⟨(some 43), .fld 0 (.t 42), none, [4]⟩,
          ⟨(some 44), .load none (.t 43), none, [5]⟩,
          ⟨(some 45), .ixs 8 (.t 38) (.t 39), none, [0, 1]⟩,
          ⟨(some 46), .ixa 8 1 (.t 45) (.t 44), none, [7, 6]⟩,
          ⟨(some 47), .load none (.t 46), none, [8]⟩,
          ⟨(some 48), .mv (.t 7), none, []⟩,
          ⟨(some 49), .mv (.t 2), none, []⟩,
          ⟨(some 50), .mv (.t 0), none, []⟩,
          ⟨(some 51), .mv (.t 1), none, []⟩,
          ⟨(some 52), .ixs 9 (.t 50) (.t 51), none, [12, 13]⟩,
          ⟨(some 53), .fld 0 (.t 52), none, [14]⟩,
          ⟨(some 54), .load none (.t 53), none, [15]⟩,
          ⟨(some 55), .ixs 8 (.t 48) (.t 49), none, [10, 11]⟩,
          ⟨(some 56), .ixa 8 1 (.t 55) (.t 54), none, [17, 16]⟩,
          ⟨(some 57), .load none (.t 56), none, [18]⟩,
          ⟨(some 58), .bin .leq (.t 47) (.t 57), none, [9, 19]⟩,
          ⟨(some 6), .mv (.t 58), none, [20, 0, 1, 2, 3, 4, 5, 6, 7, 8, 9, 10, 11, 12, 13, 14, 15, 16, 17, 18, 19, 20]⟩])
     (.ret))))
def pr15 : List PR := [.t 6]
theorem bd15 : Try.f15.body = some (Try.f15.body.getD .skip) := by kernel_rfl
theorem cp15 : compC Try.prog Try.f15.ntmps eqsL (Try.f15.body.getD .skip) = some pc15 := by kernel_rfl
theorem sp15 [WInv] {env : Env} (hE : EnvOK Try.prog env) {R : List Pa → List Pa → Prop} (hR : ∀ ps rs, R ps rs → ps.length ≤ 59 ∧ pwp env pc15 (fun e s => (e = .normal ∨ e = .ret) ∧ s.res pr15 = some rs) (St.init ps)) : Spec Try.prog 15 R :=
  fn_sound hE eqsOK mixedOK Try.func15 bd15 cp15 (by kernel_rfl) (by kernel_rfl) hR

/-! interleave/stamp.stamps -/
def pc18 : PC :=
 .seq (.reg false [⟨(some 2), .nilRow 36 8, none, []⟩])
  (.seq (.reg false [⟨(some 3), .new [(.int .i64 0), (.int .i64 0), (.int .i64 0), (.int .i64 0), (.int .i64 0), (.int .i64 0), (.int .i64 0), (.int .i64 0), (.int .i64 0), (.int .i64 0), (.int .i64 0), (.int .i64 0), (.int .i64 0), (.int .i64 0), (.int .i64 0), (.int .i64 0), (.int .i64 0), (.int .i64 0), (.int .i64 0), (.int .i64 0), (.int .i64 0), (.int .i64 0), (.int .i64 0), (.int .i64 0), (.int .i64 0), (.int .i64 0), (.int .i64 0), (.int .i64 0), (.int .i64 0), (.int .i64 0), (.int .i64 0), (.int .i64 0), (.int .i64 0), (.int .i64 0), (.int .i64 0), (.int .i64 0), (.int .i64 0), (.int .i64 0), (.int .i64 0), (.int .i64 0), (.int .i64 0), (.int .i64 0), (.int .i64 0), (.int .i64 0), (.int .i64 0), (.int .i64 0), (.int .i64 0), (.int .i64 0), (.int .i64 0), (.int .i64 0), (.int .i64 0), (.int .i64 0), (.int .i64 0), (.int .i64 0), (.int .i64 0), (.int .i64 0), (.int .i64 0), (.int .i64 0), (.int .i64 0), (.int .i64 0), (.int .i64 0), (.int .i64 0), (.int .i64 0), (.int .i64 0)], none, []⟩,
        ⟨(some 4), .new [(.int .i64 0), (.int .i64 0), (.int .i64 0), (.int .i64 0), (.int .i64 0), (.int .i64 0), (.int .i64 0), (.int .i64 0), (.int .i64 0), (.int .i64 0), (.int .i64 0), (.int .i64 0), (.int .i64 0), (.int .i64 0), (.int .i64 0), (.int .i64 0), (.int .i64 0), (.int .i64 0), (.int .i64 0), (.int .i64 0), (.int .i64 0), (.int .i64 0), (.int .i64 0), (.int .i64 0), (.int .i64 0), (.int .i64 0), (.int .i64 0), (.int .i64 0), (.int .i64 0), (.int .i64 0), (.int .i64 0), (.int .i64 0), (.int .i64 0), (.int .i64 0), (.int .i64 0), (.int .i64 0), (.int .i64 0), (.int .i64 0), (.int .i64 0), (.int .i64 0), (.int .i64 0), (.int .i64 0), (.int .i64 0), (.int .i64 0), (.int .i64 0), (.int .i64 0), (.int .i64 0), (.int .i64 0), (.int .i64 0), (.int .i64 0), (.int .i64 0), (.int .i64 0), (.int .i64 0), (.int .i64 0), (.int .i64 0), (.int .i64 0), (.int .i64 0), (.int .i64 0), (.int .i64 0), (.int .i64 0), (.int .i64 0), (.int .i64 0), (.int .i64 0), (.int .i64 0)], none, []⟩])
   (.seq (.reg false [⟨(some 12), .mv (.t 0), none, []⟩,
         ⟨(some 13), .len (.t 12), none, [0]⟩,
         ⟨(some 14), .mk 8 64 [(.int .i64 0), (.int .i64 0), (.int .i64 0), (.int .i64 0), (.int .i64 0), (.int .i64 0), (.int .i64 0), (.int .i64 0)] (.t 13) (.t 13), none, [1, 1]⟩,
         ⟨(some 5), .mv (.t 14), none, [2, 0, 1, 2]⟩])
    (.seq (.seq (.reg false [⟨(some 15), .mv (.t 0), none, []⟩,
           ⟨(some 16), .len (.t 15), none, [0]⟩,
           ⟨(some 17), .mv (.v (.int .i64 0)), none, []⟩])
      (.block 0 (.loop (.seq (.reg false [⟨(some 18), .bin .lss (.t 17) (.t 16), none, []⟩])
         (.seq (.cond (.t 18)
            (.skip)
            (.exit 0))
          (.seq (.block 1 (.seq (.reg false [⟨(some 19), .mv (.t 17), none, []⟩,
                  ⟨(some 20), .ixs 9 (.t 15) (.t 17), none, []⟩,
                  ⟨(some 21), .load (some 9) (.t 20), none, [1]⟩,
                  ⟨(some 7), .new [(.int .i64 0), (.int .i64 0), (.int .i64 0), (.int .i64 0), (.int .i64 0), (.int .i64 0), (.int .i64 0), (.int .i64 0), (.int .i64 0)], none, []⟩,
                  ⟨(some 6), .mv (.t 19), none, [0, 0, 1, 2, 3]⟩,
                  ⟨none, .store 9 (.t 7) (.t 21), none, [3, 2, 4, 0, 1, 2, 3, 4]⟩])
             (.seq (.reg false [⟨(some 22), .fld 0 (.t 7), none, []⟩,
                   ⟨(some 23), .load none (.t 22), none, [0]⟩,
                   ⟨(some 24), .ixa 8 8 (.t 3) (.t 23), none, [1]⟩,
                   ⟨(some 25), .load (some 8) (.t 24), none, [2]⟩,
                   ⟨(some 8), .new [(.int .i64 0), (.int .i64 0), (.int .i64 0), (.int .i64 0), (.int .i64 0), (.int .i64 0), (.int .i64 0), (.int .i64 0)], none, []⟩,
                   ⟨none, .store 8 (.t 8) (.t 25), none, [4, 3, 0, 1, 2, 3, 4]⟩])
              (.seq (.seq (.reg false [⟨(some 26), .load (some 8) (.t 8), none, []⟩,
                     ⟨(some 27), .build [(.int .i64 0), (.int .i64 0), (.int .i64 0), (.int .i64 0), (.int .i64 0), (.int .i64 0), (.int .i64 0), (.int .i64 0)] [], none, []⟩,
                     ⟨(some 28), .eqs false [false, false, false, false, false, false, false, false] (.t 26) (.t 27), none, [0, 1]⟩])
                (.cond (.t 28)
                  (.reg false [⟨(some 29), .fld 0 (.t 7), none, []⟩,
                       ⟨(some 30), .load none (.t 29), none, [0]⟩,
                       ⟨(some 31), .ixa 8 8 (.t 4) (.t 30), none, [1]⟩,
                       ⟨(some 32), .load (some 8) (.t 31), none, [2]⟩,
                       ⟨none, .store 8 (.t 8) (.t 32), none, [3, 0, 1, 2, 3]⟩])
                  (.skip)))
               (.seq (.reg false [⟨(some 9), .mv (.v (.int .i64 (-1))), none, []⟩])
                (.seq (.seq (.reg false [⟨(some 33), .mv (.t 0), none, []⟩,
                       ⟨(some 34), .mv (.t 6), none, []⟩,
                       ⟨(some 35), .slc 9 (.t 33) none (some (.t 34)), none, [0, 1]⟩,
                       ⟨(some 36), .len (.t 35), none, [2]⟩,
                       ⟨(some 37), .mv (.v (.int .i64 0)), none, []⟩])
                  (.block 2 (.loop (.seq (.reg false [⟨(some 38), .bin .lss (.t 37) (.t 36), none, []⟩])
                     (.seq (.cond (.t 38)
                        (.skip)
                        (.exit 2))
                      (.seq (.block 3 (.seq (.reg false [⟨(some 39), .mv (.t 37), none, []⟩,
                              ⟨(some 40), .ixs 9 (.t 35) (.t 37), none, []⟩,
                              ⟨(some 41), .load (some 9) (.t 40), none, [1]⟩,
                              ⟨(some 11), .new [(.int .i64 0), (.int .i64 0), (.int .i64 0), (.int .i64 0), (.int .i64 0), (.int .i64 0), (.int .i64 0), (.int .i64 0), (.int .i64 0)], none, []⟩,
                              ⟨(some 10), .mv (.t 39), none, [0, 0, 1, 2, 3]⟩,
                              ⟨none, .store 9 (.t 11) (.t 41), none, [3, 2, 4, 0, 1, 2, 3, 4]⟩])
                         (.seq (.seq (.reg false [⟨(some 42), .load (some 9) (.t 11), none, []⟩,
                                ⟨(some 43), .load (some 9) (.t 7), none, []⟩,
                                ⟨(some 44), .call 22 [(.t 42), (.t 43)], none, [0, 1]⟩])
                           (.cond (.t 44)
                             (.reg true [⟨(some 45), .load (some 8) (.t 8), none, []⟩,
                                  ⟨(some 46), .mv (.t 5), none, []⟩,
                                  ⟨(some 47), .mv (.t 10), none, []⟩,
                                  ⟨(some 48), .ixs 8 (.t 46) (.t 47), none, [1, 2]⟩,
                                  ⟨(some 49), .load (some 8) (.t 48), none, [3]⟩,
                                  ⟨(some 50), .call 23 [(.t 45), (.t 49)], none, [0, 4]⟩,
                                  ⟨none, .store 8 (.t 8) (.t 50), none, [5, 5, 0, 1, 2, 3, 4, 5]⟩])
                             (.skip)))
                          (.seq (.reg false [⟨(some 51), .fld 2 (.t 11), none, []⟩,
                                ⟨(some 52), .load none (.t 51), none, [0]⟩,
                                ⟨(some 53), .fld 2 (.t 7), none, []⟩,
                                ⟨(some 54), .load none (.t 53), none, [2]⟩,
                                ⟨(some 55), .bin .eql (.t 52) (.t 54), none, [1, 3]⟩,
                                ⟨(some 56), .mv (.t 55), none, [4]⟩,
                                ⟨(some 57), .fld 3 (.t 11), (some (56, true)), [5]⟩,
                                ⟨(some 58), .load none (.t 57), (some (56, true)), [6, 5]⟩,
                                ⟨(some 59), .fld 3 (.t 7), (some (56, true)), [5]⟩,
                                ⟨(some 60), .load none (.t 59), (some (56, true)), [8, 5]⟩,
                                ⟨(some 61), .bin .eql (.t 58) (.t 60), (some (56, true)), [7, 9, 5]⟩,
                                ⟨(some 62), .pick (.t 56) (.t 61) (.v (.bool false)), none, [5, 10]⟩,
                                ⟨(some 63), .mv (.t 62), none, [11, 5]⟩,
                                ⟨(some 64), .fld 1 (.t 11), (some (63, true)), [12]⟩,
                                ⟨(some 65), .load none (.t 64), (some (63, true)), [13, 12]⟩,
                                ⟨(some 66), .bin .eql (.t 65) (.v (.int .i64 4)), (some (63, true)), [14, 12]⟩,
                                ⟨(some 67), .mv (.t 66), (some (63, true)), [15, 12, 12]⟩,
                                ⟨(some 68), .fld 1 (.t 11), (some (67, false)), [16]⟩,
                                ⟨(some 69), .load none (.t 68), (some (67, false)), [17, 16]⟩,
                                ⟨(some 70), .bin .eql (.t 69) (.v (.int .i64 5)), (some (67, false)), [18, 16]⟩,
                                ⟨(some 71), .pick (.t 67) (.v (.bool true)) (.t 70), (some (63, true)), [16, 19, 12]⟩,
                                ⟨(some 72), .pick (.t 63) (.t 71) (.v (.bool false)), none, [12, 20]⟩])
                           (.cond (.t 72)
                             (.reg false [⟨(some 73), .mv (.t 10), none, []⟩,
                                  ⟨(some 9), .mv (.t 73), none, [0, 0]⟩])
                             (.skip))))))
                       (.reg false [⟨(some 74), .bin .add (.t 37) (.v (.int .i64 1)), none, []⟩,
                            ⟨(some 37), .mv (.t 74), none, [0]⟩])))))))
                 (.seq (.seq (.reg false [⟨(some 75), .mv (.t 9), none, []⟩,
                        ⟨(some 76), .bin .geq (.t 75) (.v (.int .i64 0)), none, [0]⟩,
                        ⟨(some 77), .mv (.t 76), none, [1]⟩,
                        ⟨(some 78), .fld 1 (.t 7), (some (77, true)), [2]⟩,
                        ⟨(some 79), .load none (.t 78), (some (77, true)), [3, 2]⟩,
                        ⟨(some 80), .bin .eql (.t 79) (.v (.int .i64 3)), (some (77, true)), [4, 2]⟩,
                        ⟨(some 81), .mv (.t 80), (some (77, true)), [5, 2, 2]⟩,
                        ⟨(some 82), .fld 1 (.t 7), (some (81, false)), [6]⟩,
                        ⟨(some 83), .load none (.t 82), (some (81, false)), [7, 6]⟩,
                        ⟨(some 84), .bin .eql (.t 83) (.v (.int .i64 5)), (some (81, false)), [8, 6]⟩,
                        ⟨(some 85), .pick (.t 81) (.v (.bool true)) (.t 84), (some (77, true)), [6, 9, 2]⟩,
                        ⟨(some 86), .pick (.t 77) (.t 85) (.v (.bool false)), none, [2, 10]⟩])
                   (.cond (.t 86)
                     (.reg true [⟨(some 87), .load (some 8) (.t 8), none, []⟩,
                          ⟨(some 88), .mv (.t 5), none, []⟩,
                          ⟨(some 89), .mv (.t 9), none, []⟩,
                          ⟨(some 90), .ixs 8 (.t 88) (.t 89), none, [1, 2]⟩,
                          ⟨(some 91), .load (some 8) (.t 90), none, [3]⟩,
                          ⟨(some 92), .call 23 [(.t 87), (.t 91)], none, [0, 4]⟩,
                          ⟨none, .store 8 (.t 8) (.t 92), none, [5, 5, 0, 1, 2, 3, 4, 5]⟩])
                     (.skip)))
                  (.seq (.reg false [⟨(some 93), .fld 0 (.t 7), none, []⟩,
                        ⟨(some 94), .load none (.t 93), none, [0]⟩,
                        ⟨(some 95), .ixa 8 1 (.t 8) (.t 94), none, [1]⟩,
                        ⟨(some 96), .load none (.t 95), none, [2]⟩,
                        ⟨(some 97), .bin .add (.t 96) (.v (.int .i64 1)), none, [3]⟩,
                        ⟨(some 98), .ixa 8 1 (.t 8) (.t 94), none, [1, 0, 1, 2, 3, 4]⟩,
                        ⟨none, .store 1 (.t 98) (.t 97), none, [5, 4, 0, 1, 2, 3, 4]⟩])
                   (.seq (.reg true [⟨(some 99), .mv (.t 5), none, []⟩,
                         ⟨(some 100), .mv (.t 6), none, []⟩,
                         ⟨(some 101), .fld 0 (.t 7), none, []⟩,
                         ⟨(some 102), .load none (.t 101), none, [2]⟩,
                         ⟨(some 103), .load (some 8) (.t 8), none, []⟩,
                         ⟨(some 104), .load (some 8) (.t 8), none, []⟩,
                         ⟨(some 105), .ixs 8 (.t 99) (.t 100), none, [0, 1, 0, 1, 4]⟩,
                         ⟨none, .store 8 (.t 105) (.t 103), none, [6, 4, 0, 1, 4]⟩,
                         ⟨(some 106), .ixa 8 8 (.t 3) (.t 102), none, [3, 0, 1, 2, 3, 4, 5, 6, 7]⟩,
                         ⟨none, .store 8 (.t 106) (.t 104), none, [8, 5, 7, 0, 1, 2, 3, 4, 5, 6, 7]⟩])
                    (.seq (.reg false [⟨(some 107), .fld 1 (.t 7), none, []⟩,
                          ⟨(some 108), .load none (.t 107), none, [0]⟩,
                          ⟨(some 109), .bin .eql (.t 108) (.v (.int .i64 14)), none, [1]⟩])
                     (.cond (.t 109)
                       (.reg false [⟨(some 110), .fld 4 (.t 7), none, []⟩,
                            ⟨(some 111), .load none (.t 110), none, [0]⟩,
                            ⟨(some 112), .load (some 8) (.t 8), none, []⟩,
                            ⟨(some 113), .ixa 8 8 (.t 4) (.t 111), none, [1, 0, 1, 2]⟩,
                            ⟨none, .store 8 (.t 113) (.t 112), none, [3, 2, 0, 1, 2]⟩])
                       (.skip))))))))))))
           (.reg false [⟨(some 114), .bin .add (.t 17) (.v (.int .i64 1)), none, []⟩,
                ⟨(some 17), .mv (.t 114), none, [0]⟩])))))))
     (.seq (.reg false [⟨(some 115), .mv (.t 5), none, []⟩,
           ⟨(some 2), .mv (.t 115), none, [0, 0]⟩])
      (.ret)))))
def pr18 : List PR := [.t 2]
abbrev ms18_0 : List Nat := [18, 19, 20, 21, 7, 6, 22, 23, 24, 25, 8, 26, 27, 28, 29, 30, 31, 32, 9, 33, 34, 35, 36, 37, 38, 39, 40, 41, 11, 10, 42, 43, 44, 45, 46, 47, 48, 49, 50, 51, 52, 53, 54, 55, 56, 57, 58, 59, 60, 61, 62, 63, 64, 65, 66, 67, 68, 69, 70, 71, 72, 73, 74, 75, 76, 77, 78, 79, 80, 81, 82, 83, 84, 85, 86, 87, 88, 89, 90, 91, 92, 93, 94, 95, 96, 97, 98, 99, 100, 101, 102, 103, 104, 105, 106, 107, 108, 109, 110, 111, 112, 113, 114, 17]
abbrev os18_0 : List Nat := [7, 8, 11, 105, 3, 4]
abbrev ms18_1 : List Nat := [38, 39, 40, 41, 11, 10, 42, 43, 44, 45, 46, 47, 48, 49, 50, 51, 52, 53, 54, 55, 56, 57, 58, 59, 60, 61, 62, 63, 64, 65, 66, 67, 68, 69, 70, 71, 72, 73, 9, 74, 37]
abbrev os18_1 : List Nat := [11, 8]
theorem bd18 : Try.f18.body = some (Try.f18.body.getD .skip) := by kernel_rfl
theorem cp18 : compC Try.prog Try.f18.ntmps eqsL (Try.f18.body.getD .skip) = some pc18 := by kernel_rfl
theorem sp18 [WInv] {env : Env} (hE : EnvOK Try.prog env) {R : List Pa → List Pa → Prop} (hR : ∀ ps rs, R ps rs → ps.length ≤ 116 ∧ pwp env pc18 (fun e s => (e = .normal ∨ e = .ret) ∧ s.res pr18 = some rs) (St.init ps)) : Spec Try.prog 18 R :=
  fn_sound hE eqsOK mixedOK Try.func18 bd18 cp18 (by kernel_rfl) (by kernel_rfl) hR

/-! interleave/stamp.synchronizes -/
def pc22 : PC :=
 .seq (.reg false [⟨(some 2), .box (.t 0), none, []⟩,
       ⟨(some 3), .box (.t 1), none, []⟩,
       ⟨(some 4), .mv (.v (.bool false)), none, []⟩])
  (.seq (.seq (.reg false [⟨(some 5), .fld 2 (.t 2), none, []⟩,
         ⟨(some 6), .load none (.t 5), none, [0]⟩,
         ⟨(some 7), .fld 2 (.t 3), none, []⟩,
         ⟨(some 8), .load none (.t 7), none, [2]⟩,
         ⟨(some 9), .bin .neq (.t 6) (.t 8), none, [1, 3]⟩,
         ⟨(some 10), .mv (.t 9), none, [4]⟩,
         ⟨(some 11), .fld 3 (.t 2), (some (10, false)), [5]⟩,
         ⟨(some 12), .load none (.t 11), (some (10, false)), [6, 5]⟩,
         ⟨(some 13), .fld 3 (.t 3), (some (10, false)), [5]⟩,
         ⟨(some 14), .load none (.t 13), (some (10, false)), [8, 5]⟩,
         ⟨(some 15), .bin .neq (.t 12) (.t 14), (some (10, false)), [7, 9, 5]⟩,
         ⟨(some 16), .pick (.t 10) (.v (.bool true)) (.t 15), none, [5, 10]⟩])
    (.cond (.t 16)
      (.seq (.reg false [⟨(some 4), .mv (.v (.bool false)), none, []⟩])
       (.ret))
      (.skip)))
   (.seq (.seq (.reg false [⟨(some 17), .fld 1 (.t 3), none, []⟩,
          ⟨(some 18), .load none (.t 17), none, [0]⟩])
     (.block 0 (.seq (.reg false [⟨(some 20), .bin .eql (.t 18) (.v (.int .i64 18)), none, []⟩,
            ⟨(some 19), .mv (.t 20), none, [0]⟩])
       (.cond (.t 19)
         (.seq (.reg false [⟨(some 21), .fld 1 (.t 2), none, []⟩,
               ⟨(some 22), .load none (.t 21), none, [0]⟩,
               ⟨(some 23), .bin .eql (.t 22) (.v (.int .i64 15)), none, [1]⟩,
               ⟨(some 24), .mv (.t 23), none, [2]⟩,
               ⟨(some 25), .fld 4 (.t 2), (some (24, true)), [3]⟩,
               ⟨(some 26), .load none (.t 25), (some (24, true)), [4, 3]⟩,
               ⟨(some 27), .fld 4 (.t 3), (some (24, true)), [3]⟩,
               ⟨(some 28), .load none (.t 27), (some (24, true)), [6, 3]⟩,
               ⟨(some 29), .bin .eql (.t 26) (.t 28), (some (24, true)), [5, 7, 3]⟩,
               ⟨(some 30), .pick (.t 24) (.t 29) (.v (.bool false)), none, [3, 8]⟩,
               ⟨(some 4), .mv (.t 30), none, [9, 3, 0, 1, 2, 3, 4, 5, 6, 7, 8, 9]⟩])
          (.ret))
         (.seq (.reg false [⟨(some 32), .bin .eql (.t 18) (.v (.int .i64 16)), none, []⟩,
               ⟨(some 31), .mv (.t 32), none, [0]⟩])
          (.cond (.t 31)
            (.seq (.reg false [⟨(some 33), .fld 1 (.t 2), none, []⟩,
                  ⟨(some 34), .load none (.t 33), none, [0]⟩,
                  ⟨(some 35), .bin .eql (.t 34) (.v (.int .i64 17)), none, [1]⟩,
                  ⟨(some 36), .mv (.t 35), none, [2]⟩,
                  ⟨(some 37), .fld 4 (.t 3), (some (36, true)), [3]⟩,
                  ⟨(some 38), .load none (.t 37), (some (36, true)), [4, 3]⟩,
                  ⟨(some 39), .fld 4 (.t 2), (some (36, true)), [3]⟩,
                  ⟨(some 40), .load none (.t 39), (some (36, true)), [6, 3]⟩,
                  ⟨(some 41), .fld 5 (.t 3), (some (36, true)), [3]⟩,
                  ⟨(some 42), .load none (.t 41), (some (36, true)), [8, 3]⟩,
                  ⟨(some 43), .bin .add (.t 40) (.t 42), (some (36, true)), [7, 9, 3]⟩,
                  ⟨(some 44), .bin .eql (.t 38) (.t 43), (some (36, true)), [5, 10, 3]⟩,
                  ⟨(some 45), .pick (.t 36) (.t 44) (.v (.bool false)), none, [3, 11]⟩,
                  ⟨(some 4), .mv (.t 45), none, [12, 3, 0, 1, 2, 3, 4, 5, 6, 7, 8, 9, 10, 11, 12]⟩])
             (.ret))
            (.seq (.reg false [⟨(some 47), .bin .eql (.t 18) (.v (.int .i64 20)), none, []⟩,
                  ⟨(some 46), .mv (.t 47), none, [0]⟩])
             (.cond (.t 46)
               (.seq (.reg false [⟨(some 48), .fld 1 (.t 2), none, []⟩,
                     ⟨(some 49), .load none (.t 48), none, [0]⟩,
                     ⟨(some 50), .bin .eql (.t 49) (.v (.int .i64 19)), none, [1]⟩,
                     ⟨(some 4), .mv (.t 50), none, [2, 0, 1, 2]⟩])
                (.ret))
               (.seq (.reg false [⟨(some 52), .bin .eql (.t 18) (.v (.int .i64 6)), none, []⟩,
                     ⟨(some 51), .mv (.t 52), none, [0]⟩])
                (.cond (.t 51)
                  (.seq (.reg false [⟨(some 53), .fld 1 (.t 2), none, []⟩,
                        ⟨(some 54), .load none (.t 53), none, [0]⟩,
                        ⟨(some 55), .bin .eql (.t 54) (.v (.int .i64 7)), none, [1]⟩,
                        ⟨(some 56), .mv (.t 55), none, [2]⟩,
                        ⟨(some 57), .fld 1 (.t 2), (some (56, false)), [3]⟩,
                        ⟨(some 58), .load none (.t 57), (some (56, false)), [4, 3]⟩,
                        ⟨(some 59), .bin .eql (.t 58) (.v (.int .i64 9)), (some (56, false)), [5, 3]⟩,
                        ⟨(some 60), .pick (.t 56) (.v (.bool true)) (.t 59), none, [3, 6]⟩,
                        ⟨(some 4), .mv (.t 60), none, [7, 3, 0, 1, 2, 3, 4, 5, 6, 7]⟩])
                   (.ret))
                  (.seq (.reg false [⟨(some 62), .bin .eql (.t 18) (.v (.int .i64 8)), none, []⟩,
                        ⟨(some 61), .mv (.t 62), none, [0]⟩])
                   (.cond (.t 61)
                     (.seq (.reg false [⟨(some 63), .fld 1 (.t 2), none, []⟩,
                           ⟨(some 64), .load none (.t 63), none, [0]⟩,
                           ⟨(some 65), .bin .eql (.t 64) (.v (.int .i64 7)), none, [1]⟩,
                           ⟨(some 4), .mv (.t 65), none, [2, 0, 1, 2]⟩])
                      (.ret))
                     (.seq (.reg false [⟨(some 67), .bin .eql (.t 18) (.v (.int .i64 11)), none, []⟩,
                           ⟨(some 66), .mv (.t 67), none, [0]⟩])
                      (.cond (.t 66)
                        (.seq (.reg false [⟨(some 68), .fld 1 (.t 2), none, []⟩,
                              ⟨(some 69), .load none (.t 68), none, [0]⟩,
                              ⟨(some 70), .bin .eql (.t 69) (.v (.int .i64 10)), none, [1]⟩,
                              ⟨(some 4), .mv (.t 70), none, [2, 0, 1, 2]⟩])
                         (.ret))
                        (.seq (.reg false [⟨(some 72), .bin .eql (.t 18) (.v (.int .i64 13)), none, []⟩,
                              ⟨(some 71), .mv (.t 72), none, [0]⟩])
                         (.cond (.t 71)
                           (.seq (.reg false [⟨(some 73), .fld 1 (.t 2), none, []⟩,
                                 ⟨(some 74), .load none (.t 73), none, [0]⟩,
                                 ⟨(some 75), .bin .eql (.t 74) (.v (.int .i64 12)), none, [1]⟩,
                                 ⟨(some 4), .mv (.t 75), none, [2, 0, 1, 2]⟩])
                            (.ret))
                           (.skip)))))))))))))))))
    (.seq (.reg false [⟨(some 4), .mv (.v (.bool false)), none, []⟩])
     (.ret))))
def pr22 : List PR := [.t 4]
theorem bd22 : Try.f22.body = some (Try.f22.body.getD .skip) := by kernel_rfl
theorem cp22 : compC Try.prog Try.f22.ntmps eqsL (Try.f22.body.getD .skip) = some pc22 := by kernel_rfl
theorem sp22 [WInv] {env : Env} (hE : EnvOK Try.prog env) {R : List Pa → List Pa → Prop} (hR : ∀ ps rs, R ps rs → ps.length ≤ 76 ∧ pwp env pc22 (fun e s => (e = .normal ∨ e = .ret) ∧ s.res pr22 = some rs) (St.init ps)) : Spec Try.prog 22 R :=
  fn_sound hE eqsOK mixedOK Try.func22 bd22 cp22 (by kernel_rfl) (by kernel_rfl) hR

/-! interleave/clock.Join -/
def pc23 : PC :=
 .seq (.reg false [⟨(some 2), .box (.t 0), none, []⟩,
       ⟨(some 3), .box (.t 1), none, []⟩,
       ⟨(some 4), .new [(.int .i64 0), (.int .i64 0), (.int .i64 0), (.int .i64 0), (.int .i64 0), (.int .i64 0), (.int .i64 0), (.int .i64 0)], none, []⟩])
  (.seq (.seq (.reg false [⟨(some 6), .mv (.v (.int .i64 0)), none, []⟩])
    (.block 0 (.loop (.seq (.reg false [⟨(some 7), .bin .lss (.t 6) (.v (.int .i64 8)), none, []⟩])
       (.seq (.cond (.t 7)
          (.skip)
          (.exit 0))
        (.seq (.block 1 (.seq (.reg false [⟨(some 8), .mv (.t 6), none, []⟩,
                ⟨(some 5), .mv (.t 8), none, [0, 0]⟩])
           (.reg true [⟨(some 9), .mv (.t 5), none, []⟩,
                ⟨(some 10), .mv (.t 5), none, []⟩,
                ⟨(some 11), .ixa 8 1 (.t 2) (.t 10), none, [1]⟩,
                ⟨(some 12), .load none (.t 11), none, [2]⟩,
                ⟨(some 13), .mv (.t 5), none, []⟩,
                ⟨(some 14), .ixa 8 1 (.t 3) (.t 13), none, [4]⟩,
                ⟨(some 15), .load none (.t 14), none, [5]⟩,
                ⟨(some 16), .mm true [(.t 12), (.t 15)], none, [3, 6]⟩,
                ⟨(some 17), .ixa 8 1 (.t 2) (.t 9), none, [0, 0, 1, 2, 3, 4, 5, 6, 7]⟩,
                ⟨none, .store 1 (.t 17) (.t 16), none, [8, 7, 0, 1, 2, 3, 4, 5, 6, 7]⟩])))
         (.reg false [⟨(some 18), .bin .add (.t 6) (.v (.int .i64 1)), none, []⟩,
              ⟨(some 6), .mv (.t 18), none, [0]⟩])))))))
   (.seq (.reg false [⟨(some 19), .load (some 8) (.t 2), none, []⟩,
         ⟨none, .store 8 (.t 4) (.t 19), none, [0, 0]⟩])
    (.ret)))
def pr23 : List PR := [.c 4 (some 8)]
abbrev ms23_0 : List Nat := [7, 8, 5, 9, 10, 11, 12, 13, 14, 15, 16, 17, 18, 6]
abbrev os23_0 : List Nat := [2]
theorem bd23 : Try.f23.body = some (Try.f23.body.getD .skip) := by kernel_rfl
theorem cp23 : compC Try.prog Try.f23.ntmps eqsL (Try.f23.body.getD .skip) = some pc23 := by kernel_rfl
theorem sp23 [WInv] {env : Env} (hE : EnvOK Try.prog env) {R : List Pa → List Pa → Prop} (hR : ∀ ps rs, R ps rs → ps.length ≤ 20 ∧ pwp env pc23 (fun e s => (e = .normal ∨ e = .ret) ∧ s.res pr23 = some rs) (St.init ps)) : Spec Try.prog 23 R :=
  fn_sound hE eqsOK mixedOK Try.func23 bd23 cp23 (by kernel_rfl) (by kernel_rfl) hR

/-! interleave/interleaveref35.Stamps -/
def pc11 : PC :=
 .seq (.reg false [⟨(some 2), .nilRow 36 8, none, []⟩,
       ⟨(some 3), .mv (.v (.int .i64 0)), none, [0]⟩])
  (.seq (.seq (.reg false [⟨(some 9), .mv (.t 0), none, []⟩,
         ⟨(some 10), .call 13 [(.t 9)], none, [0]⟩,
         ⟨(some 11), .un .not (.t 10), none, [1]⟩])
    (.cond (.t 11)
      (.seq (.reg false [⟨(some 2), .nilRow 36 8, none, []⟩,
            ⟨(some 3), .mv (.v (.int .i64 1)), none, [0, 0]⟩])
       (.ret))
      (.skip)))
   (.seq (.reg false [⟨(some 12), .mv (.t 0), none, []⟩,
         ⟨(some 13), .call 14 [(.t 12)], none, [0]⟩,
         ⟨(some 4), .mv (.t 13), none, [1, 1, 0, 1]⟩])
    (.seq (.reg false [⟨(some 5), .nilRow 36 8, none, []⟩])
     (.seq (.seq (.reg false [⟨(some 6), .mv (.v (.int .i64 0)), none, []⟩])
       (.block 0 (.loop (.seq (.seq (.reg false [⟨(some 14), .mv (.t 6), none, []⟩,
                ⟨(some 15), .mv (.t 0), none, []⟩,
                ⟨(some 16), .len (.t 15), none, [1]⟩,
                ⟨(some 17), .bin .lss (.t 14) (.t 16), none, [0, 2]⟩])
           (.cond (.t 17)
             (.skip)
             (.exit 0)))
          (.seq (.block 1 (.seq (.reg false [⟨(some 7), .new [(.int .i64 0), (.int .i64 0), (.int .i64 0), (.int .i64 0), (.int .i64 0), (.int .i64 0), (.int .i64 0), (.int .i64 0)], none, []⟩])
             (.seq (.seq (.reg false [⟨(some 8), .mv (.v (.int .i64 0)), none, []⟩])
               (.block 2 (.loop (.seq (.seq (.reg false [⟨(some 20), .mv (.t 8), none, []⟩,
                        ⟨(some 21), .mv (.t 6), none, []⟩,
                        ⟨(some 22), .bin .leq (.t 20) (.t 21), none, [0, 1]⟩])
                   (.cond (.t 22)
                     (.skip)
                     (.exit 2)))
                  (.seq (.block 3 (.seq (.reg false [⟨(some 25), .mv (.t 8), none, []⟩,
                          ⟨(some 26), .mv (.t 6), none, []⟩,
                          ⟨(some 27), .bin .eql (.t 25) (.t 26), none, [0, 1]⟩,
                          ⟨(some 28), .mv (.t 27), none, [2]⟩,
                          ⟨(some 29), .mv (.t 4), (some (28, false)), [3]⟩,
                          ⟨(some 30), .mv (.t 8), (some (28, false)), [3]⟩,
                          ⟨(some 31), .ixs 1 (.t 29) (.t 30), (some (28, false)), [4, 5, 3]⟩,
                          ⟨(some 32), .load none (.t 31), (some (28, false)), [6, 3]⟩,
                          ⟨(some 33), .mv (.t 6), (some (28, false)), [3]⟩,
                          ⟨(some 34), .ixs 1 (.t 32) (.t 33), (some (28, false)), [7, 8, 3]⟩,
                          ⟨(some 35), .load none (.t 34), (some (28, false)), [9, 3]⟩,
                          ⟨(some 36), .pick (.t 28) (.v (.bool true)) (.t 35), none, [3, 10]⟩])
                     (.cond (.t 36)
                       (.reg false [⟨(some 37), .mv (.t 0), none, []⟩,
                            ⟨(some 38), .mv (.t 8), none, []⟩,
                            ⟨(some 39), .ixs 9 (.t 37) (.t 38), none, [0, 1]⟩,
                            ⟨(some 40), .fld 0 (.t 39), none, [2]⟩,
                            ⟨(some 41), .load none (.t 40), none, [3]⟩,
                            ⟨(some 42), .ixa 8 1 (.t 7) (.t 41), none, [4]⟩,
                            ⟨(some 43), .load none (.t 42), none, [5]⟩,
                            ⟨(some 44), .bin .add (.t 43) (.v (.int .i64 1)), none, [6]⟩,
                            ⟨(some 45), .ixa 8 1 (.t 7) (.t 41), none, [4, 0, 1, 2, 3, 4, 5, 6, 7]⟩,
                            ⟨none, .store 1 (.t 45) (.t 44), none, [8, 7, 0, 1, 2, 3, 4, 5, 6, 7]⟩])
                       (.skip))))
                   (.reg false [⟨(some 23), .mv (.t 8), none, []⟩,
                        ⟨(some 24), .bin .add (.t 23) (.v (.int .i64 1)), none, [0]⟩,
                        ⟨(some 8), .mv (.t 24), none, [1, 0, 1]⟩]))))))
              (.reg false [⟨(some 46), .mv (.t 5), none, []⟩,
                   ⟨(some 47), .load (some 8) (.t 7), none, []⟩,
                   ⟨(some 48), .bslice 36 8 [(.int .i64 0), (.int .i64 0), (.int .i64 0), (.int .i64 0), (.int .i64 0), (.int .i64 0), (.int .i64 0), (.int .i64 0)] 1 [(0, 8, (.t 47))], none, [1]⟩,
                   ⟨(some 49), .append 36 8 64 (.t 46) (.t 48), none, [0, 2]⟩,
                   ⟨(some 5), .mv (.t 49), none, [3, 3, 0, 1, 2, 3]⟩]))))
           (.reg false [⟨(some 18), .mv (.t 6), none, []⟩,
                ⟨(some 19), .bin .add (.t 18) (.v (.int .i64 1)), none, [0]⟩,
                ⟨(some 6), .mv (.t 19), none, [1, 0, 1]⟩]))))))
      (.seq (.reg false [⟨(some 50), .mv (.t 5), none, []⟩,
            ⟨(some 2), .mv (.t 50), none, [0, 0]⟩,
            ⟨(some 3), .mv (.v (.int .i64 0)), none, [1, 0, 1]⟩])
       (.ret))))))
def pr11 : List PR := [.t 2, .t 3]
abbrev ms11_0 : List Nat := [14, 15, 16, 17, 7, 8, 20, 21, 22, 25, 26, 27, 28, 29, 30, 31, 32, 33, 34, 35, 36, 37, 38, 39, 40, 41, 42, 43, 44, 45, 23, 24, 46, 47, 48, 49, 5, 18, 19, 6]
abbrev os11_0 : List Nat := [7, 48, 5]
abbrev ms11_1 : List Nat := [20, 21, 22, 25, 26, 27, 28, 29, 30, 31, 32, 33, 34, 35, 36, 37, 38, 39, 40, 41, 42, 43, 44, 45, 23, 24, 8]
abbrev os11_1 : List Nat := [7]
theorem bd11 : Try.f11.body = some (Try.f11.body.getD .skip) := by kernel_rfl
theorem cp11 : compC Try.prog Try.f11.ntmps eqsL (Try.f11.body.getD .skip) = some pc11 := by kernel_rfl
theorem sp11 [WInv] {env : Env} (hE : EnvOK Try.prog env) {R : List Pa → List Pa → Prop} (hR : ∀ ps rs, R ps rs → ps.length ≤ 51 ∧ pwp env pc11 (fun e s => (e = .normal ∨ e = .ret) ∧ s.res pr11 = some rs) (St.init ps)) : Spec Try.prog 11 R :=
  fn_sound hE eqsOK mixedOK Try.func11 bd11 cp11 (by kernel_rfl) (by kernel_rfl) hR

/-! interleave/interleaveref35.Same -/
def pc12 : PC :=
 .seq (.reg false [⟨(some 4), .mv (.v (.bool false)), none, []⟩])
  (.seq (.seq (.reg false [⟨(some 6), .mv (.t 0), none, []⟩,
         ⟨(some 7), .len (.t 6), none, [0]⟩,
         ⟨(some 8), .mv (.t 1), none, []⟩,
         ⟨(some 9), .len (.t 8), none, [2]⟩,
         ⟨(some 10), .bin .neq (.t 7) (.t 9), none, [1, 3]⟩])
    (.cond (.t 10)
      (.seq (.reg false [⟨(some 4), .mv (.v (.bool false)), none, []⟩])
       (.ret))
      (.skip)))
   (.seq (.seq (.reg false [⟨(some 5), .mv (.v (.int .i64 0)), none, []⟩])
     (.block 0 (.loop (.seq (.seq (.reg false [⟨(some 11), .mv (.t 5), none, []⟩,
              ⟨(some 12), .mv (.t 0), none, []⟩,
              ⟨(some 13), .len (.t 12), none, [1]⟩,
              ⟨(some 14), .bin .lss (.t 11) (.t 13), none, [0, 2]⟩])
         (.cond (.t 14)
           (.skip)
           (.exit 0)))
        (.seq (.block 1 (.seq (.reg true [⟨(some 17), .mv (.t 0), none, []⟩,
                ⟨(some 18), .mv (.t 5), none, []⟩,
                ⟨(some 19), .ixs 8 (.t 17) (.t 18), none, [0, 1]⟩,
                ⟨(some 20), .load (some 8) (.t 19), none, [2]⟩,
                ⟨(some 21), .mv (.t 1), none, []⟩,
                ⟨(some 22), .mv (.t 5), none, []⟩,
                ⟨(some 23), .ixs 8 (.t 21) (.t 22), none, [4, 5]⟩,
                ⟨(some 24), .load (some 8) (.t 23), none, [6]⟩,
                ⟨(some 25), .eqs true [false, false, false, false, false, false, false, false] (.t 20) (.t 24), none, [3, 7]⟩])
           (.cond (.t 25)
             (.seq (.reg false [⟨(some 4), .mv (.v (.bool false)), none, []⟩])
              (.ret))
             (.skip))))
         (.reg false [⟨(some 15), .mv (.t 5), none, []⟩,
              ⟨(some 16), .bin .add (.t 15) (.v (.int .i64 1)), none, [0]⟩,
              ⟨(some 5), .mv (.t 16), none, [1, 0, 1]⟩]))))))
    (.seq (.reg false [⟨(some 4), .mv (.v (.bool true)), none, []⟩])
     (.ret))))
def pr12 : List PR := [.t 4]
abbrev ms12_0 : List Nat := [11, 12, 13, 14, 17, 18, 19, 20, 21, 22, 23, 24, 25, 4, 15, 16, 5]
abbrev os12_0 : List Nat := []
theorem bd12 : Try.f12.body = some (Try.f12.body.getD .skip) := by kernel_rfl
theorem cp12 : compC Try.prog Try.f12.ntmps eqsL (Try.f12.body.getD .skip) = some pc12 := by kernel_rfl
theorem sp12 [WInv] {env : Env} (hE : EnvOK Try.prog env) {R : List Pa → List Pa → Prop} (hR : ∀ ps rs, R ps rs → ps.length ≤ 26 ∧ pwp env pc12 (fun e s => (e = .normal ∨ e = .ret) ∧ s.res pr12 = some rs) (St.init ps)) : Spec Try.prog 12 R :=
  fn_sound hE eqsOK mixedOK Try.func12 bd12 cp12 (by kernel_rfl) (by kernel_rfl) hR

/-! interleave/interleaveref34.Relation -/
def pc14 : PC :=
 .seq (.reg false [⟨(some 2), .nilRow 34 1, none, []⟩])
  (.seq (.reg false [⟨(some 8), .mv (.t 0), none, []⟩,
        ⟨(some 9), .len (.t 8), none, [0]⟩,
        ⟨(some 10), .mk 1 24 [(.slice none 0 0)] (.t 9) (.t 9), none, [1, 1]⟩,
        ⟨(some 3), .mv (.t 10), none, [2, 0, 1, 2]⟩])
   (.seq (.seq (.reg false [⟨(some 4), .mv (.v (.int .i64 0)), none, []⟩])
     (.block 0 (.loop (.seq (.seq (.reg false [⟨(some 11), .mv (.t 4), none, []⟩,
              ⟨(some 12), .mv (.t 0), none, []⟩,
              ⟨(some 13), .len (.t 12), none, [1]⟩,
              ⟨(some 14), .bin .lss (.t 11) (.t 13), none, [0, 2]⟩])
         (.cond (.t 14)
           (.skip)
           (.exit 0)))
        (.seq (.block 1 (.reg false [⟨(some 17), .mv (.t 3), none, []⟩,
               ⟨(some 18), .mv (.t 4), none, []⟩,
               ⟨(some 19), .mv (.t 0), none, []⟩,
               ⟨(some 20), .len (.t 19), none, [2]⟩,
               ⟨(some 21), .mk 1 1 [(.bool false)] (.t 20) (.t 20), none, [3, 3]⟩,
               ⟨(some 22), .ixs 1 (.t 17) (.t 18), none, [0, 1, 0, 1, 2, 3, 4]⟩,
               ⟨none, .store 1 (.t 22) (.t 21), none, [5, 4, 0, 1, 2, 3, 4]⟩]))
         (.reg false [⟨(some 15), .mv (.t 4), none, []⟩,
              ⟨(some 16), .bin .add (.t 15) (.v (.int .i64 1)), none, [0]⟩,
              ⟨(some 4), .mv (.t 16), none, [1, 0, 1]⟩]))))))
    (.seq (.seq (.reg false [⟨(some 5), .mv (.v (.int .i64 0)), none, []⟩])
      (.block 2 (.loop (.seq (.seq (.reg false [⟨(some 23), .mv (.t 5), none, []⟩,
               ⟨(some 24), .mv (.t 0), none, []⟩,
               ⟨(some 25), .len (.t 24), none, [1]⟩,
               ⟨(some 26), .bin .lss (.t 23) (.t 25), none, [0, 2]⟩])
          (.cond (.t 26)
            (.skip)
            (.exit 2)))
         (.seq (.block 3 (.seq (.reg false [⟨(some 29), .mv (.t 5), none, []⟩,
                 ⟨(some 30), .bin .sub (.t 29) (.v (.int .i64 1)), none, [0]⟩,
                 ⟨(some 6), .mv (.t 30), none, [1, 0, 1]⟩])
            (.block 4 (.loop (.seq (.seq (.reg false [⟨(some 31), .mv (.t 6), none, []⟩,
                     ⟨(some 32), .bin .geq (.t 31) (.v (.int .i64 0)), none, [0]⟩])
                (.cond (.t 32)
                  (.skip)
                  (.exit 4)))
               (.seq (.block 5 (.seq (.seq (.reg false [⟨(some 35), .mv (.t 0), none, []⟩,
                        ⟨(some 36), .mv (.t 6), none, []⟩,
                        ⟨(some 37), .mv (.t 5), none, []⟩,
                        ⟨(some 38), .call 20 [(.t 35), (.t 36), (.t 37)], none, [0, 1, 2]⟩,
                        ⟨(some 39), .un .not (.t 38), none, [3]⟩])
                   (.cond (.t 39)
                     (.exit 5)
                     (.skip)))
                  (.seq (.reg false [⟨(some 40), .mv (.t 3), none, []⟩,
                        ⟨(some 41), .mv (.t 6), none, []⟩,
                        ⟨(some 42), .ixs 1 (.t 40) (.t 41), none, [0, 1]⟩,
                        ⟨(some 43), .load none (.t 42), none, [2]⟩,
                        ⟨(some 44), .mv (.t 5), none, []⟩,
                        ⟨(some 45), .ixs 1 (.t 43) (.t 44), none, [3, 4, 0, 1, 2, 3, 4]⟩,
                        ⟨none, .store 1 (.t 45) (.v (.bool true)), none, [5, 0, 1, 2, 3, 4]⟩])
                   (.seq (.reg false [⟨(some 7), .mv (.v (.int .i64 0)), none, []⟩])
                    (.block 6 (.loop (.seq (.seq (.reg false [⟨(some 46), .mv (.t 7), none, []⟩,
                             ⟨(some 47), .mv (.t 6), none, []⟩,
                             ⟨(some 48), .bin .lss (.t 46) (.t 47), none, [0, 1]⟩])
                        (.cond (.t 48)
                          (.skip)
                          (.exit 6)))
                       (.seq (.block 7 (.seq (.reg false [⟨(some 51), .mv (.t 3), none, []⟩,
                               ⟨(some 52), .mv (.t 7), none, []⟩,
                               ⟨(some 53), .ixs 1 (.t 51) (.t 52), none, [0, 1]⟩,
                               ⟨(some 54), .load none (.t 53), none, [2]⟩,
                               ⟨(some 55), .mv (.t 6), none, []⟩,
                               ⟨(some 56), .ixs 1 (.t 54) (.t 55), none, [3, 4]⟩,
                               ⟨(some 57), .load none (.t 56), none, [5]⟩])
                          (.cond (.t 57)
                            (.reg false [⟨(some 58), .mv (.t 3), none, []⟩,
                                 ⟨(some 59), .mv (.t 7), none, []⟩,
                                 ⟨(some 60), .ixs 1 (.t 58) (.t 59), none, [0, 1]⟩,
                                 ⟨(some 61), .load none (.t 60), none, [2]⟩,
                                 ⟨(some 62), .mv (.t 5), none, []⟩,
                                 ⟨(some 63), .ixs 1 (.t 61) (.t 62), none, [3, 4, 0, 1, 2, 3, 4]⟩,
                                 ⟨none, .store 1 (.t 63) (.v (.bool true)), none, [5, 0, 1, 2, 3, 4]⟩])
                            (.skip))))
                        (.reg false [⟨(some 49), .mv (.t 7), none, []⟩,
                             ⟨(some 50), .bin .add (.t 49) (.v (.int .i64 1)), none, [0]⟩,
                             ⟨(some 7), .mv (.t 50), none, [1, 0, 1]⟩])))))))))
                (.reg false [⟨(some 33), .mv (.t 6), none, []⟩,
                     ⟨(some 34), .bin .sub (.t 33) (.v (.int .i64 1)), none, [0]⟩,
                     ⟨(some 6), .mv (.t 34), none, [1, 0, 1]⟩])))))))
          (.reg false [⟨(some 27), .mv (.t 5), none, []⟩,
               ⟨(some 28), .bin .add (.t 27) (.v (.int .i64 1)), none, [0]⟩,
               ⟨(some 5), .mv (.t 28), none, [1, 0, 1]⟩]))))))
     (.seq (.reg false [⟨(some 64), .mv (.t 3), none, []⟩,
           ⟨(some 2), .mv (.t 64), none, [0, 0]⟩])
      (.ret)))))
def pr14 : List PR := [.t 2]
abbrev ms14_0 : List Nat := [11, 12, 13, 14, 17, 18, 19, 20, 21, 22, 15, 16, 4]
abbrev os14_0 : List Nat := [22]
abbrev ms14_1 : List Nat := [23, 24, 25, 26, 29, 30, 6, 31, 32, 35, 36, 37, 38, 39, 40, 41, 42, 43, 44, 45, 7, 46, 47, 48, 51, 52, 53, 54, 55, 56, 57, 58, 59, 60, 61, 62, 63, 49, 50, 33, 34, 27, 28, 5]
abbrev os14_1 : List Nat := [45, 63]
abbrev ms14_2 : List Nat := [31, 32, 35, 36, 37, 38, 39, 40, 41, 42, 43, 44, 45, 7, 46, 47, 48, 51, 52, 53, 54, 55, 56, 57, 58, 59, 60, 61, 62, 63, 49, 50, 33, 34, 6]
abbrev os14_2 : List Nat := [45, 63]
abbrev ms14_3 : List Nat := [46, 47, 48, 51, 52, 53, 54, 55, 56, 57, 58, 59, 60, 61, 62, 63, 49, 50, 7]
abbrev os14_3 : List Nat := [63]
theorem bd14 : Try.f14.body = some (Try.f14.body.getD .skip) := by kernel_rfl
theorem cp14 : compC Try.prog Try.f14.ntmps eqsL (Try.f14.body.getD .skip) = some pc14 := by kernel_rfl
theorem sp14 [WInv] {env : Env} (hE : EnvOK Try.prog env) {R : List Pa → List Pa → Prop} (hR : ∀ ps rs, R ps rs → ps.length ≤ 65 ∧ pwp env pc14 (fun e s => (e = .normal ∨ e = .ret) ∧ s.res pr14 = some rs) (St.init ps)) : Spec Try.prog 14 R :=
  fn_sound hE eqsOK mixedOK Try.func14 bd14 cp14 (by kernel_rfl) (by kernel_rfl) hR

/-! interleave/interleaveref34.Before -/
def pc16 : PC :=
 .seq (.reg false [⟨(some 6), .mv (.v (.bool false)), none, []⟩])
  (.seq (.seq (.reg false [⟨(some 7), .mv (.t 0), none, []⟩,
         ⟨(some 8), .call 13 [(.t 7)], none, [0]⟩,
         ⟨(some 9), .un .not (.t 8), none, [1]⟩,
         ⟨(some 10), .mv (.t 9), none, [2, 1]⟩,
         ⟨(some 11), .mv (.t 1), (some (10, false)), [3]⟩,
         ⟨(some 12), .bin .lss (.t 11) (.v (.int .i64 0)), (some (10, false)), [4, 3]⟩,
         ⟨(some 13), .pick (.t 10) (.v (.bool true)) (.t 12), none, [3, 5]⟩,
         ⟨(some 14), .mv (.t 13), none, [6, 3]⟩,
         ⟨(some 15), .mv (.t 2), (some (14, false)), [7]⟩,
         ⟨(some 16), .bin .lss (.t 15) (.v (.int .i64 0)), (some (14, false)), [8, 7]⟩,
         ⟨(some 17), .pick (.t 14) (.v (.bool true)) (.t 16), none, [7, 9]⟩,
         ⟨(some 18), .mv (.t 17), none, [10, 7]⟩,
         ⟨(some 19), .mv (.t 1), (some (18, false)), [11]⟩,
         ⟨(some 20), .mv (.t 0), (some (18, false)), [11]⟩,
         ⟨(some 21), .len (.t 20), (some (18, false)), [13, 11]⟩,
         ⟨(some 22), .bin .geq (.t 19) (.t 21), (some (18, false)), [12, 14, 11]⟩,
         ⟨(some 23), .pick (.t 18) (.v (.bool true)) (.t 22), none, [11, 15]⟩,
         ⟨(some 24), .mv (.t 23), none, [16, 11]⟩,
         ⟨(some 25), .mv (.t 2), (some (24, false)), [17]⟩,
         ⟨(some 26), .mv (.t 0), (some (24, false)), [17]⟩,
         ⟨(some 27), .len (.t 26), (some (24, false)), [19, 17]⟩,
         ⟨(some 28), .bin .geq (.t 25) (.t 27), (some (24, false)), [18, 20, 17]⟩,
         ⟨(some 29), .pick (.t 24) (.v (.bool true)) (.t 28), none, [17, 21]⟩])
    (.cond (.t 29)
      (.seq (.reg false [⟨(some 6), .mv (.v (.bool false)), none, []⟩])
       (.ret))
      (.skip)))
   (.seq (.reg false [⟨(some 30), .mv (.t 0), none, []⟩,
         ⟨(some 31), .call 14 [(.t 30)], none, [0]⟩,
         ⟨(some 32), .mv (.t 1), none, []⟩,
         ⟨(some 33), .ixs 1 (.t 31) (.t 32), none, [1, 2]⟩,
         ⟨(some 34), .load none (.t 33), none, [3]⟩,
         ⟨(some 35), .mv (.t 2), none, []⟩,
         ⟨(some 36), .ixs 1 (.t 34) (.t 35), none, [4, 5]⟩,
         ⟨(some 37), .load none (.t 36), none, [6]⟩,
         ⟨(some 6), .mv (.t 37), none, [7, 1, 0, 1, 2, 3, 4, 5, 6, 7]⟩])
    (.ret)))
def pr16 : List PR := [.t 6]
theorem bd16 : Try.f16.body = some (Try.f16.body.getD .skip) := by kernel_rfl
theorem cp16 : compC Try.prog Try.f16.ntmps eqsL (Try.f16.body.getD .skip) = some pc16 := by kernel_rfl
theorem sp16 [WInv] {env : Env} (hE : EnvOK Try.prog env) {R : List Pa → List Pa → Prop} (hR : ∀ ps rs, R ps rs → ps.length ≤ 38 ∧ pwp env pc16 (fun e s => (e = .normal ∨ e = .ret) ∧ s.res pr16 = some rs) (St.init ps)) : Spec Try.prog 16 R :=
  fn_sound hE eqsOK mixedOK Try.func16 bd16 cp16 (by kernel_rfl) (by kernel_rfl) hR

/-! interleave/interleaveref34.Immediate -/
def pc20 : PC :=
 .seq (.reg false [⟨(some 6), .mv (.v (.bool false)), none, []⟩])
  (.seq (.reg false [⟨(some 9), .mv (.t 0), none, []⟩,
        ⟨(some 10), .mv (.t 1), none, []⟩,
        ⟨(some 11), .ixs 9 (.t 9) (.t 10), none, [0, 1]⟩,
        ⟨(some 12), .load (some 9) (.t 11), none, [2]⟩,
        ⟨(some 7), .new [(.int .i64 0), (.int .i64 0), (.int .i64 0), (.int .i64 0), (.int .i64 0), (.int .i64 0), (.int .i64 0), (.int .i64 0), (.int .i64 0)], none, []⟩,
        ⟨none, .store 9 (.t 7) (.t 12), none, [4, 3, 0, 1, 2, 3, 4]⟩])
   (.seq (.reg false [⟨(some 13), .mv (.t 0), none, []⟩,
         ⟨(some 14), .mv (.t 2), none, []⟩,
         ⟨(some 15), .ixs 9 (.t 13) (.t 14), none, [0, 1]⟩,
         ⟨(some 16), .load (some 9) (.t 15), none, [2]⟩,
         ⟨(some 8), .new [(.int .i64 0), (.int .i64 0), (.int .i64 0), (.int .i64 0), (.int .i64 0), (.int .i64 0), (.int .i64 0), (.int .i64 0), (.int .i64 0)], none, []⟩,
         ⟨none, .store 9 (.t 8) (.t 16), none, [4, 3, 0, 1, 2, 3, 4]⟩])
    (.seq (.seq (.reg false [⟨(some 17), .mv (.t 0), none, []⟩,
           ⟨(some 18), .mv (.t 1), none, []⟩,
           ⟨(some 19), .mv (.t 2), none, []⟩,
           ⟨(some 20), .call 26 [(.t 17), (.t 18), (.t 19)], none, [0, 1, 2]⟩,
           ⟨(some 21), .mv (.t 20), none, [3, 3]⟩,
           ⟨(some 22), .fld 1 (.t 7), (some (21, false)), [4]⟩,
           ⟨(some 23), .load none (.t 22), (some (21, false)), [5, 4]⟩,
           ⟨(some 24), .bin .eql (.t 23) (.v (.int .i64 14)), (some (21, false)), [6, 4]⟩,
           ⟨(some 25), .mv (.t 24), (some (21, false)), [7, 4, 4]⟩,
           ⟨(some 26), .fld 4 (.t 7), (some (25, true)), [8]⟩,
           ⟨(some 27), .load none (.t 26), (some (25, true)), [9, 8]⟩,
           ⟨(some 28), .fld 0 (.t 8), (some (25, true)), [8]⟩,
           ⟨(some 29), .load none (.t 28), (some (25, true)), [11, 8]⟩,
           ⟨(some 30), .bin .eql (.t 27) (.t 29), (some (25, true)), [10, 12, 8]⟩,
           ⟨(some 31), .pick (.t 25) (.t 30) (.v (.bool false)), (some (21, false)), [8, 13, 4]⟩,
           ⟨(some 32), .mv (.t 31), (some (21, false)), [14, 8, 4]⟩,
           ⟨(some 33), .mv (.t 0), (some (32, true)), [15]⟩,
           ⟨(some 34), .mv (.t 2), (some (32, true)), [15]⟩,
           ⟨(some 35), .call 27 [(.t 33), (.t 34)], (some (32, true)), [16, 17, 15, 15]⟩,
           ⟨(some 36), .pick (.t 32) (.t 35) (.v (.bool false)), (some (21, false)), [15, 18, 4]⟩,
           ⟨(some 37), .pick (.t 21) (.v (.bool true)) (.t 36), none, [4, 19]⟩])
      (.cond (.t 37)
        (.seq (.reg false [⟨(some 6), .mv (.v (.bool true)), none, []⟩])
         (.ret))
        (.skip)))
     (.seq (.seq (.reg false [⟨(some 38), .fld 2 (.t 7), none, []⟩,
            ⟨(some 39), .load none (.t 38), none, [0]⟩,
            ⟨(some 40), .fld 2 (.t 8), none, []⟩,
            ⟨(some 41), .load none (.t 40), none, [2]⟩,
            ⟨(some 42), .bin .neq (.t 39) (.t 41), none, [1, 3]⟩,
            ⟨(some 43), .mv (.t 42), none, [4]⟩,
            ⟨(some 44), .fld 3 (.t 7), (some (43, false)), [5]⟩,
            ⟨(some 45), .load none (.t 44), (some (43, false)), [6, 5]⟩,
            ⟨(some 46), .fld 3 (.t 8), (some (43, false)), [5]⟩,
            ⟨(some 47), .load none (.t 46), (some (43, false)), [8, 5]⟩,
            ⟨(some 48), .bin .neq (.t 45) (.t 47), (some (43, false)), [7, 9, 5]⟩,
            ⟨(some 49), .pick (.t 43) (.v (.bool true)) (.t 48), none, [5, 10]⟩])
       (.cond (.t 49)
         (.seq (.reg false [⟨(some 6), .mv (.v (.bool false)), none, []⟩])
          (.ret))
         (.skip)))
      (.seq (.seq (.reg false [⟨(some 50), .fld 1 (.t 7), none, []⟩,
             ⟨(some 51), .load none (.t 50), none, [0]⟩])
        (.block 0 (.seq (.reg false [⟨(some 53), .bin .eql (.t 51) (.v (.int .i64 15)), none, []⟩,
               ⟨(some 52), .mv (.t 53), none, [0]⟩])
          (.cond (.t 52)
            (.seq (.reg false [⟨(some 54), .fld 1 (.t 8), none, []⟩,
                  ⟨(some 55), .load none (.t 54), none, [0]⟩,
                  ⟨(some 56), .bin .eql (.t 55) (.v (.int .i64 18)), none, [1]⟩,
                  ⟨(some 57), .mv (.t 56), none, [2]⟩,
                  ⟨(some 58), .fld 4 (.t 8), (some (57, true)), [3]⟩,
                  ⟨(some 59), .load none (.t 58), (some (57, true)), [4, 3]⟩,
                  ⟨(some 60), .fld 4 (.t 7), (some (57, true)), [3]⟩,
                  ⟨(some 61), .load none (.t 60), (some (57, true)), [6, 3]⟩,
                  ⟨(some 62), .bin .eql (.t 59) (.t 61), (some (57, true)), [5, 7, 3]⟩,
                  ⟨(some 63), .pick (.t 57) (.t 62) (.v (.bool false)), none, [3, 8]⟩,
                  ⟨(some 6), .mv (.t 63), none, [9, 3, 0, 1, 2, 3, 4, 5, 6, 7, 8, 9]⟩])
             (.ret))
            (.seq (.reg false [⟨(some 65), .bin .eql (.t 51) (.v (.int .i64 17)), none, []⟩,
                  ⟨(some 64), .mv (.t 65), none, [0]⟩])
             (.cond (.t 64)
               (.seq (.reg false [⟨(some 66), .fld 1 (.t 8), none, []⟩,
                     ⟨(some 67), .load none (.t 66), none, [0]⟩,
                     ⟨(some 68), .bin .eql (.t 67) (.v (.int .i64 16)), none, [1]⟩,
                     ⟨(some 69), .mv (.t 68), none, [2]⟩,
                     ⟨(some 70), .fld 4 (.t 8), (some (69, true)), [3]⟩,
                     ⟨(some 71), .load none (.t 70), (some (69, true)), [4, 3]⟩,
                     ⟨(some 72), .fld 4 (.t 7), (some (69, true)), [3]⟩,
                     ⟨(some 73), .load none (.t 72), (some (69, true)), [6, 3]⟩,
                     ⟨(some 74), .fld 5 (.t 7), (some (69, true)), [3]⟩,
                     ⟨(some 75), .load none (.t 74), (some (69, true)), [8, 3]⟩,
                     ⟨(some 76), .bin .add (.t 73) (.t 75), (some (69, true)), [7, 9, 3]⟩,
                     ⟨(some 77), .bin .eql (.t 71) (.t 76), (some (69, true)), [5, 10, 3]⟩,
                     ⟨(some 78), .pick (.t 69) (.t 77) (.v (.bool false)), none, [3, 11]⟩,
                     ⟨(some 6), .mv (.t 78), none, [12, 3, 0, 1, 2, 3, 4, 5, 6, 7, 8, 9, 10, 11, 12]⟩])
                (.ret))
               (.seq (.reg false [⟨(some 80), .bin .eql (.t 51) (.v (.int .i64 19)), none, []⟩,
                     ⟨(some 79), .mv (.t 80), none, [0]⟩])
                (.cond (.t 79)
                  (.seq (.reg false [⟨(some 81), .fld 1 (.t 8), none, []⟩,
                        ⟨(some 82), .load none (.t 81), none, [0]⟩,
                        ⟨(some 83), .bin .eql (.t 82) (.v (.int .i64 20)), none, [1]⟩,
                        ⟨(some 6), .mv (.t 83), none, [2, 0, 1, 2]⟩])
                   (.ret))
                  (.seq (.reg false [⟨(some 85), .bin .eql (.t 51) (.v (.int .i64 7)), none, []⟩,
                        ⟨(some 84), .mv (.t 85), none, [0]⟩])
                   (.cond (.t 84)
                     (.seq (.reg false [⟨(some 86), .fld 1 (.t 8), none, []⟩,
                           ⟨(some 87), .load none (.t 86), none, [0]⟩,
                           ⟨(some 88), .bin .eql (.t 87) (.v (.int .i64 6)), none, [1]⟩,
                           ⟨(some 89), .mv (.t 88), none, [2]⟩,
                           ⟨(some 90), .fld 1 (.t 8), (some (89, false)), [3]⟩,
                           ⟨(some 91), .load none (.t 90), (some (89, false)), [4, 3]⟩,
                           ⟨(some 92), .bin .eql (.t 91) (.v (.int .i64 8)), (some (89, false)), [5, 3]⟩,
                           ⟨(some 93), .pick (.t 89) (.v (.bool true)) (.t 92), none, [3, 6]⟩,
                           ⟨(some 6), .mv (.t 93), none, [7, 3, 0, 1, 2, 3, 4, 5, 6, 7]⟩])
                      (.ret))
                     (.seq (.reg false [⟨(some 95), .bin .eql (.t 51) (.v (.int .i64 9)), none, []⟩,
                           ⟨(some 94), .mv (.t 95), none, [0]⟩])
                      (.cond (.t 94)
                        (.seq (.reg false [⟨(some 96), .fld 1 (.t 8), none, []⟩,
                              ⟨(some 97), .load none (.t 96), none, [0]⟩,
                              ⟨(some 98), .bin .eql (.t 97) (.v (.int .i64 6)), none, [1]⟩,
                              ⟨(some 6), .mv (.t 98), none, [2, 0, 1, 2]⟩])
                         (.ret))
                        (.seq (.reg false [⟨(some 100), .bin .eql (.t 51) (.v (.int .i64 10)), none, []⟩,
                              ⟨(some 99), .mv (.t 100), none, [0]⟩])
                         (.cond (.t 99)
                           (.seq (.reg false [⟨(some 101), .fld 1 (.t 8), none, []⟩,
                                 ⟨(some 102), .load none (.t 101), none, [0]⟩,
                                 ⟨(some 103), .bin .eql (.t 102) (.v (.int .i64 11)), none, [1]⟩,
                                 ⟨(some 6), .mv (.t 103), none, [2, 0, 1, 2]⟩])
                            (.ret))
                           (.seq (.reg false [⟨(some 105), .bin .eql (.t 51) (.v (.int .i64 12)), none, []⟩,
                                 ⟨(some 104), .mv (.t 105), none, [0]⟩])
                            (.cond (.t 104)
                              (.seq (.reg false [⟨(some 106), .fld 1 (.t 8), none, []⟩,
                                    ⟨(some 107), .load none (.t 106), none, [0]⟩,
                                    ⟨(some 108), .bin .eql (.t 107) (.v (.int .i64 13)), none, [1]⟩,
                                    ⟨(some 6), .mv (.t 108), none, [2, 0, 1, 2]⟩])
                               (.ret))
                              (.seq (.seq (.reg false [⟨(some 110), .bin .eql (.t 51) (.v (.int .i64 4)), none, []⟩,
                                     ⟨(some 109), .mv (.t 110), none, [0]⟩])
                                (.cond (.t 109)
                                  (.skip)
                                  (.reg false [⟨(some 111), .bin .eql (.t 51) (.v (.int .i64 5)), none, []⟩,
                                       ⟨(some 109), .mv (.t 111), none, [0]⟩])))
                               (.cond (.t 109)
                                 (.seq (.reg false [⟨(some 112), .fld 1 (.t 8), none, []⟩,
                                       ⟨(some 113), .load none (.t 112), none, [0]⟩,
                                       ⟨(some 114), .bin .eql (.t 113) (.v (.int .i64 3)), none, [1]⟩,
                                       ⟨(some 115), .mv (.t 114), none, [2]⟩,
                                       ⟨(some 116), .fld 1 (.t 8), (some (115, false)), [3]⟩,
                                       ⟨(some 117), .load none (.t 116), (some (115, false)), [4, 3]⟩,
                                       ⟨(some 118), .bin .eql (.t 117) (.v (.int .i64 5)), (some (115, false)), [5, 3]⟩,
                                       ⟨(some 119), .pick (.t 115) (.v (.bool true)) (.t 118), none, [3, 6]⟩,
                                       ⟨(some 120), .mv (.t 119), none, [7, 3]⟩,
                                       ⟨(some 121), .mv (.t 0), (some (120, true)), [8]⟩,
                                       ⟨(some 122), .mv (.t 1), (some (120, true)), [8]⟩,
                                       ⟨(some 123), .mv (.t 2), (some (120, true)), [8]⟩,
                                       ⟨(some 124), .call 28 [(.t 121), (.t 122), (.t 123)], (some (120, true)), [9, 10, 11, 8, 8]⟩,
                                       ⟨(some 125), .pick (.t 120) (.t 124) (.v (.bool false)), none, [8, 12]⟩,
                                       ⟨(some 6), .mv (.t 125), none, [13, 12, 0, 1, 2, 3, 4, 5, 6, 7, 8, 9, 10, 11, 12, 13]⟩])
                                  (.ret))
                                 (.skip)))))))))))))))))))
       (.seq (.reg false [⟨(some 6), .mv (.v (.bool false)), none, []⟩])
        (.ret)))))))
def pr20 : List PR := [.t 6]
theorem bd20 : Try.f20.body = some (Try.f20.body.getD .skip) := by kernel_rfl
theorem cp20 : compC Try.prog Try.f20.ntmps eqsL (Try.f20.body.getD .skip) = some pc20 := by kernel_rfl
theorem sp20 [WInv] {env : Env} (hE : EnvOK Try.prog env) {R : List Pa → List Pa → Prop} (hR : ∀ ps rs, R ps rs → ps.length ≤ 126 ∧ pwp env pc20 (fun e s => (e = .normal ∨ e = .ret) ∧ s.res pr20 = some rs) (St.init ps)) : Spec Try.prog 20 R :=
  fn_sound hE eqsOK mixedOK Try.func20 bd20 cp20 (by kernel_rfl) (by kernel_rfl) hR

/-! interleave/interleaveref34.Program -/
def pc26 : PC :=
 .seq (.reg false [⟨(some 6), .mv (.v (.bool false)), none, []⟩])
  (.seq (.seq (.reg true [⟨(some 8), .mv (.t 0), none, []⟩,
         ⟨(some 9), .mv (.t 1), none, []⟩,
         ⟨(some 10), .ixs 9 (.t 8) (.t 9), none, [0, 1]⟩,
         ⟨(some 11), .fld 0 (.t 10), none, [2]⟩,
         ⟨(some 12), .load none (.t 11), none, [3]⟩,
         ⟨(some 13), .mv (.t 0), none, []⟩,
         ⟨(some 14), .mv (.t 2), none, []⟩,
         ⟨(some 15), .ixs 9 (.t 13) (.t 14), none, [5, 6]⟩,
         ⟨(some 16), .fld 0 (.t 15), none, [7]⟩,
         ⟨(some 17), .load none (.t 16), none, [8]⟩,
         ⟨(some 18), .bin .neq (.t 12) (.t 17), none, [4, 9]⟩])
    (.cond (.t 18)
      (.seq (.reg false [⟨(some 6), .mv (.v (.bool false)), none, []⟩])
       (.ret))
      (.skip)))
   (.seq (.seq (.reg false [⟨(some 19), .mv (.t 1), none, []⟩,
          ⟨(some 20), .bin .add (.t 19) (.v (.int .i64 1)), none, [0]⟩,
          ⟨(some 7), .mv (.t 20), none, [1, 0, 1]⟩])
     (.block 0 (.loop (.seq (.seq (.reg false [⟨(some 21), .mv (.t 7), none, []⟩,
              ⟨(some 22), .mv (.t 2), none, []⟩,
              ⟨(some 23), .bin .lss (.t 21) (.t 22), none, [0, 1]⟩])
         (.cond (.t 23)
           (.skip)
           (.exit 0)))
        (.seq (.block 1 (.seq (.reg true [⟨(some 26), .mv (.t 0), none, []⟩,
                ⟨(some 27), .mv (.t 7), none, []⟩,
                ⟨(some 28), .ixs 9 (.t 26) (.t 27), none, [0, 1]⟩,
                ⟨(some 29), .fld 0 (.t 28), none, [2]⟩,
                ⟨(some 30), .load none (.t 29), none, [3]⟩,
                ⟨(some 31), .mv (.t 0), none, []⟩,
                ⟨(some 32), .mv (.t 1), none, []⟩,
                ⟨(some 33), .ixs 9 (.t 31) (.t 32), none, [5, 6]⟩,
                ⟨(some 34), .fld 0 (.t 33), none, [7]⟩,
                ⟨(some 35), .load none (.t 34), none, [8]⟩,
                ⟨(some 36), .bin .eql (.t 30) (.t 35), none, [4, 9]⟩])
           (.cond (.t 36)
             (.seq (.reg false [⟨(some 6), .mv (.v (.bool false)), none, []⟩])
              (.ret))
             (.skip))))
         (.reg false [⟨(some 24), .mv (.t 7), none, []⟩,
              ⟨(some 25), .bin .add (.t 24) (.v (.int .i64 1)), none, [0]⟩,
              ⟨(some 7), .mv (.t 25), none, [1, 0, 1]⟩]))))))
    (.seq (.reg false [⟨(some 6), .mv (.v (.bool true)), none, []⟩])
     (.ret))))
def pr26 : List PR := [.t 6]
abbrev ms26_0 : List Nat := [21, 22, 23, 26, 27, 28, 29, 30, 31, 32, 33, 34, 35, 36, 6, 24, 25, 7]
abbrev os26_0 : List Nat := []
theorem bd26 : Try.f26.body = some (Try.f26.body.getD .skip) := by kernel_rfl
theorem cp26 : compC Try.prog Try.f26.ntmps eqsL (Try.f26.body.getD .skip) = some pc26 := by kernel_rfl
theorem sp26 [WInv] {env : Env} (hE : EnvOK Try.prog env) {R : List Pa → List Pa → Prop} (hR : ∀ ps rs, R ps rs → ps.length ≤ 37 ∧ pwp env pc26 (fun e s => (e = .normal ∨ e = .ret) ∧ s.res pr26 = some rs) (St.init ps)) : Spec Try.prog 26 R :=
  fn_sound hE eqsOK mixedOK Try.func26 bd26 cp26 (by kernel_rfl) (by kernel_rfl) hR

/-! interleave/interleaveref34.first -/
def pc27 : PC :=
 .seq (.reg false [⟨(some 4), .mv (.v (.bool false)), none, []⟩])
  (.seq (.seq (.reg false [⟨(some 5), .mv (.v (.int .i64 0)), none, []⟩])
    (.block 0 (.loop (.seq (.seq (.reg false [⟨(some 6), .mv (.t 5), none, []⟩,
             ⟨(some 7), .mv (.t 1), none, []⟩,
             ⟨(some 8), .bin .lss (.t 6) (.t 7), none, [0, 1]⟩])
        (.cond (.t 8)
          (.skip)
          (.exit 0)))
       (.seq (.block 1 (.seq (.reg true [⟨(some 11), .mv (.t 0), none, []⟩,
               ⟨(some 12), .mv (.t 5), none, []⟩,
               ⟨(some 13), .ixs 9 (.t 11) (.t 12), none, [0, 1]⟩,
               ⟨(some 14), .fld 0 (.t 13), none, [2]⟩,
               ⟨(some 15), .load none (.t 14), none, [3]⟩,
               ⟨(some 16), .mv (.t 0), none, []⟩,
               ⟨(some 17), .mv (.t 1), none, []⟩,
               ⟨(some 18), .ixs 9 (.t 16) (.t 17), none, [5, 6]⟩,
               ⟨(some 19), .fld 0 (.t 18), none, [7]⟩,
               ⟨(some 20), .load none (.t 19), none, [8]⟩,
               ⟨(some 21), .bin .eql (.t 15) (.t 20), none, [4, 9]⟩])
          (.cond (.t 21)
            (.seq (.reg false [⟨(some 4), .mv (.v (.bool false)), none, []⟩])
             (.ret))
            (.skip))))
        (.reg false [⟨(some 9), .mv (.t 5), none, []⟩,
             ⟨(some 10), .bin .add (.t 9) (.v (.int .i64 1)), none, [0]⟩,
             ⟨(some 5), .mv (.t 10), none, [1, 0, 1]⟩]))))))
   (.seq (.reg false [⟨(some 4), .mv (.v (.bool true)), none, []⟩])
    (.ret)))
def pr27 : List PR := [.t 4]
abbrev ms27_0 : List Nat := [6, 7, 8, 11, 12, 13, 14, 15, 16, 17, 18, 19, 20, 21, 4, 9, 10, 5]
abbrev os27_0 : List Nat := []
theorem bd27 : Try.f27.body = some (Try.f27.body.getD .skip) := by kernel_rfl
theorem cp27 : compC Try.prog Try.f27.ntmps eqsL (Try.f27.body.getD .skip) = some pc27 := by kernel_rfl
theorem sp27 [WInv] {env : Env} (hE : EnvOK Try.prog env) {R : List Pa → List Pa → Prop} (hR : ∀ ps rs, R ps rs → ps.length ≤ 22 ∧ pwp env pc27 (fun e s => (e = .normal ∨ e = .ret) ∧ s.res pr27 = some rs) (St.init ps)) : Spec Try.prog 27 R :=
  fn_sound hE eqsOK mixedOK Try.func27 bd27 cp27 (by kernel_rfl) (by kernel_rfl) hR

/-! interleave/interleaveref34.atomic -/
def pc28 : PC :=
 .seq (.reg false [⟨(some 6), .mv (.v (.bool false)), none, []⟩])
  (.seq (.seq (.reg false [⟨(some 8), .mv (.t 1), none, []⟩,
         ⟨(some 9), .bin .add (.t 8) (.v (.int .i64 1)), none, [0]⟩,
         ⟨(some 7), .mv (.t 9), none, [1, 0, 1]⟩])
    (.block 0 (.loop (.seq (.seq (.reg false [⟨(some 10), .mv (.t 7), none, []⟩,
             ⟨(some 11), .mv (.t 2), none, []⟩,
             ⟨(some 12), .bin .lss (.t 10) (.t 11), none, [0, 1]⟩])
        (.cond (.t 12)
          (.skip)
          (.exit 0)))
       (.seq (.block 1 (.seq (.reg true [⟨(some 15), .mv (.t 0), none, []⟩,
               ⟨(some 16), .mv (.t 7), none, []⟩,
               ⟨(some 17), .ixs 9 (.t 15) (.t 16), none, [0, 1]⟩,
               ⟨(some 18), .fld 1 (.t 17), none, [2]⟩,
               ⟨(some 19), .load none (.t 18), none, [3]⟩,
               ⟨(some 20), .bin .eql (.t 19) (.v (.int .i64 4)), none, [4]⟩,
               ⟨(some 21), .mv (.t 20), none, [5]⟩,
               ⟨(some 22), .mv (.t 0), (some (21, false)), [6]⟩,
               ⟨(some 23), .mv (.t 7), (some (21, false)), [6]⟩,
               ⟨(some 24), .ixs 9 (.t 22) (.t 23), (some (21, false)), [7, 8, 6]⟩,
               ⟨(some 25), .fld 1 (.t 24), (some (21, false)), [9, 6]⟩,
               ⟨(some 26), .load none (.t 25), (some (21, false)), [10, 6]⟩,
               ⟨(some 27), .bin .eql (.t 26) (.v (.int .i64 5)), (some (21, false)), [11, 6]⟩,
               ⟨(some 28), .pick (.t 21) (.v (.bool true)) (.t 27), none, [6, 12]⟩,
               ⟨(some 29), .mv (.t 28), none, [13, 6]⟩,
               ⟨(some 30), .mv (.t 0), (some (29, true)), [14]⟩,
               ⟨(some 31), .mv (.t 7), (some (29, true)), [14]⟩,
               ⟨(some 32), .ixs 9 (.t 30) (.t 31), (some (29, true)), [15, 16, 14]⟩,
               ⟨(some 33), .fld 2 (.t 32), (some (29, true)), [17, 14]⟩,
               ⟨(some 34), .load none (.t 33), (some (29, true)), [18, 14]⟩,
               ⟨(some 35), .mv (.t 0), (some (29, true)), [14]⟩,
               ⟨(some 36), .mv (.t 2), (some (29, true)), [14]⟩,
               ⟨(some 37), .ixs 9 (.t 35) (.t 36), (some (29, true)), [20, 21, 14]⟩,
               ⟨(some 38), .fld 2 (.t 37), (some (29, true)), [22, 14]⟩,
               ⟨(some 39), .load none (.t 38), (some (29, true)), [23, 14]⟩,
               ⟨(some 40), .bin .eql (.t 34) (.t 39), (some (29, true)), [19, 24, 14]⟩,
               ⟨(some 41), .pick (.t 29) (.t 40) (.v (.bool false)), none, [14, 25]⟩,
               ⟨(some 42), .mv (.t 41), none, [26, 14]⟩,
               ⟨(some 43), .mv (.t 0), (some (42, true)), [27]⟩,
               ⟨(some 44), .mv (.t 7), (some (42, true)), [27]⟩,
               ⟨(some 45), .ixs 9 (.t 43) (.t 44), (some (42, true)), [28, 29, 27]⟩,
               ⟨(some 46), .fld 3 (.t 45), (some (42, true)), [30, 27]⟩,
               ⟨(some 47), .load none (.t 46), (some (42, true)), [31, 27]⟩,
               ⟨(some 48), .mv (.t 0), (some (42, true)), [27]⟩,
               ⟨(some 49), .mv (.t 2), (some (42, true)), [27]⟩,
               ⟨(some 50), .ixs 9 (.t 48) (.t 49), (some (42, true)), [33, 34, 27]⟩,
               ⟨(some 51), .fld 3 (.t 50), (some (42, true)), [35, 27]⟩,
               ⟨(some 52), .load none (.t 51), (some (42, true)), [36, 27]⟩,
               ⟨(some 53), .bin .eql (.t 47) (.t 52), (some (42, true)), [32, 37, 27]⟩,
               ⟨(some 54), .pick (.t 42) (.t 53) (.v (.bool false)), none, [27, 38]⟩])
          (.cond (.t 54)
            (.seq (.reg false [⟨(some 6), .mv (.v (.bool false)), none, []⟩])
             (.ret))
            (.skip))))
        (.reg false [⟨(some 13), .mv (.t 7), none, []⟩,
             ⟨(some 14), .bin .add (.t 13) (.v (.int .i64 1)), none, [0]⟩,
             ⟨(some 7), .mv (.t 14), none, [1, 0, 1]⟩]))))))
   (.seq (.reg false [⟨(some 6), .mv (.v (.bool true)), none, []⟩])
    (.ret)))
def pr28 : List PR := [.t 6]
abbrev ms28_0 : List Nat := [10, 11, 12, 15, 16, 17, 18, 19, 20, 21, 22, 23, 24, 25, 26, 27, 28, 29, 30, 31, 32, 33, 34, 35, 36, 37, 38, 39, 40, 41, 42, 43, 44, 45, 46, 47, 48, 49, 50, 51, 52, 53, 54, 6, 13, 14, 7]
abbrev os28_0 : List Nat := []
theorem bd28 : Try.f28.body = some (Try.f28.body.getD .skip) := by kernel_rfl
theorem cp28 : compC Try.prog Try.f28.ntmps eqsL (Try.f28.body.getD .skip) = some pc28 := by kernel_rfl
theorem sp28 [WInv] {env : Env} (hE : EnvOK Try.prog env) {R : List Pa → List Pa → Prop} (hR : ∀ ps rs, R ps rs → ps.length ≤ 55 ∧ pwp env pc28 (fun e s => (e = .normal ∨ e = .ret) ∧ s.res pr28 = some rs) (St.init ps)) : Spec Try.prog 28 R :=
  fn_sound hE eqsOK mixedOK Try.func28 bd28 cp28 (by kernel_rfl) (by kernel_rfl) hR


end Go.Proofs.Ytohliamalaifhaa
