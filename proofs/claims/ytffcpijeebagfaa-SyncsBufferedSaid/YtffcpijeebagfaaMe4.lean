/- The plain readings of functions of the program, printed by a program of this claim. No conditions. -/
import Derived.Test.YtffcpijeebagfaaMe3
import Derived.Test.YtffcpijeebagfaaProg
import Derived.DeepKeys5
import Derived.Maps.OwnSet
import Derived.Deep.Draws
import Derived.Below
import Derived.Test.YtffcpijeebagfaaRows
import Derived.WalkKit
import Derived.WalkSpells
import Derived.Outline
import Derived.Handy
import Derived.Deep.Light
import Derived.Lib.Hide
import Derived.RegionTactic
import Derived.BigRegion
import Derived.Deep.QuietTactic
import Derived.BigQuiet
import Derived.Deep.DeepCutAuto
import Derived.Deep.CutBlock
set_option linter.unusedSimpArgs false
set_option linter.unusedVariables false
section
namespace Go.Proofs.Ytffcpijeebagfaa
open Go Go.RowKit
set_option maxRecDepth 100000
def eqsL:List (Nat×List Bool):=[(33,[false,false,false,false,false,false,false,false,false]),(34,[false,false,false,false,false,false,false,false,false]),(52,List.replicate 8 false),(53,List.replicate 8 false),(77,[false,false]),(78,[false,false]),(94,[false,false,false,true]),(95,[false,false,false,true]),(97,[false,false]),(98,[false,false]),(99,[true,false]),(100,[true,false]),(136,List.replicate 7 false),(142,[false,false,false]),(143,[false,false,false]),(145,[false,false,false,false,true]),(146,[false,false,false,false,true]),(150,[false,false,true,false]),(151,[false,false,true,false])]
theorem eqsOK:∀ p,p ∈ eqsL→EqT Try.prog p.1 p.2:=by
 intro p hp;simp only [eqsL,List.mem_cons,List.not_mem_nil,or_false] at hp
 rcases hp with rfl | rfl | rfl | rfl | rfl | rfl | rfl | rfl | rfl | rfl | rfl | rfl | rfl | rfl | rfl | rfl | rfl | rfl | rfl
 ·exact eqT_struct Try.underlying33 (by kernel_rfl) (by kernel_rfl) (by kernel_rfl)
 ·exact eqT_struct Try.underlying34 (by kernel_rfl) (by kernel_rfl) (by kernel_rfl)
 ·exact eqT_array Try.underlying52 (ei:=(Try.prog.info? 3).getD default) (by kernel_rfl) (by kernel_rfl) (by kernel_rfl) (by kernel_rfl)
 ·exact eqT_array Try.underlying53 (ei:=(Try.prog.info? 3).getD default) (by kernel_rfl) (by kernel_rfl) (by kernel_rfl) (by kernel_rfl)
 ·exact eqT_struct Try.underlying77 (by kernel_rfl) (by kernel_rfl) (by kernel_rfl)
 ·exact eqT_struct Try.underlying78 (by kernel_rfl) (by kernel_rfl) (by kernel_rfl)
 ·exact eqT_struct Try.underlying94 (by kernel_rfl) (by kernel_rfl) (by kernel_rfl)
 ·exact eqT_struct Try.underlying95 (by kernel_rfl) (by kernel_rfl) (by kernel_rfl)
 ·exact eqT_struct Try.underlying97 (by kernel_rfl) (by kernel_rfl) (by kernel_rfl)
 ·exact eqT_struct Try.underlying98 (by kernel_rfl) (by kernel_rfl) (by kernel_rfl)
 ·exact eqT_struct Try.underlying99 (by kernel_rfl) (by kernel_rfl) (by kernel_rfl)
 ·exact eqT_struct Try.underlying100 (by kernel_rfl) (by kernel_rfl) (by kernel_rfl)
 ·exact eqT_array Try.underlying136 (ei:=(Try.prog.info? 3).getD default) (by kernel_rfl) (by kernel_rfl) (by kernel_rfl) (by kernel_rfl)
 ·exact eqT_struct Try.underlying142 (by kernel_rfl) (by kernel_rfl) (by kernel_rfl)
 ·exact eqT_struct Try.underlying143 (by kernel_rfl) (by kernel_rfl) (by kernel_rfl)
 ·exact eqT_struct Try.underlying145 (by kernel_rfl) (by kernel_rfl) (by kernel_rfl)
 ·exact eqT_struct Try.underlying146 (by kernel_rfl) (by kernel_rfl) (by kernel_rfl)
 ·exact eqT_struct Try.underlying150 (by kernel_rfl) (by kernel_rfl) (by kernel_rfl)
 ·exact eqT_struct Try.underlying151 (by kernel_rfl) (by kernel_rfl) (by kernel_rfl)
theorem mixedOK:Try.prog.follows .mixedOrders=true:=by kernel_rfl
def pc22 : PC := .seq (.reg false [⟨(some 2), .box (.t 0), none, []⟩, ⟨(some 3), .box (.t 1), none, []⟩, ⟨(some 4), .new [(.int .i64 0), (.int .i64 0), (.slice none 0 0), (.slice none 0 0), (.slice none 0 0), (.slice none 0 0), (.int .i64 0), (.int .i64 0), (.int .i64 0)], none, []⟩, ⟨(some 5), .mv (.v (.bool false)), none, []⟩]) (.seq (.seq (.reg false [⟨(some 8), .load (some 9) (.t 3), none, []⟩, ⟨(some 9), .call 64 [(.t 8)], none, [0]⟩, ⟨(some 10), .un .not (.t 9), none, [1]⟩, ⟨(some 11), .mv (.t 10), none, [2, 1]⟩, ⟨(some 12), .fld 0 (.t 2), (some (11, false)), [3]⟩, ⟨(some 13), .load none (.t 12), (some (11, false)), [4, 3]⟩, ⟨(some 14), .bin .geq (.t 13) (.v (.int .i64 5000)), (some (11, false)), [5, 3]⟩, ⟨(some 15), .pick (.t 11) (.v (.bool true)) (.t 14), none, [3, 6]⟩, ⟨(some 16), .mv (.t 15), none, [7, 3]⟩, ⟨(some 17), .fld 0 (.t 3), (some (16, false)), [8]⟩, ⟨(some 18), .load none (.t 17), (some (16, false)), [9, 8]⟩, ⟨(some 19), .fld 1 (.t 2), (some (16, false)), [8]⟩, ⟨(some 20), .load none (.t 19), (some (16, false)), [11, 8]⟩, ⟨(some 21), .bin .geq (.t 18) (.t 20), (some (16, false)), [10, 12, 8]⟩, ⟨(some 22), .pick (.t 16) (.v (.bool true)) (.t 21), none, [8, 13]⟩]) (.cond (.t 22) (.seq (.reg false [⟨(some 23), .load (some 9) (.t 2), none, []⟩, ⟨none, .store 9 (.t 4) (.t 23), none, [0, 0]⟩, ⟨(some 5), .mv (.v (.bool false)), none, [1, 0, 1]⟩]) (.ret)) (.skip))) (.seq (.reg false [⟨(some 6), .new [(.int .i64 0), (.int .i64 0), (.slice none 0 0), (.slice none 0 0), (.slice none 0 0), (.slice none 0 0), (.int .i64 0), (.int .i64 0), (.int .i64 0)], none, []⟩]) (.seq (.reg false [⟨(some 7), .mv (.v (.bool false)), none, []⟩]) (.seq (.block 0 (.seq (.reg false [⟨(some 31), .fld 5 (.t 2), none, []⟩, ⟨(some 32), .load none (.t 31), none, [0]⟩, ⟨(some 33), .len (.t 32), none, [1]⟩, ⟨(some 34), .bin .gtr (.t 33) (.v (.int .i64 0)), none, [2]⟩, ⟨(some 30), .mv (.t 34), none, [3]⟩]) (.cond (.t 30) (.reg false [⟨(some 36), .load (some 9) (.t 2), none, []⟩, ⟨(some 37), .load (some 9) (.t 3), none, []⟩, ⟨(some 38), .call 65 [(.t 36), (.t 37)], none, [0, 1]⟩, ⟨(some 35), .mv (.t 38), none, [2]⟩, ⟨(some 39), .ext (.t 35) 0, none, [3]⟩, ⟨(some 40), .ext (.t 35) 1, none, [3]⟩, ⟨none, .store 9 (.t 6) (.t 39), none, [4, 2, 0, 1, 2, 3, 4]⟩, ⟨(some 7), .mv (.t 40), none, [5, 6, 0, 1, 2, 3, 4, 5, 6]⟩]) (.seq (.reg false [⟨(some 42), .fld 1 (.t 3), none, []⟩, ⟨(some 43), .load none (.t 42), none, [0]⟩, ⟨(some 44), .call 66 [(.t 43)], none, [1]⟩, ⟨(some 41), .mv (.t 44), none, [2, 2]⟩]) (.cond (.t 41) (.reg false [⟨(some 46), .load (some 9) (.t 2), none, []⟩, ⟨(some 47), .load (some 9) (.t 3), none, []⟩, ⟨(some 48), .call 67 [(.t 46), (.t 47)], none, [0, 1]⟩, ⟨(some 45), .mv (.t 48), none, [2]⟩, ⟨(some 49), .ext (.t 45) 0, none, [3]⟩, ⟨(some 50), .ext (.t 45) 1, none, [3]⟩, ⟨none, .store 9 (.t 6) (.t 49), none, [4, 2, 0, 1, 2, 3, 4]⟩, ⟨(some 7), .mv (.t 50), none, [5, 6, 0, 1, 2, 3, 4, 5, 6]⟩]) (.reg false [⟨(some 25), .load (some 9) (.t 2), none, []⟩, ⟨(some 26), .load (some 9) (.t 3), none, []⟩, ⟨(some 27), .call 68 [(.t 25), (.t 26)], none, [0, 1]⟩, ⟨(some 24), .mv (.t 27), none, [2]⟩, ⟨(some 28), .ext (.t 24) 0, none, [3]⟩, ⟨(some 29), .ext (.t 24) 1, none, [3]⟩, ⟨none, .store 9 (.t 6) (.t 28), none, [4, 2, 0, 1, 2, 3, 4]⟩, ⟨(some 7), .mv (.t 29), none, [5, 6, 0, 1, 2, 3, 4, 5, 6]⟩])))))) (.seq (.seq (.reg false [⟨(some 51), .mv (.t 7), none, []⟩, ⟨(some 52), .un .not (.t 51), none, [0]⟩]) (.cond (.t 52) (.seq (.reg false [⟨(some 53), .load (some 9) (.t 2), none, []⟩, ⟨none, .store 9 (.t 4) (.t 53), none, [0, 0]⟩, ⟨(some 5), .mv (.v (.bool false)), none, [1, 0, 1]⟩]) (.ret)) (.skip))) (.seq (.reg false [⟨(some 54), .fld 0 (.t 6), none, []⟩, ⟨(some 55), .load none (.t 54), none, [0]⟩, ⟨(some 56), .bin .add (.t 55) (.v (.int .i64 1)), none, [1]⟩, ⟨(some 57), .fld 0 (.t 6), none, [0, 1, 2]⟩, ⟨none, .store 1 (.t 57) (.t 56), none, [3, 2, 0, 1, 2]⟩]) (.seq (.reg false [⟨(some 58), .load (some 9) (.t 6), none, []⟩, ⟨none, .store 9 (.t 4) (.t 58), none, [0, 0]⟩, ⟨(some 5), .mv (.v (.bool true)), none, [1, 0, 1]⟩]) (.ret))))))))
def pr22 : List PR := [.c 4 (some 9), .t 5]
theorem bd22:Try.f22.body=some (Try.f22.body.getD .skip):=by kernel_rfl
theorem cp22:compC Try.prog Try.f22.ntmps eqsL (Try.f22.body.getD .skip)=some pc22:=by kernel_rfl
theorem sp22 [WInv] {env:Env} (hE:EnvOK Try.prog env) {R:List Pa→List Pa→Prop} (hR:∀ ps rs,R ps rs→ps.length≤59∧pwp env pc22 (fun e s=>(e=.normal∨e=.ret)∧s.res pr22=some rs) (St.init ps)):Spec Try.prog 22 R :=
 fn_sound hE eqsOK mixedOK Try.func22 bd22 cp22 (by kernel_rfl) (by kernel_rfl) (by kernel_rfl) hR
def pc65c0 : PC := .seq (.reg false [⟨(some 92), .mv (.t 7), none, []⟩, ⟨(some 93), .fld 5 (.t 2), none, [0]⟩, ⟨none, .store 1 (.t 93) (.t 92), none, [1, 0, 0]⟩]) (.seq (.reg false [⟨(some 94), .load (some 9) (.t 2), none, []⟩, ⟨(some 95), .load (some 9) (.t 3), none, []⟩, ⟨(some 96), .call 96 [(.t 94), (.t 95)], none, [0, 1]⟩, ⟨none, .store 9 (.t 4) (.t 96), none, [2, 2, 0, 1, 2]⟩, ⟨(some 5), .mv (.v (.bool true)), none, [3, 0, 1, 2, 3]⟩]) (.ret))
def pc65c1 : PC := .seq (.reg false [⟨(some 8), .mv (.v (.int .i64 1)), none, []⟩]) (.block 0 (.loop (.seq (.seq (.reg false [⟨(some 65), .mv (.t 8), none, []⟩, ⟨(some 66), .fld 5 (.t 2), none, []⟩, ⟨(some 67), .load none (.t 66), none, [1]⟩, ⟨(some 68), .len (.t 67), none, [2]⟩, ⟨(some 69), .bin .lss (.t 65) (.t 68), none, [0, 3]⟩]) (.cond (.t 69) (.skip) (.exit 0))) (.seq (.block 1 (.seq (.reg false [⟨(some 72), .fld 5 (.t 2), none, []⟩, ⟨(some 73), .load none (.t 72), none, [0]⟩, ⟨(some 74), .mv (.t 8), none, []⟩, ⟨(some 75), .ixs 3 (.t 73) (.t 74), none, [1, 2]⟩, ⟨(some 76), .load (some 3) (.t 75), none, [3]⟩, ⟨(some 9), .new [(.int .i64 0), (.int .i64 0), (.int .i64 0)], none, []⟩, ⟨none, .store 3 (.t 9) (.t 76), none, [5, 4, 0, 1, 2, 3, 4, 5]⟩]) (.seq (.seq (.reg false [⟨(some 77), .fld 1 (.t 6), none, []⟩, ⟨(some 78), .load none (.t 77), none, [0]⟩, ⟨(some 79), .bin .lss (.t 78) (.v (.int .i64 0)), none, [1]⟩, ⟨(some 80), .mv (.t 79), none, [2]⟩, ⟨(some 81), .fld 1 (.t 9), (some (80, true)), [3]⟩, ⟨(some 82), .load none (.t 81), (some (80, true)), [4, 3]⟩, ⟨(some 83), .bin .lss (.t 82) (.v (.int .i64 0)), (some (80, true)), [5, 3]⟩, ⟨(some 84), .pick (.t 80) (.t 83) (.v (.bool false)), none, [3, 6]⟩]) (.cond (.t 84) (.reg false [⟨(some 85), .fld 0 (.t 3), none, []⟩, ⟨(some 86), .load none (.t 85), none, [0]⟩, ⟨(some 87), .fld 1 (.t 9), none, [0, 1]⟩, ⟨none, .store 1 (.t 87) (.t 86), none, [2, 1, 0, 1]⟩]) (.skip))) (.reg false [⟨(some 88), .mv (.t 7), none, []⟩, ⟨(some 89), .load (some 3) (.t 9), none, []⟩, ⟨(some 90), .bslice 143 3 [(.int .i64 0), (.int .i64 0), (.int .i64 0)] 1 [(0, 3, (.t 89))], none, [1]⟩, ⟨(some 91), .append 143 3 24 (.t 88) (.t 90), none, [0, 2]⟩, ⟨(some 7), .mv (.t 91), none, [3, 3, 0, 1, 2, 3]⟩])))) (.reg false [⟨(some 70), .mv (.t 8), none, []⟩, ⟨(some 71), .bin .add (.t 70) (.v (.int .i64 1)), none, [0]⟩, ⟨(some 8), .mv (.t 71), none, [1, 0, 1]⟩])))))
def pc65c2 : PC := .seq (.reg false [⟨(some 7), .nilRow 143 3, none, []⟩]) (.seq (pc65c1) (pc65c0))
def pc65c3 : PC := .reg false [⟨(some 14), .fld 1 (.t 3), none, []⟩, ⟨(some 15), .load none (.t 14), none, [0]⟩, ⟨(some 16), .fld 0 (.t 6), none, []⟩, ⟨(some 17), .load none (.t 16), none, [2]⟩, ⟨(some 18), .bin .neq (.t 15) (.t 17), none, [1, 3]⟩, ⟨(some 19), .mv (.t 18), none, [4]⟩, ⟨(some 20), .fld 2 (.t 3), (some (19, false)), [5]⟩, ⟨(some 21), .load none (.t 20), (some (19, false)), [6, 5]⟩, ⟨(some 22), .fld 6 (.t 2), (some (19, false)), [5]⟩, ⟨(some 23), .load none (.t 22), (some (19, false)), [8, 5]⟩, ⟨(some 24), .bin .neq (.t 21) (.t 23), (some (19, false)), [7, 9, 5]⟩, ⟨(some 25), .pick (.t 19) (.v (.bool true)) (.t 24), none, [5, 10]⟩, ⟨(some 26), .mv (.t 25), none, [11, 5]⟩, ⟨(some 27), .fld 4 (.t 3), (some (26, false)), [12]⟩, ⟨(some 28), .load none (.t 27), (some (26, false)), [13, 12]⟩, ⟨(some 29), .fld 7 (.t 2), (some (26, false)), [12]⟩, ⟨(some 30), .load none (.t 29), (some (26, false)), [15, 12]⟩, ⟨(some 31), .bin .neq (.t 28) (.t 30), (some (26, false)), [14, 16, 12]⟩, ⟨(some 32), .pick (.t 26) (.v (.bool true)) (.t 31), none, [12, 17]⟩, ⟨(some 33), .mv (.t 32), none, [18, 12]⟩, ⟨(some 34), .fld 5 (.t 3), (some (33, false)), [19]⟩, ⟨(some 35), .load none (.t 34), (some (33, false)), [20, 19]⟩, ⟨(some 36), .fld 8 (.t 2), (some (33, false)), [19]⟩, ⟨(some 37), .load none (.t 36), (some (33, false)), [22, 19]⟩, ⟨(some 38), .bin .neq (.t 35) (.t 37), (some (33, false)), [21, 23, 19]⟩, ⟨(some 39), .pick (.t 33) (.v (.bool true)) (.t 38), none, [19, 24]⟩, ⟨(some 40), .mv (.t 39), none, [25, 19]⟩, ⟨(some 41), .fld 1 (.t 6), (some (40, false)), [26]⟩, ⟨(some 42), .load none (.t 41), (some (40, false)), [27, 26]⟩, ⟨(some 43), .bin .geq (.t 42) (.v (.int .i64 0)), (some (40, false)), [28, 26]⟩, ⟨(some 44), .mv (.t 43), (some (40, false)), [29, 26, 26]⟩, ⟨(some 45), .fld 0 (.t 3), (some (44, true)), [30]⟩, ⟨(some 46), .load none (.t 45), (some (44, true)), [31, 30]⟩, ⟨(some 47), .fld 1 (.t 6), (some (44, true)), [30]⟩, ⟨(some 48), .load none (.t 47), (some (44, true)), [33, 30]⟩, ⟨(some 49), .bin .neq (.t 46) (.t 48), (some (44, true)), [32, 34, 30]⟩, ⟨(some 50), .pick (.t 44) (.t 49) (.v (.bool false)), (some (40, false)), [30, 35, 26]⟩, ⟨(some 51), .pick (.t 40) (.v (.bool true)) (.t 50), none, [26, 36]⟩, ⟨(some 52), .mv (.t 51), none, [37, 30]⟩, ⟨(some 53), .fld 1 (.t 6), (some (52, false)), [38]⟩, ⟨(some 54), .load none (.t 53), (some (52, false)), [39, 38]⟩, ⟨(some 55), .bin .lss (.t 54) (.v (.int .i64 0)), (some (52, false)), [40, 38]⟩, ⟨(some 56), .mv (.t 55), (some (52, false)), [41, 38, 38]⟩, ⟨(some 57), .fld 0 (.t 3), (some (56, true)), [42]⟩, ⟨(some 58), .load none (.t 57), (some (56, true)), [43, 42]⟩, ⟨(some 59), .fld 2 (.t 6), (some (56, true)), [42]⟩, ⟨(some 60), .load none (.t 59), (some (56, true)), [45, 42]⟩, ⟨(some 61), .bin .eql (.t 58) (.t 60), (some (56, true)), [44, 46, 42]⟩, ⟨(some 62), .pick (.t 56) (.t 61) (.v (.bool false)), (some (52, false)), [42, 47, 38]⟩, ⟨(some 63), .pick (.t 52) (.v (.bool true)) (.t 62), none, [38, 48]⟩]
def pc65c4 : PC := .seq (pc65c3) (.cond (.t 63) (.seq (.reg false [⟨(some 64), .load (some 9) (.t 2), none, []⟩, ⟨none, .store 9 (.t 4) (.t 64), none, [0, 0]⟩, ⟨(some 5), .mv (.v (.bool false)), none, [1, 0, 1]⟩]) (.ret)) (.skip))
def pc65 : PC := .seq (.reg false [⟨(some 2), .box (.t 0), none, []⟩, ⟨(some 3), .box (.t 1), none, []⟩, ⟨(some 4), .new [(.int .i64 0), (.int .i64 0), (.slice none 0 0), (.slice none 0 0), (.slice none 0 0), (.slice none 0 0), (.int .i64 0), (.int .i64 0), (.int .i64 0)], none, []⟩, ⟨(some 5), .mv (.v (.bool false)), none, []⟩]) (.seq (.reg false [⟨(some 10), .fld 5 (.t 2), none, []⟩, ⟨(some 11), .load none (.t 10), none, [0]⟩, ⟨(some 12), .ixs 3 (.t 11) (.v (.int .i64 0)), none, [1]⟩, ⟨(some 13), .load (some 3) (.t 12), none, [2]⟩, ⟨(some 6), .new [(.int .i64 0), (.int .i64 0), (.int .i64 0)], none, []⟩, ⟨none, .store 3 (.t 6) (.t 13), none, [4, 3, 0, 1, 2, 3, 4]⟩]) (.seq (pc65c4) (pc65c2)))
def pr65 : List PR := [.c 4 (some 9), .t 5]
abbrev ms65_0 : List Nat := [65, 66, 67, 68, 69, 72, 73, 74, 75, 76, 9, 77, 78, 79, 80, 81, 82, 83, 84, 85, 86, 87, 88, 89, 90, 91, 7, 70, 71, 8]
abbrev os65_0 : List Nat := [9, 90, 7]
theorem bd65:Try.f65.body=some (Try.f65.body.getD .skip):=by kernel_rfl
theorem cp65:compC Try.prog Try.f65.ntmps eqsL (Try.f65.body.getD .skip)=some pc65:=by kernel_rfl
theorem sp65 [WInv] {env:Env} (hE:EnvOK Try.prog env) {R:List Pa→List Pa→Prop} (hR:∀ ps rs,R ps rs→ps.length≤97∧pwp env pc65 (fun e s=>(e=.normal∨e=.ret)∧s.res pr65=some rs) (St.init ps)):Spec Try.prog 65 R :=
 fn_sound hE eqsOK mixedOK Try.func65 bd65 cp65 (by kernel_rfl) (by kernel_rfl) (by kernel_rfl) hR
def pc67c0 : PC := .seq (.reg false [⟨(some 59), .fld 1 (.t 6), none, []⟩, ⟨(some 60), .load none (.t 59), none, [0]⟩, ⟨(some 61), .bin .eql (.t 60) (.v (.int .i64 0)), none, [1]⟩, ⟨(some 62), .mv (.t 61), none, [2]⟩, ⟨(some 63), .mv (.t 7), (some (62, true)), [3]⟩, ⟨(some 64), .pick (.t 62) (.t 63) (.v (.bool false)), none, [3, 4]⟩]) (.cond (.t 64) (.seq (.reg false [⟨(some 65), .load (some 9) (.t 2), none, []⟩, ⟨(some 66), .load (some 9) (.t 3), none, []⟩, ⟨(some 67), .fld 0 (.t 3), none, []⟩, ⟨(some 68), .load none (.t 67), none, [2]⟩, ⟨(some 69), .build [(.int .i64 0), (.int .i64 0), (.int .i64 0)] [(0, 1, (.v (.int .i64 17))), (1, 1, (.v (.int .i64 (-1)))), (2, 1, (.t 68))], none, [3]⟩, ⟨(some 70), .build [(.int .i64 0), (.int .i64 0), (.int .i64 0)] [(0, 1, (.v (.int .i64 18))), (1, 1, (.v (.int .i64 (-1))))], none, []⟩, ⟨(some 71), .fld 0 (.t 3), none, []⟩, ⟨(some 72), .load none (.t 71), none, [6]⟩, ⟨(some 73), .build [(.int .i64 0), (.int .i64 0), (.int .i64 0)] [(0, 1, (.v (.int .i64 16))), (1, 1, (.t 72))], none, [7]⟩, ⟨(some 74), .bslice 143 3 [(.int .i64 0), (.int .i64 0), (.int .i64 0), (.int .i64 0), (.int .i64 0), (.int .i64 0), (.int .i64 0), (.int .i64 0), (.int .i64 0)] 3 [(0, 3, (.t 69)), (3, 3, (.t 70)), (6, 3, (.t 73))], none, [4, 5, 8]⟩, ⟨(some 75), .call 98 [(.t 65), (.t 66), (.t 74)], none, [0, 1, 9]⟩, ⟨(some 76), .ext (.t 75) 0, none, [10]⟩, ⟨(some 77), .ext (.t 75) 1, none, [10]⟩, ⟨none, .store 9 (.t 4) (.t 76), none, [11, 10, 0, 1, 2, 3, 4, 5, 6, 7, 8, 9, 10, 11, 12]⟩, ⟨(some 5), .mv (.t 77), none, [12, 13, 0, 1, 2, 3, 4, 5, 6, 7, 8, 9, 10, 11, 12, 13]⟩]) (.ret)) (.skip))
def pc67c1 : PC := .seq (.reg false [⟨(some 100), .fld 4 (.t 6), none, []⟩, ⟨(some 101), .load none (.t 100), none, [0]⟩, ⟨(some 102), .un .not (.t 101), none, [1]⟩, ⟨(some 103), .mv (.t 102), none, [2]⟩, ⟨(some 104), .mv (.t 7), (some (103, true)), [3]⟩, ⟨(some 105), .pick (.t 103) (.t 104) (.v (.bool false)), none, [3, 4]⟩]) (.cond (.t 105) (.seq (.reg false [⟨(some 106), .load (some 9) (.t 2), none, []⟩, ⟨(some 107), .load (some 9) (.t 3), none, []⟩, ⟨(some 108), .fld 0 (.t 3), none, []⟩, ⟨(some 109), .load none (.t 108), none, [2]⟩, ⟨(some 110), .build [(.int .i64 0), (.int .i64 0), (.int .i64 0)] [(0, 1, (.v (.int .i64 15))), (1, 1, (.v (.int .i64 (-1)))), (2, 1, (.t 109))], none, [3]⟩, ⟨(some 111), .fld 0 (.t 3), none, []⟩, ⟨(some 112), .load none (.t 111), none, [5]⟩, ⟨(some 113), .build [(.int .i64 0), (.int .i64 0), (.int .i64 0)] [(0, 1, (.v (.int .i64 18))), (1, 1, (.t 112))], none, [6]⟩, ⟨(some 114), .build [(.int .i64 0), (.int .i64 0), (.int .i64 0)] [(0, 1, (.v (.int .i64 16))), (1, 1, (.v (.int .i64 (-1))))], none, []⟩, ⟨(some 115), .bslice 143 3 [(.int .i64 0), (.int .i64 0), (.int .i64 0), (.int .i64 0), (.int .i64 0), (.int .i64 0), (.int .i64 0), (.int .i64 0), (.int .i64 0)] 3 [(0, 3, (.t 110)), (3, 3, (.t 113)), (6, 3, (.t 114))], none, [4, 7, 8]⟩, ⟨(some 116), .call 98 [(.t 106), (.t 107), (.t 115)], none, [0, 1, 9]⟩, ⟨(some 117), .ext (.t 116) 0, none, [10]⟩, ⟨(some 118), .ext (.t 116) 1, none, [10]⟩, ⟨none, .store 9 (.t 4) (.t 117), none, [11, 10, 0, 1, 2, 3, 4, 5, 6, 7, 8, 9, 10, 11, 12]⟩, ⟨(some 5), .mv (.t 118), none, [12, 13, 0, 1, 2, 3, 4, 5, 6, 7, 8, 9, 10, 11, 12, 13]⟩]) (.ret)) (.skip))
def pc67c2 : PC := .seq (.reg false [⟨(some 23), .fld 1 (.t 3), none, []⟩, ⟨(some 24), .load none (.t 23), none, [0]⟩]) (.block 0 (.seq (.reg false [⟨(some 26), .bin .eql (.t 24) (.v (.int .i64 15)), none, []⟩, ⟨(some 25), .mv (.t 26), none, [0]⟩]) (.cond (.t 25) (.seq (.seq (.reg false [⟨(some 27), .fld 4 (.t 3), none, []⟩, ⟨(some 28), .load none (.t 27), none, [0]⟩, ⟨(some 29), .fld 2 (.t 6), none, []⟩, ⟨(some 30), .load none (.t 29), none, [2]⟩, ⟨(some 31), .bin .neq (.t 28) (.t 30), none, [1, 3]⟩, ⟨(some 32), .mv (.t 31), none, [4]⟩, ⟨(some 33), .fld 4 (.t 6), (some (32, false)), [5]⟩, ⟨(some 34), .load none (.t 33), (some (32, false)), [6, 5]⟩, ⟨(some 35), .pick (.t 32) (.v (.bool true)) (.t 34), none, [5, 7]⟩]) (.cond (.t 35) (.seq (.reg false [⟨(some 36), .load (some 9) (.t 2), none, []⟩, ⟨none, .store 9 (.t 4) (.t 36), none, [0, 0]⟩, ⟨(some 5), .mv (.v (.bool false)), none, [1, 0, 1]⟩]) (.ret)) (.skip))) (.seq (.seq (.reg false [⟨(some 37), .fld 1 (.t 6), none, []⟩, ⟨(some 38), .load none (.t 37), none, [0]⟩, ⟨(some 39), .bin .gtr (.t 38) (.v (.int .i64 0)), none, [1]⟩, ⟨(some 40), .mv (.t 39), none, [2]⟩, ⟨(some 41), .fld 2 (.t 6), (some (40, true)), [3]⟩, ⟨(some 42), .load none (.t 41), (some (40, true)), [4, 3]⟩, ⟨(some 43), .fld 3 (.t 6), (some (40, true)), [3]⟩, ⟨(some 44), .load none (.t 43), (some (40, true)), [6, 3]⟩, ⟨(some 45), .bin .sub (.t 42) (.t 44), (some (40, true)), [5, 7, 3]⟩, ⟨(some 46), .fld 1 (.t 6), (some (40, true)), [3]⟩, ⟨(some 47), .load none (.t 46), (some (40, true)), [9, 3]⟩, ⟨(some 48), .bin .lss (.t 45) (.t 47), (some (40, true)), [8, 10, 3]⟩, ⟨(some 49), .pick (.t 40) (.t 48) (.v (.bool false)), none, [3, 11]⟩]) (.cond (.t 49) (.seq (.reg false [⟨(some 50), .load (some 9) (.t 2), none, []⟩, ⟨(some 51), .load (some 9) (.t 3), none, []⟩, ⟨(some 52), .fld 0 (.t 3), none, []⟩, ⟨(some 53), .load none (.t 52), none, [2]⟩, ⟨(some 54), .build [(.int .i64 0), (.int .i64 0), (.int .i64 0)] [(0, 1, (.v (.int .i64 16))), (1, 1, (.t 53))], none, [3]⟩, ⟨(some 55), .bslice 143 3 [(.int .i64 0), (.int .i64 0), (.int .i64 0)] 1 [(0, 3, (.t 54))], none, [4]⟩, ⟨(some 56), .call 98 [(.t 50), (.t 51), (.t 55)], none, [0, 1, 5]⟩, ⟨(some 57), .ext (.t 56) 0, none, [6]⟩, ⟨(some 58), .ext (.t 56) 1, none, [6]⟩, ⟨none, .store 9 (.t 4) (.t 57), none, [7, 6, 0, 1, 2, 3, 4, 5, 6, 7, 8]⟩, ⟨(some 5), .mv (.t 58), none, [8, 9, 0, 1, 2, 3, 4, 5, 6, 7, 8, 9]⟩]) (.ret)) (.skip))) (pc67c0))) (.seq (.reg false [⟨(some 79), .bin .eql (.t 24) (.v (.int .i64 17)), none, []⟩, ⟨(some 78), .mv (.t 79), none, [0]⟩]) (.cond (.t 78) (.seq (.seq (.reg false [⟨(some 80), .fld 4 (.t 3), none, []⟩, ⟨(some 81), .load none (.t 80), none, [0]⟩, ⟨(some 82), .fld 3 (.t 6), none, []⟩, ⟨(some 83), .load none (.t 82), none, [2]⟩, ⟨(some 84), .bin .neq (.t 81) (.t 83), none, [1, 3]⟩]) (.cond (.t 84) (.seq (.reg false [⟨(some 85), .load (some 9) (.t 2), none, []⟩, ⟨none, .store 9 (.t 4) (.t 85), none, [0, 0]⟩, ⟨(some 5), .mv (.v (.bool false)), none, [1, 0, 1]⟩]) (.ret)) (.skip))) (.seq (.seq (.reg false [⟨(some 86), .fld 2 (.t 6), none, []⟩, ⟨(some 87), .load none (.t 86), none, [0]⟩, ⟨(some 88), .fld 3 (.t 6), none, []⟩, ⟨(some 89), .load none (.t 88), none, [2]⟩, ⟨(some 90), .bin .gtr (.t 87) (.t 89), none, [1, 3]⟩]) (.cond (.t 90) (.seq (.reg false [⟨(some 91), .load (some 9) (.t 2), none, []⟩, ⟨(some 92), .load (some 9) (.t 3), none, []⟩, ⟨(some 93), .fld 0 (.t 3), none, []⟩, ⟨(some 94), .load none (.t 93), none, [2]⟩, ⟨(some 95), .build [(.int .i64 0), (.int .i64 0), (.int .i64 0)] [(0, 1, (.v (.int .i64 18))), (1, 1, (.t 94))], none, [3]⟩, ⟨(some 96), .bslice 143 3 [(.int .i64 0), (.int .i64 0), (.int .i64 0)] 1 [(0, 3, (.t 95))], none, [4]⟩, ⟨(some 97), .call 98 [(.t 91), (.t 92), (.t 96)], none, [0, 1, 5]⟩, ⟨(some 98), .ext (.t 97) 0, none, [6]⟩, ⟨(some 99), .ext (.t 97) 1, none, [6]⟩, ⟨none, .store 9 (.t 4) (.t 98), none, [7, 6, 0, 1, 2, 3, 4, 5, 6, 7, 8]⟩, ⟨(some 5), .mv (.t 99), none, [8, 9, 0, 1, 2, 3, 4, 5, 6, 7, 8, 9]⟩]) (.ret)) (.skip))) (pc67c1))) (.seq (.reg false [⟨(some 120), .bin .eql (.t 24) (.v (.int .i64 19)), none, []⟩, ⟨(some 119), .mv (.t 120), none, [0]⟩]) (.cond (.t 119) (.seq (.reg false [⟨(some 121), .fld 4 (.t 6), none, []⟩, ⟨(some 122), .load none (.t 121), none, [0]⟩, ⟨(some 123), .un .not (.t 122), none, [1]⟩]) (.cond (.t 123) (.seq (.reg false [⟨(some 124), .fld 4 (.t 6), none, []⟩, ⟨none, .store 1 (.t 124) (.v (.bool true)), none, [0]⟩]) (.seq (.reg false [⟨(some 125), .load (some 9) (.t 2), none, []⟩, ⟨(some 126), .load (some 5) (.t 6), none, []⟩, ⟨(some 127), .call 99 [(.t 125), (.t 126)], none, [0, 1]⟩, ⟨none, .store 9 (.t 4) (.t 127), none, [2, 2, 0, 1, 2]⟩, ⟨(some 5), .mv (.v (.bool true)), none, [3, 0, 1, 2, 3]⟩]) (.ret))) (.skip))) (.seq (.reg false [⟨(some 129), .bin .eql (.t 24) (.v (.int .i64 20)), none, []⟩, ⟨(some 128), .mv (.t 129), none, [0]⟩]) (.cond (.t 128) (.seq (.reg true [⟨(some 130), .load (some 9) (.t 2), none, []⟩, ⟨(some 131), .fld 4 (.t 6), none, []⟩, ⟨(some 132), .load none (.t 131), none, [1]⟩, ⟨(some 133), .mv (.t 132), none, [2]⟩, ⟨(some 134), .fld 2 (.t 6), (some (133, true)), [3]⟩, ⟨(some 135), .load none (.t 134), (some (133, true)), [4, 3]⟩, ⟨(some 136), .fld 3 (.t 6), (some (133, true)), [3]⟩, ⟨(some 137), .load none (.t 136), (some (133, true)), [6, 3]⟩, ⟨(some 138), .bin .eql (.t 135) (.t 137), (some (133, true)), [5, 7, 3]⟩, ⟨(some 139), .pick (.t 133) (.t 138) (.v (.bool false)), none, [3, 8]⟩, ⟨none, .store 9 (.t 4) (.t 130), none, [0, 3, 0]⟩, ⟨(some 5), .mv (.t 139), none, [9, 10, 0, 1, 2, 3, 4, 5, 6, 7, 8, 9, 10]⟩]) (.ret)) (.skip))))))))))
def pc67 : PC := .seq (.reg false [⟨(some 2), .box (.t 0), none, []⟩, ⟨(some 3), .box (.t 1), none, []⟩, ⟨(some 4), .new [(.int .i64 0), (.int .i64 0), (.slice none 0 0), (.slice none 0 0), (.slice none 0 0), (.slice none 0 0), (.int .i64 0), (.int .i64 0), (.int .i64 0)], none, []⟩, ⟨(some 5), .mv (.v (.bool false)), none, []⟩]) (.seq (.reg false [⟨(some 8), .load (some 9) (.t 2), none, []⟩, ⟨(some 9), .fld 2 (.t 3), none, []⟩, ⟨(some 10), .load none (.t 9), none, [1]⟩, ⟨(some 11), .fld 5 (.t 3), none, []⟩, ⟨(some 12), .load none (.t 11), none, [3]⟩, ⟨(some 13), .call 97 [(.t 8), (.t 10), (.t 12)], none, [0, 2, 4]⟩, ⟨(some 6), .new [(.int .i64 0), (.int .i64 0), (.int .i64 0), (.int .i64 0), (.bool false)], none, []⟩, ⟨none, .store 5 (.t 6) (.t 13), none, [6, 5, 5, 0, 1, 2, 3, 4, 5, 6]⟩]) (.seq (.seq (.reg false [⟨(some 14), .fld 1 (.t 6), none, []⟩, ⟨(some 15), .load none (.t 14), none, [0]⟩, ⟨(some 16), .fld 5 (.t 3), none, []⟩, ⟨(some 17), .load none (.t 16), none, [2]⟩, ⟨(some 18), .bin .neq (.t 15) (.t 17), none, [1, 3]⟩]) (.cond (.t 18) (.seq (.reg false [⟨(some 19), .load (some 9) (.t 2), none, []⟩, ⟨none, .store 9 (.t 4) (.t 19), none, [0, 0]⟩, ⟨(some 5), .mv (.v (.bool false)), none, [1, 0, 1]⟩]) (.ret)) (.skip))) (.seq (.reg false [⟨(some 20), .fld 1 (.t 2), none, []⟩, ⟨(some 21), .load none (.t 20), none, [0]⟩, ⟨(some 22), .bin .gtr (.t 21) (.v (.int .i64 1)), none, [1]⟩, ⟨(some 7), .mv (.t 22), none, [2, 0, 1, 2]⟩]) (.seq (pc67c2) (.seq (.reg false [⟨(some 140), .load (some 9) (.t 2), none, []⟩, ⟨none, .store 9 (.t 4) (.t 140), none, [0, 0]⟩, ⟨(some 5), .mv (.v (.bool false)), none, [1, 0, 1]⟩]) (.ret))))))
def pr67 : List PR := [.c 4 (some 9), .t 5]
theorem bd67:Try.f67.body=some (Try.f67.body.getD .skip):=by kernel_rfl
theorem cp67:compC Try.prog Try.f67.ntmps eqsL (Try.f67.body.getD .skip)=some pc67:=by kernel_rfl
theorem sp67 [WInv] {env:Env} (hE:EnvOK Try.prog env) {R:List Pa→List Pa→Prop} (hR:∀ ps rs,R ps rs→ps.length≤141∧pwp env pc67 (fun e s=>(e=.normal∨e=.ret)∧s.res pr67=some rs) (St.init ps)):Spec Try.prog 67 R :=
 fn_sound hE eqsOK mixedOK Try.func67 bd67 cp67 (by kernel_rfl) (by kernel_rfl) (by kernel_rfl) hR
def pc68 : PC := .seq (.reg false [⟨(some 2), .box (.t 0), none, []⟩, ⟨(some 3), .box (.t 1), none, []⟩, ⟨(some 4), .new [(.int .i64 0), (.int .i64 0), (.slice none 0 0), (.slice none 0 0), (.slice none 0 0), (.slice none 0 0), (.int .i64 0), (.int .i64 0), (.int .i64 0)], none, []⟩, ⟨(some 5), .mv (.v (.bool false)), none, []⟩]) (.seq (.reg false [⟨(some 10), .load (some 9) (.t 2), none, []⟩, ⟨(some 11), .fld 2 (.t 3), none, []⟩, ⟨(some 12), .load none (.t 11), none, [1]⟩, ⟨(some 13), .fld 3 (.t 3), none, []⟩, ⟨(some 14), .load none (.t 13), none, [3]⟩, ⟨(some 15), .call 100 [(.t 10), (.t 12), (.t 14)], none, [0, 2, 4]⟩, ⟨(some 6), .new [(.int .i64 0), (.int .i64 0), (.bool false), (.int .i64 0)], none, []⟩, ⟨none, .store 4 (.t 6) (.t 15), none, [6, 5, 5, 0, 1, 2, 3, 4, 5, 6]⟩]) (.seq (.reg false [⟨(some 16), .fld 2 (.t 6), none, []⟩, ⟨(some 17), .load none (.t 16), none, [0]⟩, ⟨(some 18), .un .not (.t 17), none, [1]⟩, ⟨(some 7), .mv (.t 18), none, [2, 0, 1, 2]⟩]) (.seq (.seq (.reg false [⟨(some 19), .fld 1 (.t 3), none, []⟩, ⟨(some 20), .load none (.t 19), none, [0]⟩]) (.block 0 (.seq (.reg false [⟨(some 22), .bin .eql (.t 20) (.v (.int .i64 6)), none, []⟩, ⟨(some 21), .mv (.t 22), none, [0]⟩]) (.cond (.t 21) (.seq (.reg false [⟨(some 23), .fld 2 (.t 6), none, []⟩, ⟨none, .store 1 (.t 23) (.v (.bool true)), none, [0]⟩]) (.seq (.reg true [⟨(some 24), .load (some 9) (.t 2), none, []⟩, ⟨(some 25), .load (some 4) (.t 6), none, []⟩, ⟨(some 26), .call 101 [(.t 24), (.t 25)], none, [0, 1]⟩, ⟨(some 27), .mv (.t 7), none, []⟩, ⟨(some 28), .mv (.t 27), none, [3, 2]⟩, ⟨(some 29), .fld 3 (.t 6), (some (28, true)), [4]⟩, ⟨(some 30), .load none (.t 29), (some (28, true)), [5, 4]⟩, ⟨(some 31), .bin .eql (.t 30) (.v (.int .i64 0)), (some (28, true)), [6, 4]⟩, ⟨(some 32), .pick (.t 28) (.t 31) (.v (.bool false)), none, [4, 7]⟩, ⟨none, .store 9 (.t 4) (.t 26), none, [2, 4, 0, 1, 2]⟩, ⟨(some 5), .mv (.t 32), none, [8, 9, 0, 1, 2, 3, 4, 5, 6, 7, 8, 9]⟩]) (.ret))) (.seq (.reg false [⟨(some 34), .bin .eql (.t 20) (.v (.int .i64 7)), none, []⟩, ⟨(some 33), .mv (.t 34), none, [0]⟩]) (.cond (.t 33) (.seq (.reg false [⟨(some 35), .fld 2 (.t 6), none, []⟩, ⟨none, .store 1 (.t 35) (.v (.bool false)), none, [0]⟩]) (.seq (.reg false [⟨(some 36), .load (some 9) (.t 2), none, []⟩, ⟨(some 37), .load (some 4) (.t 6), none, []⟩, ⟨(some 38), .call 101 [(.t 36), (.t 37)], none, [0, 1]⟩, ⟨(some 39), .mv (.t 7), none, []⟩, ⟨(some 40), .un .not (.t 39), none, [3]⟩, ⟨none, .store 9 (.t 4) (.t 38), none, [2, 2, 0, 1, 2]⟩, ⟨(some 5), .mv (.t 40), none, [4, 5, 0, 1, 2, 3, 4, 5]⟩]) (.ret))) (.seq (.reg false [⟨(some 42), .bin .eql (.t 20) (.v (.int .i64 8)), none, []⟩, ⟨(some 41), .mv (.t 42), none, [0]⟩]) (.cond (.t 41) (.seq (.reg false [⟨(some 43), .fld 3 (.t 6), none, []⟩, ⟨(some 44), .load none (.t 43), none, [0]⟩, ⟨(some 45), .bin .add (.t 44) (.v (.int .i64 1)), none, [1]⟩, ⟨(some 46), .fld 3 (.t 6), none, [0, 1, 2]⟩, ⟨none, .store 1 (.t 46) (.t 45), none, [3, 2, 0, 1, 2]⟩]) (.seq (.reg false [⟨(some 47), .load (some 9) (.t 2), none, []⟩, ⟨(some 48), .load (some 4) (.t 6), none, []⟩, ⟨(some 49), .call 101 [(.t 47), (.t 48)], none, [0, 1]⟩, ⟨(some 50), .mv (.t 7), none, []⟩, ⟨none, .store 9 (.t 4) (.t 49), none, [2, 2, 0, 1, 2]⟩, ⟨(some 5), .mv (.t 50), none, [3, 4, 0, 1, 2, 3, 4]⟩]) (.ret))) (.seq (.reg false [⟨(some 52), .bin .eql (.t 20) (.v (.int .i64 9)), none, []⟩, ⟨(some 51), .mv (.t 52), none, [0]⟩]) (.cond (.t 51) (.seq (.reg false [⟨(some 53), .fld 3 (.t 6), none, []⟩, ⟨(some 54), .load none (.t 53), none, [0]⟩, ⟨(some 55), .bin .sub (.t 54) (.v (.int .i64 1)), none, [1]⟩, ⟨(some 56), .fld 3 (.t 6), none, [0, 1, 2]⟩, ⟨none, .store 1 (.t 56) (.t 55), none, [3, 2, 0, 1, 2]⟩]) (.seq (.reg true [⟨(some 57), .load (some 9) (.t 2), none, []⟩, ⟨(some 58), .load (some 4) (.t 6), none, []⟩, ⟨(some 59), .call 101 [(.t 57), (.t 58)], none, [0, 1]⟩, ⟨(some 60), .fld 3 (.t 6), none, []⟩, ⟨(some 61), .load none (.t 60), none, [3]⟩, ⟨(some 62), .bin .geq (.t 61) (.v (.int .i64 0)), none, [4]⟩, ⟨none, .store 9 (.t 4) (.t 59), none, [2, 2, 0, 1, 2]⟩, ⟨(some 5), .mv (.t 62), none, [5, 6, 0, 1, 2, 3, 4, 5, 6]⟩]) (.ret))) (.seq (.reg false [⟨(some 64), .bin .eql (.t 20) (.v (.int .i64 12)), none, []⟩, ⟨(some 63), .mv (.t 64), none, [0]⟩]) (.cond (.t 63) (.seq (.reg false [⟨(some 65), .load (some 9) (.t 2), none, []⟩, ⟨(some 66), .fld 2 (.t 3), none, []⟩, ⟨(some 67), .load none (.t 66), none, [1]⟩, ⟨(some 68), .fld 3 (.t 3), none, []⟩, ⟨(some 69), .load none (.t 68), none, [3]⟩, ⟨(some 70), .call 102 [(.t 65), (.t 67), (.t 69)], none, [0, 2, 4]⟩, ⟨(some 8), .mv (.t 70), none, [5, 5, 0, 1, 2, 3, 4, 5]⟩]) (.seq (.reg true [⟨(some 71), .bslice 98 2 [] 0 [], none, []⟩, ⟨(some 72), .fld 4 (.t 2), none, []⟩, ⟨(some 73), .load none (.t 72), none, [1]⟩, ⟨(some 74), .append 98 2 16 (.t 71) (.t 73), none, [0, 2]⟩, ⟨(some 75), .fld 2 (.t 3), none, []⟩, ⟨(some 76), .load none (.t 75), none, [4]⟩, ⟨(some 77), .fld 3 (.t 3), none, []⟩, ⟨(some 78), .load none (.t 77), none, [6]⟩, ⟨(some 79), .build [(.int .i64 0), (.int .i64 0)] [(0, 1, (.t 76)), (1, 1, (.t 78))], none, [5, 7]⟩, ⟨(some 80), .bslice 98 2 [(.int .i64 0), (.int .i64 0)] 1 [(0, 2, (.t 79))], none, [8]⟩, ⟨(some 81), .append 98 2 16 (.t 74) (.t 80), none, [3, 9, 3]⟩, ⟨(some 82), .fld 4 (.t 2), none, [0, 1, 2, 3, 4, 5, 6, 7, 8, 9, 10]⟩, ⟨none, .store 1 (.t 82) (.t 81), none, [11, 10, 10, 0, 1, 2, 3, 4, 5, 6, 7, 8, 9, 10]⟩]) (.seq (.reg false [⟨(some 83), .load (some 9) (.t 2), none, []⟩, ⟨(some 84), .mv (.t 8), none, []⟩, ⟨(some 85), .un .not (.t 84), none, [1]⟩, ⟨none, .store 9 (.t 4) (.t 83), none, [0, 0]⟩, ⟨(some 5), .mv (.t 85), none, [2, 3, 0, 1, 2, 3]⟩]) (.ret)))) (.seq (.reg false [⟨(some 87), .bin .eql (.t 20) (.v (.int .i64 13)), none, []⟩, ⟨(some 86), .mv (.t 87), none, [0]⟩]) (.cond (.t 86) (.seq (.reg true [⟨(some 88), .load (some 9) (.t 2), none, []⟩, ⟨(some 89), .load (some 9) (.t 2), none, []⟩, ⟨(some 90), .fld 2 (.t 3), none, []⟩, ⟨(some 91), .load none (.t 90), none, [2]⟩, ⟨(some 92), .fld 3 (.t 3), none, []⟩, ⟨(some 93), .load none (.t 92), none, [4]⟩, ⟨(some 94), .call 102 [(.t 89), (.t 91), (.t 93)], none, [1, 3, 5]⟩, ⟨none, .store 9 (.t 4) (.t 88), none, [0, 6, 0]⟩, ⟨(some 5), .mv (.t 94), none, [6, 7, 0, 1, 2, 3, 4, 5, 6, 7]⟩]) (.ret)) (.seq (.reg false [⟨(some 96), .bin .eql (.t 20) (.v (.int .i64 14)), none, []⟩, ⟨(some 95), .mv (.t 96), none, [0]⟩]) (.cond (.t 95) (.seq (.reg false [⟨(some 97), .fld 1 (.t 2), none, []⟩, ⟨(some 98), .load none (.t 97), none, [0]⟩, ⟨(some 9), .mv (.t 98), none, [1, 0, 1]⟩]) (.seq (.reg false [⟨(some 99), .fld 1 (.t 2), none, []⟩, ⟨(some 100), .load none (.t 99), none, [0]⟩, ⟨(some 101), .bin .add (.t 100) (.v (.int .i64 1)), none, [1]⟩, ⟨(some 102), .fld 1 (.t 2), none, [0, 1, 2]⟩, ⟨none, .store 1 (.t 102) (.t 101), none, [3, 2, 0, 1, 2]⟩]) (.seq (.reg true [⟨(some 103), .load (some 9) (.t 2), none, []⟩, ⟨(some 104), .fld 4 (.t 3), none, []⟩, ⟨(some 105), .load none (.t 104), none, [1]⟩, ⟨(some 106), .mv (.t 9), none, []⟩, ⟨(some 107), .bin .eql (.t 105) (.t 106), none, [2, 3]⟩, ⟨none, .store 9 (.t 4) (.t 103), none, [0, 0]⟩, ⟨(some 5), .mv (.t 107), none, [4, 5, 0, 1, 2, 3, 4, 5]⟩]) (.ret)))) (.skip))))))))))))))))) (.seq (.reg false [⟨(some 108), .load (some 9) (.t 2), none, []⟩, ⟨none, .store 9 (.t 4) (.t 108), none, [0, 0]⟩, ⟨(some 5), .mv (.v (.bool true)), none, [1, 0, 1]⟩]) (.ret)))))
def pr68 : List PR := [.c 4 (some 9), .t 5]
theorem bd68:Try.f68.body=some (Try.f68.body.getD .skip):=by kernel_rfl
theorem cp68:compC Try.prog Try.f68.ntmps eqsL (Try.f68.body.getD .skip)=some pc68:=by kernel_rfl
theorem sp68 [WInv] {env:Env} (hE:EnvOK Try.prog env) {R:List Pa→List Pa→Prop} (hR:∀ ps rs,R ps rs→ps.length≤109∧pwp env pc68 (fun e s=>(e=.normal∨e=.ret)∧s.res pr68=some rs) (St.init ps)):Spec Try.prog 68 R :=
 fn_sound hE eqsOK mixedOK Try.func68 bd68 cp68 (by kernel_rfl) (by kernel_rfl) (by kernel_rfl) hR
def pc76 : PC := .seq (.reg false [⟨(some 2), .box (.t 0), none, []⟩, ⟨(some 4), .new [(.int .i64 0), (.int .i64 0), (.slice none 0 0), (.slice none 0 0), (.slice none 0 0), (.slice none 0 0), (.int .i64 0), (.int .i64 0), (.int .i64 0)], none, []⟩, ⟨(some 5), .mv (.v (.bool false)), none, []⟩]) (.seq (.seq (.reg false [⟨(some 6), .mv (.v (.int .i64 0)), none, []⟩]) (.block 0 (.loop (.seq (.seq (.reg false [⟨(some 9), .mv (.t 6), none, []⟩, ⟨(some 10), .mv (.t 1), none, []⟩, ⟨(some 11), .len (.t 10), none, [1]⟩, ⟨(some 12), .bin .lss (.t 9) (.t 11), none, [0, 2]⟩]) (.cond (.t 12) (.skip) (.exit 0))) (.seq (.block 1 (.seq (.reg true [⟨(some 16), .load (some 9) (.t 2), none, []⟩, ⟨(some 17), .mv (.t 1), none, []⟩, ⟨(some 18), .mv (.t 6), none, []⟩, ⟨(some 19), .ixs 9 (.t 17) (.t 18), none, [1, 2]⟩, ⟨(some 20), .load (some 9) (.t 19), none, [3]⟩, ⟨(some 21), .call 22 [(.t 16), (.t 20)], none, [0, 4]⟩, ⟨(some 15), .mv (.t 21), none, [5]⟩, ⟨(some 22), .ext (.t 15) 0, none, [6]⟩, ⟨(some 23), .ext (.t 15) 1, none, [6]⟩, ⟨(some 7), .new [(.int .i64 0), (.int .i64 0), (.slice none 0 0), (.slice none 0 0), (.slice none 0 0), (.slice none 0 0), (.int .i64 0), (.int .i64 0), (.int .i64 0)], none, []⟩, ⟨none, .store 9 (.t 7) (.t 22), none, [9, 7, 5, 0, 1, 2, 3, 4, 5, 6, 7, 9]⟩, ⟨(some 8), .mv (.t 23), none, [8, 10, 0, 1, 2, 3, 4, 5, 6, 7, 8, 9, 10]⟩]) (.seq (.seq (.reg false [⟨(some 24), .mv (.t 8), none, []⟩, ⟨(some 25), .un .not (.t 24), none, [0]⟩]) (.cond (.t 25) (.seq (.reg false [⟨(some 26), .load (some 9) (.t 2), none, []⟩, ⟨none, .store 9 (.t 4) (.t 26), none, [0, 0]⟩, ⟨(some 5), .mv (.v (.bool false)), none, [1, 0, 1]⟩]) (.ret)) (.skip))) (.reg false [⟨(some 27), .load (some 9) (.t 7), none, []⟩, ⟨none, .store 9 (.t 2) (.t 27), none, [0, 0]⟩])))) (.reg false [⟨(some 13), .mv (.t 6), none, []⟩, ⟨(some 14), .bin .add (.t 13) (.v (.int .i64 1)), none, [0]⟩, ⟨(some 6), .mv (.t 14), none, [1, 0, 1]⟩])))))) (.seq (.reg true [⟨(some 28), .load (some 9) (.t 2), none, []⟩, ⟨(some 29), .fld 5 (.t 2), none, []⟩, ⟨(some 30), .load none (.t 29), none, [1]⟩, ⟨(some 31), .len (.t 30), none, [2]⟩, ⟨(some 32), .bin .eql (.t 31) (.v (.int .i64 0)), none, [3]⟩, ⟨none, .store 9 (.t 4) (.t 28), none, [0, 0]⟩, ⟨(some 5), .mv (.t 32), none, [4, 5, 0, 1, 2, 3, 4, 5]⟩]) (.ret)))
def pr76 : List PR := [.c 4 (some 9), .t 5]
abbrev ms76_0 : List Nat := [9, 10, 11, 12, 16, 17, 18, 19, 20, 21, 15, 22, 23, 7, 8, 24, 25, 26, 5, 27, 13, 14, 6]
abbrev os76_0 : List Nat := [7, 4, 2]
theorem bd76:Try.f76.body=some (Try.f76.body.getD .skip):=by kernel_rfl
theorem cp76:compC Try.prog Try.f76.ntmps eqsL (Try.f76.body.getD .skip)=some pc76:=by kernel_rfl
theorem sp76 [WInv] {env:Env} (hE:EnvOK Try.prog env) {R:List Pa→List Pa→Prop} (hR:∀ ps rs,R ps rs→ps.length≤33∧pwp env pc76 (fun e s=>(e=.normal∨e=.ret)∧s.res pr76=some rs) (St.init ps)):Spec Try.prog 76 R :=
 fn_sound hE eqsOK mixedOK Try.func76 bd76 cp76 (by kernel_rfl) (by kernel_rfl) (by kernel_rfl) hR
def pc96 : PC := .seq (.reg false [⟨(some 2), .box (.t 0), none, []⟩, ⟨(some 3), .box (.t 1), none, []⟩, ⟨(some 4), .new [(.int .i64 0), (.int .i64 0), (.slice none 0 0), (.slice none 0 0), (.slice none 0 0), (.slice none 0 0), (.int .i64 0), (.int .i64 0), (.int .i64 0)], none, []⟩]) (.seq (.reg false [⟨(some 6), .load (some 9) (.t 2), none, []⟩, ⟨(some 7), .fld 2 (.t 3), none, []⟩, ⟨(some 8), .load none (.t 7), none, [1]⟩, ⟨(some 9), .fld 5 (.t 3), none, []⟩, ⟨(some 10), .load none (.t 9), none, [3]⟩, ⟨(some 11), .call 97 [(.t 6), (.t 8), (.t 10)], none, [0, 2, 4]⟩, ⟨(some 5), .new [(.int .i64 0), (.int .i64 0), (.int .i64 0), (.int .i64 0), (.bool false)], none, []⟩, ⟨none, .store 5 (.t 5) (.t 11), none, [6, 5, 5, 0, 1, 2, 3, 4, 5, 6]⟩]) (.seq (.seq (.reg false [⟨(some 12), .fld 1 (.t 3), none, []⟩, ⟨(some 13), .load none (.t 12), none, [0]⟩]) (.block 0 (.seq (.reg false [⟨(some 16), .bin .eql (.t 13) (.v (.int .i64 15)), none, []⟩, ⟨(some 15), .mv (.t 16), none, [0]⟩]) (.cond (.t 15) (.reg false [⟨(some 17), .fld 2 (.t 5), none, []⟩, ⟨(some 18), .load none (.t 17), none, [0]⟩, ⟨(some 19), .bin .add (.t 18) (.v (.int .i64 1)), none, [1]⟩, ⟨(some 20), .fld 2 (.t 5), none, [0, 1, 2]⟩, ⟨none, .store 1 (.t 20) (.t 19), none, [3, 2, 0, 1, 2]⟩]) (.seq (.reg false [⟨(some 22), .bin .eql (.t 13) (.v (.int .i64 17)), none, []⟩, ⟨(some 21), .mv (.t 22), none, [0]⟩]) (.cond (.t 21) (.reg false [⟨(some 23), .fld 3 (.t 5), none, []⟩, ⟨(some 24), .load none (.t 23), none, [0]⟩, ⟨(some 25), .bin .add (.t 24) (.v (.int .i64 1)), none, [1]⟩, ⟨(some 26), .fld 3 (.t 5), none, [0, 1, 2]⟩, ⟨none, .store 1 (.t 26) (.t 25), none, [3, 2, 0, 1, 2]⟩]) (.seq (.reg false [⟨(some 14), .load (some 9) (.t 2), none, []⟩, ⟨none, .store 9 (.t 4) (.t 14), none, [0, 0]⟩]) (.ret)))))))) (.seq (.reg false [⟨(some 27), .load (some 9) (.t 2), none, []⟩, ⟨(some 28), .load (some 5) (.t 5), none, []⟩, ⟨(some 29), .call 99 [(.t 27), (.t 28)], none, [0, 1]⟩, ⟨none, .store 9 (.t 4) (.t 29), none, [2, 2, 0, 1, 2]⟩]) (.ret))))
def pr96 : List PR := [.c 4 (some 9)]
theorem bd96:Try.f96.body=some (Try.f96.body.getD .skip):=by kernel_rfl
theorem cp96:compC Try.prog Try.f96.ntmps eqsL (Try.f96.body.getD .skip)=some pc96:=by kernel_rfl
theorem sp96 [WInv] {env:Env} (hE:EnvOK Try.prog env) {R:List Pa→List Pa→Prop} (hR:∀ ps rs,R ps rs→ps.length≤30∧pwp env pc96 (fun e s=>(e=.normal∨e=.ret)∧s.res pr96=some rs) (St.init ps)):Spec Try.prog 96 R :=
 fn_sound hE eqsOK mixedOK Try.func96 bd96 cp96 (by kernel_rfl) (by kernel_rfl) (by kernel_rfl) hR
def pc97 : PC := .seq (.reg false [⟨(some 3), .box (.t 0), none, []⟩, ⟨(some 6), .new [(.int .i64 0), (.int .i64 0), (.int .i64 0), (.int .i64 0), (.bool false)], none, []⟩]) (.seq (.seq (.reg false [⟨(some 7), .mv (.v (.int .i64 0)), none, []⟩]) (.block 0 (.loop (.seq (.seq (.reg false [⟨(some 8), .mv (.t 7), none, []⟩, ⟨(some 9), .fld 2 (.t 3), none, []⟩, ⟨(some 10), .load none (.t 9), none, [1]⟩, ⟨(some 11), .len (.t 10), none, [2]⟩, ⟨(some 12), .bin .lss (.t 8) (.t 11), none, [0, 3]⟩]) (.cond (.t 12) (.skip) (.exit 0))) (.seq (.block 1 (.seq (.reg false [⟨(some 15), .fld 2 (.t 3), none, []⟩, ⟨(some 16), .load none (.t 15), none, [0]⟩, ⟨(some 17), .mv (.t 7), none, []⟩, ⟨(some 18), .ixs 5 (.t 16) (.t 17), none, [1, 2]⟩, ⟨(some 19), .fld 0 (.t 18), none, [3]⟩, ⟨(some 20), .load none (.t 19), none, [4]⟩, ⟨(some 21), .mv (.t 1), none, []⟩, ⟨(some 22), .bin .eql (.t 20) (.t 21), none, [5, 6]⟩]) (.cond (.t 22) (.seq (.reg false [⟨(some 23), .fld 2 (.t 3), none, []⟩, ⟨(some 24), .load none (.t 23), none, [0]⟩, ⟨(some 25), .mv (.t 7), none, []⟩, ⟨(some 26), .ixs 5 (.t 24) (.t 25), none, [1, 2]⟩, ⟨(some 27), .load (some 5) (.t 26), none, [3]⟩, ⟨none, .store 5 (.t 6) (.t 27), none, [4, 0, 1, 2, 3, 4]⟩]) (.ret)) (.skip)))) (.reg false [⟨(some 13), .mv (.t 7), none, []⟩, ⟨(some 14), .bin .add (.t 13) (.v (.int .i64 1)), none, [0]⟩, ⟨(some 7), .mv (.t 14), none, [1, 0, 1]⟩])))))) (.seq (.reg false [⟨(some 28), .mv (.t 1), none, []⟩, ⟨(some 29), .mv (.t 2), none, []⟩, ⟨(some 30), .build [(.int .i64 0), (.int .i64 0), (.int .i64 0), (.int .i64 0), (.bool false)] [(0, 1, (.t 28)), (1, 1, (.t 29))], none, [0, 1]⟩, ⟨none, .store 5 (.t 6) (.t 30), none, [2, 0, 1, 2]⟩]) (.ret)))
def pr97 : List PR := [.c 6 (some 5)]
abbrev ms97_0 : List Nat := [8, 9, 10, 11, 12, 15, 16, 17, 18, 19, 20, 21, 22, 23, 24, 25, 26, 27, 13, 14, 7]
abbrev os97_0 : List Nat := [6]
theorem bd97:Try.f97.body=some (Try.f97.body.getD .skip):=by kernel_rfl
theorem cp97:compC Try.prog Try.f97.ntmps eqsL (Try.f97.body.getD .skip)=some pc97:=by kernel_rfl
theorem sp97 [WInv] {env:Env} (hE:EnvOK Try.prog env) {R:List Pa→List Pa→Prop} (hR:∀ ps rs,R ps rs→ps.length≤31∧pwp env pc97 (fun e s=>(e=.normal∨e=.ret)∧s.res pr97=some rs) (St.init ps)):Spec Try.prog 97 R :=
 fn_sound hE eqsOK mixedOK Try.func97 bd97 cp97 (by kernel_rfl) (by kernel_rfl) (by kernel_rfl) hR
def pc98 : PC := .seq (.reg false [⟨(some 3), .box (.t 0), none, []⟩, ⟨(some 4), .box (.t 1), none, []⟩, ⟨(some 6), .new [(.int .i64 0), (.int .i64 0), (.slice none 0 0), (.slice none 0 0), (.slice none 0 0), (.slice none 0 0), (.int .i64 0), (.int .i64 0), (.int .i64 0)], none, []⟩, ⟨(some 7), .mv (.v (.bool false)), none, []⟩]) (.seq (.reg true [⟨(some 8), .mv (.t 2), none, []⟩, ⟨(some 9), .fld 2 (.t 4), none, []⟩, ⟨(some 10), .load none (.t 9), none, [1]⟩, ⟨(some 11), .fld 4 (.t 4), none, []⟩, ⟨(some 12), .load none (.t 11), none, [3]⟩, ⟨(some 13), .fld 5 (.t 4), none, []⟩, ⟨(some 14), .load none (.t 13), none, [5]⟩, ⟨(some 15), .fld 5 (.t 3), none, [0]⟩, ⟨none, .store 1 (.t 15) (.t 8), none, [7, 0, 0]⟩, ⟨(some 16), .fld 6 (.t 3), none, [0, 1, 2, 7, 8]⟩, ⟨none, .store 1 (.t 16) (.t 10), none, [9, 2, 8, 0, 1, 2, 7, 8]⟩, ⟨(some 17), .fld 7 (.t 3), none, [0, 1, 2, 3, 4, 7, 8, 9, 10]⟩, ⟨none, .store 1 (.t 17) (.t 12), none, [11, 4, 10, 0, 1, 2, 3, 4, 7, 8, 9, 10]⟩, ⟨(some 18), .fld 8 (.t 3), none, [0, 1, 2, 3, 4, 5, 6, 7, 8, 9, 10, 11, 12]⟩, ⟨none, .store 1 (.t 18) (.t 14), none, [13, 6, 12, 0, 1, 2, 3, 4, 5, 6, 7, 8, 9, 10, 11, 12]⟩]) (.seq (.reg false [⟨(some 19), .load (some 9) (.t 3), none, []⟩, ⟨(some 20), .load (some 9) (.t 4), none, []⟩, ⟨(some 21), .call 96 [(.t 19), (.t 20)], none, [0, 1]⟩, ⟨none, .store 9 (.t 6) (.t 21), none, [2, 2, 0, 1, 2]⟩, ⟨(some 7), .mv (.v (.bool true)), none, [3, 0, 1, 2, 3]⟩]) (.ret)))
def pr98 : List PR := [.c 6 (some 9), .t 7]
theorem bd98:Try.f98.body=some (Try.f98.body.getD .skip):=by kernel_rfl
theorem cp98:compC Try.prog Try.f98.ntmps eqsL (Try.f98.body.getD .skip)=some pc98:=by kernel_rfl
theorem sp98 [WInv] {env:Env} (hE:EnvOK Try.prog env) {R:List Pa→List Pa→Prop} (hR:∀ ps rs,R ps rs→ps.length≤22∧pwp env pc98 (fun e s=>(e=.normal∨e=.ret)∧s.res pr98=some rs) (St.init ps)):Spec Try.prog 98 R :=
 fn_sound hE eqsOK mixedOK Try.func98 bd98 cp98 (by kernel_rfl) (by kernel_rfl) (by kernel_rfl) hR
def pc99 : PC := .seq (.reg false [⟨(some 2), .box (.t 0), none, []⟩, ⟨(some 3), .box (.t 1), none, []⟩, ⟨(some 4), .new [(.int .i64 0), (.int .i64 0), (.slice none 0 0), (.slice none 0 0), (.slice none 0 0), (.slice none 0 0), (.int .i64 0), (.int .i64 0), (.int .i64 0)], none, []⟩]) (.seq (.reg false [⟨(some 5), .nilRow 146 5, none, []⟩]) (.seq (.seq (.reg false [⟨(some 6), .mv (.v (.int .i64 0)), none, []⟩]) (.block 0 (.loop (.seq (.seq (.reg false [⟨(some 7), .mv (.t 6), none, []⟩, ⟨(some 8), .fld 2 (.t 2), none, []⟩, ⟨(some 9), .load none (.t 8), none, [1]⟩, ⟨(some 10), .len (.t 9), none, [2]⟩, ⟨(some 11), .bin .lss (.t 7) (.t 10), none, [0, 3]⟩]) (.cond (.t 11) (.skip) (.exit 0))) (.seq (.block 1 (.seq (.reg true [⟨(some 14), .fld 2 (.t 2), none, []⟩, ⟨(some 15), .load none (.t 14), none, [0]⟩, ⟨(some 16), .mv (.t 6), none, []⟩, ⟨(some 17), .ixs 5 (.t 15) (.t 16), none, [1, 2]⟩, ⟨(some 18), .fld 0 (.t 17), none, [3]⟩, ⟨(some 19), .load none (.t 18), none, [4]⟩, ⟨(some 20), .fld 0 (.t 3), none, []⟩, ⟨(some 21), .load none (.t 20), none, [6]⟩, ⟨(some 22), .bin .neq (.t 19) (.t 21), none, [5, 7]⟩]) (.cond (.t 22) (.reg false [⟨(some 23), .mv (.t 5), none, []⟩, ⟨(some 24), .fld 2 (.t 2), none, []⟩, ⟨(some 25), .load none (.t 24), none, [1]⟩, ⟨(some 26), .mv (.t 6), none, []⟩, ⟨(some 27), .ixs 5 (.t 25) (.t 26), none, [2, 3]⟩, ⟨(some 28), .load (some 5) (.t 27), none, [4]⟩, ⟨(some 29), .bslice 146 5 [(.int .i64 0), (.int .i64 0), (.int .i64 0), (.int .i64 0), (.bool false)] 1 [(0, 5, (.t 28))], none, [5]⟩, ⟨(some 30), .append 146 5 40 (.t 23) (.t 29), none, [0, 6]⟩, ⟨(some 5), .mv (.t 30), none, [7, 7, 0, 1, 2, 3, 4, 5, 6, 7]⟩]) (.skip)))) (.reg false [⟨(some 12), .mv (.t 6), none, []⟩, ⟨(some 13), .bin .add (.t 12) (.v (.int .i64 1)), none, [0]⟩, ⟨(some 6), .mv (.t 13), none, [1, 0, 1]⟩])))))) (.seq (.reg false [⟨(some 31), .mv (.t 5), none, []⟩, ⟨(some 32), .load (some 5) (.t 3), none, []⟩, ⟨(some 33), .bslice 146 5 [(.int .i64 0), (.int .i64 0), (.int .i64 0), (.int .i64 0), (.bool false)] 1 [(0, 5, (.t 32))], none, [1]⟩, ⟨(some 34), .append 146 5 40 (.t 31) (.t 33), none, [0, 2]⟩, ⟨(some 35), .fld 2 (.t 2), none, [0, 1, 2, 3]⟩, ⟨none, .store 1 (.t 35) (.t 34), none, [4, 3, 3, 0, 1, 2, 3]⟩]) (.seq (.reg false [⟨(some 36), .load (some 9) (.t 2), none, []⟩, ⟨none, .store 9 (.t 4) (.t 36), none, [0, 0]⟩]) (.ret)))))
def pr99 : List PR := [.c 4 (some 9)]
abbrev ms99_0 : List Nat := [7, 8, 9, 10, 11, 14, 15, 16, 17, 18, 19, 20, 21, 22, 23, 24, 25, 26, 27, 28, 29, 30, 5, 12, 13, 6]
abbrev os99_0 : List Nat := [29, 5]
theorem bd99:Try.f99.body=some (Try.f99.body.getD .skip):=by kernel_rfl
theorem cp99:compC Try.prog Try.f99.ntmps eqsL (Try.f99.body.getD .skip)=some pc99:=by kernel_rfl
theorem sp99 [WInv] {env:Env} (hE:EnvOK Try.prog env) {R:List Pa→List Pa→Prop} (hR:∀ ps rs,R ps rs→ps.length≤37∧pwp env pc99 (fun e s=>(e=.normal∨e=.ret)∧s.res pr99=some rs) (St.init ps)):Spec Try.prog 99 R :=
 fn_sound hE eqsOK mixedOK Try.func99 bd99 cp99 (by kernel_rfl) (by kernel_rfl) (by kernel_rfl) hR
def pc100 : PC := .seq (.reg false [⟨(some 3), .box (.t 0), none, []⟩, ⟨(some 6), .new [(.int .i64 0), (.int .i64 0), (.bool false), (.int .i64 0)], none, []⟩]) (.seq (.seq (.reg false [⟨(some 7), .mv (.v (.int .i64 0)), none, []⟩]) (.block 0 (.loop (.seq (.seq (.reg false [⟨(some 8), .mv (.t 7), none, []⟩, ⟨(some 9), .fld 3 (.t 3), none, []⟩, ⟨(some 10), .load none (.t 9), none, [1]⟩, ⟨(some 11), .len (.t 10), none, [2]⟩, ⟨(some 12), .bin .lss (.t 8) (.t 11), none, [0, 3]⟩]) (.cond (.t 12) (.skip) (.exit 0))) (.seq (.block 1 (.seq (.reg false [⟨(some 15), .fld 3 (.t 3), none, []⟩, ⟨(some 16), .load none (.t 15), none, [0]⟩, ⟨(some 17), .mv (.t 7), none, []⟩, ⟨(some 18), .ixs 4 (.t 16) (.t 17), none, [1, 2]⟩, ⟨(some 19), .fld 0 (.t 18), none, [3]⟩, ⟨(some 20), .load none (.t 19), none, [4]⟩, ⟨(some 21), .mv (.t 1), none, []⟩, ⟨(some 22), .bin .eql (.t 20) (.t 21), none, [5, 6]⟩, ⟨(some 23), .mv (.t 22), none, [7]⟩, ⟨(some 24), .fld 3 (.t 3), (some (23, true)), [8]⟩, ⟨(some 25), .load none (.t 24), (some (23, true)), [9, 8]⟩, ⟨(some 26), .mv (.t 7), (some (23, true)), [8]⟩, ⟨(some 27), .ixs 4 (.t 25) (.t 26), (some (23, true)), [10, 11, 8]⟩, ⟨(some 28), .fld 1 (.t 27), (some (23, true)), [12, 8]⟩, ⟨(some 29), .load none (.t 28), (some (23, true)), [13, 8]⟩, ⟨(some 30), .mv (.t 2), (some (23, true)), [8]⟩, ⟨(some 31), .bin .eql (.t 29) (.t 30), (some (23, true)), [14, 15, 8]⟩, ⟨(some 32), .pick (.t 23) (.t 31) (.v (.bool false)), none, [8, 16]⟩]) (.cond (.t 32) (.seq (.reg false [⟨(some 33), .fld 3 (.t 3), none, []⟩, ⟨(some 34), .load none (.t 33), none, [0]⟩, ⟨(some 35), .mv (.t 7), none, []⟩, ⟨(some 36), .ixs 4 (.t 34) (.t 35), none, [1, 2]⟩, ⟨(some 37), .load (some 4) (.t 36), none, [3]⟩, ⟨none, .store 4 (.t 6) (.t 37), none, [4, 0, 1, 2, 3, 4]⟩]) (.ret)) (.skip)))) (.reg false [⟨(some 13), .mv (.t 7), none, []⟩, ⟨(some 14), .bin .add (.t 13) (.v (.int .i64 1)), none, [0]⟩, ⟨(some 7), .mv (.t 14), none, [1, 0, 1]⟩])))))) (.seq (.reg false [⟨(some 38), .mv (.t 1), none, []⟩, ⟨(some 39), .mv (.t 2), none, []⟩, ⟨(some 40), .build [(.int .i64 0), (.int .i64 0), (.bool false), (.int .i64 0)] [(0, 1, (.t 38)), (1, 1, (.t 39))], none, [0, 1]⟩, ⟨none, .store 4 (.t 6) (.t 40), none, [2, 0, 1, 2]⟩]) (.ret)))
def pr100 : List PR := [.c 6 (some 4)]
abbrev ms100_0 : List Nat := [8, 9, 10, 11, 12, 15, 16, 17, 18, 19, 20, 21, 22, 23, 24, 25, 26, 27, 28, 29, 30, 31, 32, 33, 34, 35, 36, 37, 13, 14, 7]
abbrev os100_0 : List Nat := [6]
theorem bd100:Try.f100.body=some (Try.f100.body.getD .skip):=by kernel_rfl
theorem cp100:compC Try.prog Try.f100.ntmps eqsL (Try.f100.body.getD .skip)=some pc100:=by kernel_rfl
theorem sp100 [WInv] {env:Env} (hE:EnvOK Try.prog env) {R:List Pa→List Pa→Prop} (hR:∀ ps rs,R ps rs→ps.length≤41∧pwp env pc100 (fun e s=>(e=.normal∨e=.ret)∧s.res pr100=some rs) (St.init ps)):Spec Try.prog 100 R :=
 fn_sound hE eqsOK mixedOK Try.func100 bd100 cp100 (by kernel_rfl) (by kernel_rfl) (by kernel_rfl) hR
def pc101 : PC := .seq (.reg false [⟨(some 2), .box (.t 0), none, []⟩, ⟨(some 3), .box (.t 1), none, []⟩, ⟨(some 4), .new [(.int .i64 0), (.int .i64 0), (.slice none 0 0), (.slice none 0 0), (.slice none 0 0), (.slice none 0 0), (.int .i64 0), (.int .i64 0), (.int .i64 0)], none, []⟩]) (.seq (.reg false [⟨(some 5), .nilRow 151 4, none, []⟩]) (.seq (.seq (.reg false [⟨(some 6), .mv (.v (.int .i64 0)), none, []⟩]) (.block 0 (.loop (.seq (.seq (.reg false [⟨(some 7), .mv (.t 6), none, []⟩, ⟨(some 8), .fld 3 (.t 2), none, []⟩, ⟨(some 9), .load none (.t 8), none, [1]⟩, ⟨(some 10), .len (.t 9), none, [2]⟩, ⟨(some 11), .bin .lss (.t 7) (.t 10), none, [0, 3]⟩]) (.cond (.t 11) (.skip) (.exit 0))) (.seq (.block 1 (.seq (.reg true [⟨(some 14), .fld 3 (.t 2), none, []⟩, ⟨(some 15), .load none (.t 14), none, [0]⟩, ⟨(some 16), .mv (.t 6), none, []⟩, ⟨(some 17), .ixs 4 (.t 15) (.t 16), none, [1, 2]⟩, ⟨(some 18), .fld 0 (.t 17), none, [3]⟩, ⟨(some 19), .load none (.t 18), none, [4]⟩, ⟨(some 20), .fld 0 (.t 3), none, []⟩, ⟨(some 21), .load none (.t 20), none, [6]⟩, ⟨(some 22), .bin .neq (.t 19) (.t 21), none, [5, 7]⟩, ⟨(some 23), .mv (.t 22), none, [8]⟩, ⟨(some 24), .fld 3 (.t 2), (some (23, false)), [9]⟩, ⟨(some 25), .load none (.t 24), (some (23, false)), [10, 9]⟩, ⟨(some 26), .mv (.t 6), (some (23, false)), [9]⟩, ⟨(some 27), .ixs 4 (.t 25) (.t 26), (some (23, false)), [11, 12, 9]⟩, ⟨(some 28), .fld 1 (.t 27), (some (23, false)), [13, 9]⟩, ⟨(some 29), .load none (.t 28), (some (23, false)), [14, 9]⟩, ⟨(some 30), .fld 1 (.t 3), (some (23, false)), [9]⟩, ⟨(some 31), .load none (.t 30), (some (23, false)), [16, 9]⟩, ⟨(some 32), .bin .neq (.t 29) (.t 31), (some (23, false)), [15, 17, 9]⟩, ⟨(some 33), .pick (.t 23) (.v (.bool true)) (.t 32), none, [9, 18]⟩]) (.cond (.t 33) (.reg false [⟨(some 34), .mv (.t 5), none, []⟩, ⟨(some 35), .fld 3 (.t 2), none, []⟩, ⟨(some 36), .load none (.t 35), none, [1]⟩, ⟨(some 37), .mv (.t 6), none, []⟩, ⟨(some 38), .ixs 4 (.t 36) (.t 37), none, [2, 3]⟩, ⟨(some 39), .load (some 4) (.t 38), none, [4]⟩, ⟨(some 40), .bslice 151 4 [(.int .i64 0), (.int .i64 0), (.bool false), (.int .i64 0)] 1 [(0, 4, (.t 39))], none, [5]⟩, ⟨(some 41), .append 151 4 32 (.t 34) (.t 40), none, [0, 6]⟩, ⟨(some 5), .mv (.t 41), none, [7, 7, 0, 1, 2, 3, 4, 5, 6, 7]⟩]) (.skip)))) (.reg false [⟨(some 12), .mv (.t 6), none, []⟩, ⟨(some 13), .bin .add (.t 12) (.v (.int .i64 1)), none, [0]⟩, ⟨(some 6), .mv (.t 13), none, [1, 0, 1]⟩])))))) (.seq (.reg false [⟨(some 42), .mv (.t 5), none, []⟩, ⟨(some 43), .load (some 4) (.t 3), none, []⟩, ⟨(some 44), .bslice 151 4 [(.int .i64 0), (.int .i64 0), (.bool false), (.int .i64 0)] 1 [(0, 4, (.t 43))], none, [1]⟩, ⟨(some 45), .append 151 4 32 (.t 42) (.t 44), none, [0, 2]⟩, ⟨(some 46), .fld 3 (.t 2), none, [0, 1, 2, 3]⟩, ⟨none, .store 1 (.t 46) (.t 45), none, [4, 3, 3, 0, 1, 2, 3]⟩]) (.seq (.reg false [⟨(some 47), .load (some 9) (.t 2), none, []⟩, ⟨none, .store 9 (.t 4) (.t 47), none, [0, 0]⟩]) (.ret)))))
def pr101 : List PR := [.c 4 (some 9)]
abbrev ms101_0 : List Nat := [7, 8, 9, 10, 11, 14, 15, 16, 17, 18, 19, 20, 21, 22, 23, 24, 25, 26, 27, 28, 29, 30, 31, 32, 33, 34, 35, 36, 37, 38, 39, 40, 41, 5, 12, 13, 6]
abbrev os101_0 : List Nat := [40, 5]
theorem bd101:Try.f101.body=some (Try.f101.body.getD .skip):=by kernel_rfl
theorem cp101:compC Try.prog Try.f101.ntmps eqsL (Try.f101.body.getD .skip)=some pc101:=by kernel_rfl
theorem sp101 [WInv] {env:Env} (hE:EnvOK Try.prog env) {R:List Pa→List Pa→Prop} (hR:∀ ps rs,R ps rs→ps.length≤48∧pwp env pc101 (fun e s=>(e=.normal∨e=.ret)∧s.res pr101=some rs) (St.init ps)):Spec Try.prog 101 R :=
 fn_sound hE eqsOK mixedOK Try.func101 bd101 cp101 (by kernel_rfl) (by kernel_rfl) (by kernel_rfl) hR
def pc102 : PC := .seq (.reg false [⟨(some 3), .box (.t 0), none, []⟩, ⟨(some 6), .mv (.v (.bool false)), none, []⟩]) (.seq (.seq (.reg false [⟨(some 7), .mv (.v (.int .i64 0)), none, []⟩]) (.block 0 (.loop (.seq (.seq (.reg false [⟨(some 8), .mv (.t 7), none, []⟩, ⟨(some 9), .fld 4 (.t 3), none, []⟩, ⟨(some 10), .load none (.t 9), none, [1]⟩, ⟨(some 11), .len (.t 10), none, [2]⟩, ⟨(some 12), .bin .lss (.t 8) (.t 11), none, [0, 3]⟩]) (.cond (.t 12) (.skip) (.exit 0))) (.seq (.block 1 (.seq (.reg false [⟨(some 15), .fld 4 (.t 3), none, []⟩, ⟨(some 16), .load none (.t 15), none, [0]⟩, ⟨(some 17), .mv (.t 7), none, []⟩, ⟨(some 18), .ixs 2 (.t 16) (.t 17), none, [1, 2]⟩, ⟨(some 19), .fld 0 (.t 18), none, [3]⟩, ⟨(some 20), .load none (.t 19), none, [4]⟩, ⟨(some 21), .mv (.t 1), none, []⟩, ⟨(some 22), .bin .eql (.t 20) (.t 21), none, [5, 6]⟩, ⟨(some 23), .mv (.t 22), none, [7]⟩, ⟨(some 24), .fld 4 (.t 3), (some (23, true)), [8]⟩, ⟨(some 25), .load none (.t 24), (some (23, true)), [9, 8]⟩, ⟨(some 26), .mv (.t 7), (some (23, true)), [8]⟩, ⟨(some 27), .ixs 2 (.t 25) (.t 26), (some (23, true)), [10, 11, 8]⟩, ⟨(some 28), .fld 1 (.t 27), (some (23, true)), [12, 8]⟩, ⟨(some 29), .load none (.t 28), (some (23, true)), [13, 8]⟩, ⟨(some 30), .mv (.t 2), (some (23, true)), [8]⟩, ⟨(some 31), .bin .eql (.t 29) (.t 30), (some (23, true)), [14, 15, 8]⟩, ⟨(some 32), .pick (.t 23) (.t 31) (.v (.bool false)), none, [8, 16]⟩]) (.cond (.t 32) (.seq (.reg false [⟨(some 6), .mv (.v (.bool true)), none, []⟩]) (.ret)) (.skip)))) (.reg false [⟨(some 13), .mv (.t 7), none, []⟩, ⟨(some 14), .bin .add (.t 13) (.v (.int .i64 1)), none, [0]⟩, ⟨(some 7), .mv (.t 14), none, [1, 0, 1]⟩])))))) (.seq (.reg false [⟨(some 6), .mv (.v (.bool false)), none, []⟩]) (.ret)))
def pr102 : List PR := [.t 6]
abbrev ms102_0 : List Nat := [8, 9, 10, 11, 12, 15, 16, 17, 18, 19, 20, 21, 22, 23, 24, 25, 26, 27, 28, 29, 30, 31, 32, 6, 13, 14, 7]
abbrev os102_0 : List Nat := []
theorem bd102:Try.f102.body=some (Try.f102.body.getD .skip):=by kernel_rfl
theorem cp102:compC Try.prog Try.f102.ntmps eqsL (Try.f102.body.getD .skip)=some pc102:=by kernel_rfl
theorem sp102 [WInv] {env:Env} (hE:EnvOK Try.prog env) {R:List Pa→List Pa→Prop} (hR:∀ ps rs,R ps rs→ps.length≤33∧pwp env pc102 (fun e s=>(e=.normal∨e=.ret)∧s.res pr102=some rs) (St.init ps)):Spec Try.prog 102 R :=
 fn_sound hE eqsOK mixedOK Try.func102 bd102 cp102 (by kernel_rfl) (by kernel_rfl) (by kernel_rfl) hR
def pc20 : PC := .seq (.reg false [⟨(some 0), .new [(.int .i64 0), (.int .i64 0), (.slice none 0 0), (.slice none 0 0), (.slice none 0 0), (.slice none 0 0), (.int .i64 0), (.int .i64 0), (.int .i64 0)], none, []⟩]) (.seq (.reg false [⟨(some 1), .build [(.int .i64 0), (.int .i64 0), (.slice none 0 0), (.slice none 0 0), (.slice none 0 0), (.slice none 0 0), (.int .i64 0), (.int .i64 0), (.int .i64 0)] [(1, 1, (.v (.int .i64 1)))], none, []⟩, ⟨none, .store 9 (.t 0) (.t 1), none, [0, 0]⟩]) (.ret))
def pr20 : List PR := [.c 0 (some 9)]
theorem bd20:Try.f20.body=some (Try.f20.body.getD .skip):=by kernel_rfl
theorem cp20:compC Try.prog Try.f20.ntmps eqsL (Try.f20.body.getD .skip)=some pc20:=by kernel_rfl
theorem sp20 [WInv] {env:Env} (hE:EnvOK Try.prog env) {R:List Pa→List Pa→Prop} (hR:∀ ps rs,R ps rs→ps.length≤2∧pwp env pc20 (fun e s=>(e=.normal∨e=.ret)∧s.res pr20=some rs) (St.init ps)):Spec Try.prog 20 R :=
 fn_sound hE eqsOK mixedOK Try.func20 bd20 cp20 (by kernel_rfl) (by kernel_rfl) (by kernel_rfl) hR
def pc27 : PC := .seq (.reg false [⟨(some 2), .mv (.v (.bool false)), none, []⟩]) (.seq (.reg false [⟨(some 6), .mv (.t 0), none, []⟩, ⟨(some 7), .call 72 [(.t 6)], none, [0]⟩, ⟨(some 5), .mv (.t 7), none, [1]⟩, ⟨(some 8), .ext (.t 5) 0, none, [2]⟩, ⟨(some 9), .ext (.t 5) 1, none, [2]⟩, ⟨(some 3), .mv (.t 8), none, [3, 1, 0, 1, 2, 3]⟩, ⟨(some 4), .mv (.t 9), none, [4, 5, 0, 1, 2, 3, 4, 5]⟩]) (.seq (.reg false [⟨(some 10), .mv (.t 4), none, []⟩, ⟨(some 2), .mv (.t 10), none, [0, 0]⟩]) (.ret)))
def pr27 : List PR := [.t 2]
theorem bd27:Try.f27.body=some (Try.f27.body.getD .skip):=by kernel_rfl
theorem cp27:compC Try.prog Try.f27.ntmps eqsL (Try.f27.body.getD .skip)=some pc27:=by kernel_rfl
theorem sp27 [WInv] {env:Env} (hE:EnvOK Try.prog env) {R:List Pa→List Pa→Prop} (hR:∀ ps rs,R ps rs→ps.length≤11∧pwp env pc27 (fun e s=>(e=.normal∨e=.ret)∧s.res pr27=some rs) (St.init ps)):Spec Try.prog 27 R :=
 fn_sound hE eqsOK mixedOK Try.func27 bd27 cp27 (by kernel_rfl) (by kernel_rfl) (by kernel_rfl) hR
def pc31 : PC := .seq (.reg false [⟨(some 2), .nilRow 34 9, none, []⟩]) (.seq (.reg false [⟨(some 10), .call 20 [], none, []⟩, ⟨(some 3), .new [(.int .i64 0), (.int .i64 0), (.slice none 0 0), (.slice none 0 0), (.slice none 0 0), (.slice none 0 0), (.int .i64 0), (.int .i64 0), (.int .i64 0)], none, []⟩, ⟨none, .store 9 (.t 3) (.t 10), none, [1, 0, 0, 0, 1]⟩]) (.seq (.reg false [⟨(some 4), .nilRow 34 9, none, []⟩]) (.seq (.seq (.reg false [⟨(some 5), .mv (.v (.int .i64 0)), none, []⟩]) (.block 0 (.loop (.seq (.seq (.reg false [⟨(some 11), .mv (.t 5), none, []⟩, ⟨(some 12), .mv (.t 0), none, []⟩, ⟨(some 13), .len (.t 12), none, [1]⟩, ⟨(some 14), .bin .lss (.t 11) (.t 13), none, [0, 2]⟩, ⟨(some 15), .mv (.t 14), none, [3]⟩, ⟨(some 16), .mv (.t 4), (some (15, true)), [4]⟩, ⟨(some 17), .len (.t 16), (some (15, true)), [5, 4]⟩, ⟨(some 18), .bin .lss (.t 17) (.v (.int .i64 76)), (some (15, true)), [6, 4]⟩, ⟨(some 19), .pick (.t 15) (.t 18) (.v (.bool false)), none, [4, 7]⟩]) (.cond (.t 19) (.skip) (.exit 0))) (.seq (.block 1 (.seq (.reg true [⟨(some 22), .load (some 9) (.t 3), none, []⟩, ⟨(some 23), .mv (.t 0), none, []⟩, ⟨(some 24), .mv (.t 5), none, []⟩, ⟨(some 25), .ixs 9 (.t 23) (.t 24), none, [1, 2]⟩, ⟨(some 26), .load (some 9) (.t 25), none, [3]⟩, ⟨(some 27), .mv (.t 0), none, []⟩, ⟨(some 28), .mv (.t 5), none, []⟩, ⟨(some 29), .ixs 9 (.t 27) (.t 28), none, [5, 6]⟩, ⟨(some 30), .fld 0 (.t 29), none, [7]⟩, ⟨(some 31), .load none (.t 30), none, [8]⟩, ⟨(some 32), .fld 1 (.t 3), none, []⟩, ⟨(some 33), .load none (.t 32), none, [10]⟩, ⟨(some 34), .call 75 [(.t 31), (.t 33)], none, [9, 11]⟩, ⟨(some 35), .call 74 [(.t 22), (.t 26), (.t 34)], none, [0, 4, 12, 12]⟩, ⟨(some 6), .mv (.t 35), none, [13, 13, 0, 1, 2, 3, 4, 5, 6, 7, 8, 9, 10, 11, 12, 13]⟩]) (.seq (.reg false [⟨(some 7), .mv (.v (.int .i64 0)), none, []⟩]) (.block 2 (.loop (.seq (.seq (.reg false [⟨(some 36), .mv (.t 7), none, []⟩, ⟨(some 37), .mv (.t 6), none, []⟩, ⟨(some 38), .len (.t 37), none, [1]⟩, ⟨(some 39), .bin .lss (.t 36) (.t 38), none, [0, 2]⟩]) (.cond (.t 39) (.skip) (.exit 2))) (.seq (.block 3 (.seq (.reg true [⟨(some 43), .load (some 9) (.t 3), none, []⟩, ⟨(some 44), .mv (.t 6), none, []⟩, ⟨(some 45), .mv (.t 7), none, []⟩, ⟨(some 46), .ixs 1 (.t 44) (.t 45), none, [1, 2]⟩, ⟨(some 47), .load none (.t 46), none, [3]⟩, ⟨(some 48), .call 76 [(.t 43), (.t 47)], none, [0, 4]⟩, ⟨(some 42), .mv (.t 48), none, [5]⟩, ⟨(some 49), .ext (.t 42) 0, none, [6]⟩, ⟨(some 50), .ext (.t 42) 1, none, [6]⟩, ⟨(some 8), .new [(.int .i64 0), (.int .i64 0), (.slice none 0 0), (.slice none 0 0), (.slice none 0 0), (.slice none 0 0), (.int .i64 0), (.int .i64 0), (.int .i64 0)], none, []⟩, ⟨none, .store 9 (.t 8) (.t 49), none, [9, 7, 5, 0, 1, 2, 3, 4, 5, 6, 7, 9]⟩, ⟨(some 9), .mv (.t 50), none, [8, 10, 0, 1, 2, 3, 4, 5, 6, 7, 8, 9, 10]⟩]) (.seq (.reg false [⟨(some 51), .mv (.t 9), none, []⟩]) (.cond (.t 51) (.seq (.reg false [⟨(some 52), .load (some 9) (.t 8), none, []⟩, ⟨none, .store 9 (.t 3) (.t 52), none, [0, 0]⟩]) (.seq (.reg false [⟨(some 53), .mv (.t 4), none, []⟩, ⟨(some 54), .mv (.t 6), none, []⟩, ⟨(some 55), .mv (.t 7), none, []⟩, ⟨(some 56), .ixs 1 (.t 54) (.t 55), none, [1, 2]⟩, ⟨(some 57), .load none (.t 56), none, [3]⟩, ⟨(some 58), .append 34 9 72 (.t 53) (.t 57), none, [0, 4]⟩, ⟨(some 4), .mv (.t 58), none, [5, 5, 0, 1, 2, 3, 4, 5]⟩]) (.exit 2))) (.skip))))) (.reg false [⟨(some 40), .mv (.t 7), none, []⟩, ⟨(some 41), .bin .add (.t 40) (.v (.int .i64 1)), none, [0]⟩, ⟨(some 7), .mv (.t 41), none, [1, 0, 1]⟩])))))))) (.reg false [⟨(some 20), .mv (.t 5), none, []⟩, ⟨(some 21), .bin .add (.t 20) (.v (.int .i64 1)), none, [0]⟩, ⟨(some 5), .mv (.t 21), none, [1, 0, 1]⟩])))))) (.seq (.reg false [⟨(some 59), .mv (.t 4), none, []⟩, ⟨(some 2), .mv (.t 59), none, [0, 0]⟩]) (.ret)))))
def pr31 : List PR := [.t 2]
abbrev ms31_0 : List Nat := [11, 12, 13, 14, 15, 16, 17, 18, 19, 22, 23, 24, 25, 26, 27, 28, 29, 30, 31, 32, 33, 34, 35, 6, 7, 36, 37, 38, 39, 43, 44, 45, 46, 47, 48, 42, 49, 50, 8, 9, 51, 52, 53, 54, 55, 56, 57, 58, 4, 40, 41, 20, 21, 5]
abbrev os31_0 : List Nat := [8, 3, 4]
abbrev ms31_1 : List Nat := [36, 37, 38, 39, 43, 44, 45, 46, 47, 48, 42, 49, 50, 8, 9, 51, 52, 53, 54, 55, 56, 57, 58, 4, 40, 41, 7]
abbrev os31_1 : List Nat := [8, 3, 4]
theorem bd31:Try.f31.body=some (Try.f31.body.getD .skip):=by kernel_rfl
theorem cp31:compC Try.prog Try.f31.ntmps eqsL (Try.f31.body.getD .skip)=some pc31:=by kernel_rfl
theorem sp31 [WInv] {env:Env} (hE:EnvOK Try.prog env) {R:List Pa→List Pa→Prop} (hR:∀ ps rs,R ps rs→ps.length≤60∧pwp env pc31 (fun e s=>(e=.normal∨e=.ret)∧s.res pr31=some rs) (St.init ps)):Spec Try.prog 31 R :=
 fn_sound hE eqsOK mixedOK Try.func31 bd31 cp31 (by kernel_rfl) (by kernel_rfl) (by kernel_rfl) hR
def pc32 : PC := .seq (.reg false [⟨(some 2), .mv (.v (.int .i64 0)), none, []⟩]) (.seq (.reg false [⟨(some 8), .call 20 [], none, []⟩, ⟨(some 3), .new [(.int .i64 0), (.int .i64 0), (.slice none 0 0), (.slice none 0 0), (.slice none 0 0), (.slice none 0 0), (.int .i64 0), (.int .i64 0), (.int .i64 0)], none, []⟩, ⟨none, .store 9 (.t 3) (.t 8), none, [1, 0, 0, 0, 1]⟩]) (.seq (.reg false [⟨(some 4), .mv (.v (.int .i64 0)), none, []⟩]) (.seq (.seq (.reg false [⟨(some 5), .mv (.v (.int .i64 0)), none, []⟩]) (.block 0 (.loop (.seq (.seq (.reg false [⟨(some 9), .mv (.t 5), none, []⟩, ⟨(some 10), .mv (.t 0), none, []⟩, ⟨(some 11), .len (.t 10), none, [1]⟩, ⟨(some 12), .bin .lss (.t 9) (.t 11), none, [0, 2]⟩]) (.cond (.t 12) (.skip) (.exit 0))) (.seq (.block 1 (.seq (.reg true [⟨(some 16), .load (some 9) (.t 3), none, []⟩, ⟨(some 17), .mv (.t 0), none, []⟩, ⟨(some 18), .mv (.t 5), none, []⟩, ⟨(some 19), .ixs 9 (.t 17) (.t 18), none, [1, 2]⟩, ⟨(some 20), .load (some 9) (.t 19), none, [3]⟩, ⟨(some 21), .call 22 [(.t 16), (.t 20)], none, [0, 4]⟩, ⟨(some 15), .mv (.t 21), none, [5]⟩, ⟨(some 22), .ext (.t 15) 0, none, [6]⟩, ⟨(some 23), .ext (.t 15) 1, none, [6]⟩, ⟨(some 6), .new [(.int .i64 0), (.int .i64 0), (.slice none 0 0), (.slice none 0 0), (.slice none 0 0), (.slice none 0 0), (.int .i64 0), (.int .i64 0), (.int .i64 0)], none, []⟩, ⟨none, .store 9 (.t 6) (.t 22), none, [9, 7, 5, 0, 1, 2, 3, 4, 5, 6, 7, 9]⟩, ⟨(some 7), .mv (.t 23), none, [8, 10, 0, 1, 2, 3, 4, 5, 6, 7, 8, 9, 10]⟩]) (.seq (.seq (.reg false [⟨(some 24), .mv (.t 7), none, []⟩, ⟨(some 25), .un .not (.t 24), none, [0]⟩]) (.cond (.t 25) (.seq (.reg false [⟨(some 26), .mv (.t 4), none, []⟩, ⟨(some 2), .mv (.t 26), none, [0, 0]⟩]) (.ret)) (.skip))) (.seq (.reg false [⟨(some 27), .load (some 9) (.t 6), none, []⟩, ⟨none, .store 9 (.t 3) (.t 27), none, [0, 0]⟩]) (.seq (.reg false [⟨(some 28), .fld 5 (.t 3), none, []⟩, ⟨(some 29), .load none (.t 28), none, [0]⟩, ⟨(some 30), .len (.t 29), none, [1]⟩, ⟨(some 31), .bin .eql (.t 30) (.v (.int .i64 0)), none, [2]⟩]) (.cond (.t 31) (.reg false [⟨(some 32), .mv (.t 5), none, []⟩, ⟨(some 33), .bin .add (.t 32) (.v (.int .i64 1)), none, [0]⟩, ⟨(some 4), .mv (.t 33), none, [1, 0, 1]⟩]) (.skip))))))) (.reg false [⟨(some 13), .mv (.t 5), none, []⟩, ⟨(some 14), .bin .add (.t 13) (.v (.int .i64 1)), none, [0]⟩, ⟨(some 5), .mv (.t 14), none, [1, 0, 1]⟩])))))) (.seq (.reg false [⟨(some 34), .mv (.t 4), none, []⟩, ⟨(some 2), .mv (.t 34), none, [0, 0]⟩]) (.ret)))))
def pr32 : List PR := [.t 2]
abbrev ms32_0 : List Nat := [9, 10, 11, 12, 16, 17, 18, 19, 20, 21, 15, 22, 23, 6, 7, 24, 25, 26, 2, 27, 28, 29, 30, 31, 32, 33, 4, 13, 14, 5]
abbrev os32_0 : List Nat := [6, 3]
theorem bd32:Try.f32.body=some (Try.f32.body.getD .skip):=by kernel_rfl
theorem cp32:compC Try.prog Try.f32.ntmps eqsL (Try.f32.body.getD .skip)=some pc32:=by kernel_rfl
theorem sp32 [WInv] {env:Env} (hE:EnvOK Try.prog env) {R:List Pa→List Pa→Prop} (hR:∀ ps rs,R ps rs→ps.length≤35∧pwp env pc32 (fun e s=>(e=.normal∨e=.ret)∧s.res pr32=some rs) (St.init ps)):Spec Try.prog 32 R :=
 fn_sound hE eqsOK mixedOK Try.func32 bd32 cp32 (by kernel_rfl) (by kernel_rfl) (by kernel_rfl) hR
def pc72 : PC := .seq (.reg false [⟨(some 2), .mv (.v (.int .i64 0)), none, []⟩, ⟨(some 3), .mv (.v (.bool false)), none, [0]⟩]) (.seq (.reg false [⟨(some 8), .call 20 [], none, []⟩, ⟨(some 4), .new [(.int .i64 0), (.int .i64 0), (.slice none 0 0), (.slice none 0 0), (.slice none 0 0), (.slice none 0 0), (.int .i64 0), (.int .i64 0), (.int .i64 0)], none, []⟩, ⟨none, .store 9 (.t 4) (.t 8), none, [1, 0, 0, 0, 1]⟩]) (.seq (.seq (.reg false [⟨(some 5), .mv (.v (.int .i64 0)), none, []⟩]) (.block 0 (.loop (.seq (.seq (.reg false [⟨(some 9), .mv (.t 5), none, []⟩, ⟨(some 10), .mv (.t 0), none, []⟩, ⟨(some 11), .len (.t 10), none, [1]⟩, ⟨(some 12), .bin .lss (.t 9) (.t 11), none, [0, 2]⟩]) (.cond (.t 12) (.skip) (.exit 0))) (.seq (.block 1 (.seq (.reg true [⟨(some 16), .load (some 9) (.t 4), none, []⟩, ⟨(some 17), .mv (.t 0), none, []⟩, ⟨(some 18), .mv (.t 5), none, []⟩, ⟨(some 19), .ixs 9 (.t 17) (.t 18), none, [1, 2]⟩, ⟨(some 20), .load (some 9) (.t 19), none, [3]⟩, ⟨(some 21), .call 22 [(.t 16), (.t 20)], none, [0, 4]⟩, ⟨(some 15), .mv (.t 21), none, [5]⟩, ⟨(some 22), .ext (.t 15) 0, none, [6]⟩, ⟨(some 23), .ext (.t 15) 1, none, [6]⟩, ⟨(some 6), .new [(.int .i64 0), (.int .i64 0), (.slice none 0 0), (.slice none 0 0), (.slice none 0 0), (.slice none 0 0), (.int .i64 0), (.int .i64 0), (.int .i64 0)], none, []⟩, ⟨none, .store 9 (.t 6) (.t 22), none, [9, 7, 5, 0, 1, 2, 3, 4, 5, 6, 7, 9]⟩, ⟨(some 7), .mv (.t 23), none, [8, 10, 0, 1, 2, 3, 4, 5, 6, 7, 8, 9, 10]⟩]) (.seq (.seq (.reg false [⟨(some 24), .mv (.t 7), none, []⟩, ⟨(some 25), .un .not (.t 24), none, [0]⟩]) (.cond (.t 25) (.seq (.reg false [⟨(some 26), .mv (.t 5), none, []⟩, ⟨(some 2), .mv (.t 26), none, [0, 0]⟩, ⟨(some 3), .mv (.v (.bool false)), none, [1, 0, 1]⟩]) (.ret)) (.skip))) (.reg false [⟨(some 27), .load (some 9) (.t 6), none, []⟩, ⟨none, .store 9 (.t 4) (.t 27), none, [0, 0]⟩])))) (.reg false [⟨(some 13), .mv (.t 5), none, []⟩, ⟨(some 14), .bin .add (.t 13) (.v (.int .i64 1)), none, [0]⟩, ⟨(some 5), .mv (.t 14), none, [1, 0, 1]⟩])))))) (.seq (.reg false [⟨(some 28), .mv (.t 0), none, []⟩, ⟨(some 29), .len (.t 28), none, [0]⟩, ⟨(some 2), .mv (.t 29), none, [1, 0, 1]⟩, ⟨(some 3), .mv (.v (.bool true)), none, [2, 0, 1, 2]⟩]) (.ret))))
def pr72 : List PR := [.t 2, .t 3]
abbrev ms72_0 : List Nat := [9, 10, 11, 12, 16, 17, 18, 19, 20, 21, 15, 22, 23, 6, 7, 24, 25, 26, 2, 3, 27, 13, 14, 5]
abbrev os72_0 : List Nat := [6, 4]
theorem bd72:Try.f72.body=some (Try.f72.body.getD .skip):=by kernel_rfl
theorem cp72:compC Try.prog Try.f72.ntmps eqsL (Try.f72.body.getD .skip)=some pc72:=by kernel_rfl
theorem sp72 [WInv] {env:Env} (hE:EnvOK Try.prog env) {R:List Pa→List Pa→Prop} (hR:∀ ps rs,R ps rs→ps.length≤30∧pwp env pc72 (fun e s=>(e=.normal∨e=.ret)∧s.res pr72=some rs) (St.init ps)):Spec Try.prog 72 R :=
 fn_sound hE eqsOK mixedOK Try.func72 bd72 cp72 (by kernel_rfl) (by kernel_rfl) (by kernel_rfl) hR
def pc75 : PC := .seq (.reg false [⟨(some 4), .mv (.v (.int .i64 0)), none, []⟩]) (.seq (.reg false [⟨(some 5), .mv (.t 0), none, []⟩, ⟨(some 6), .mv (.t 1), none, []⟩, ⟨(some 7), .bin .rem (.t 5) (.t 6), none, [0, 1]⟩, ⟨(some 8), .mv (.t 1), none, []⟩, ⟨(some 9), .bin .add (.t 7) (.t 8), none, [2, 3]⟩, ⟨(some 10), .mv (.t 1), none, []⟩, ⟨(some 11), .bin .rem (.t 9) (.t 10), none, [4, 5]⟩, ⟨(some 4), .mv (.t 11), none, [6, 0, 1, 2, 3, 4, 5, 6]⟩]) (.ret))
def pr75 : List PR := [.t 4]
theorem bd75:Try.f75.body=some (Try.f75.body.getD .skip):=by kernel_rfl
theorem cp75:compC Try.prog Try.f75.ntmps eqsL (Try.f75.body.getD .skip)=some pc75:=by kernel_rfl
theorem sp75 [WInv] {env:Env} (hE:EnvOK Try.prog env) {R:List Pa→List Pa→Prop} (hR:∀ ps rs,R ps rs→ps.length≤12∧pwp env pc75 (fun e s=>(e=.normal∨e=.ret)∧s.res pr75=some rs) (St.init ps)):Spec Try.prog 75 R :=
 fn_sound hE eqsOK mixedOK Try.func75 bd75 cp75 (by kernel_rfl) (by kernel_rfl) (by kernel_rfl) hR
def pc105 : PC := .seq (.reg false [⟨(some 4), .box (.t 0), none, []⟩, ⟨(some 8), .nilRow 34 9, none, []⟩]) (.seq (.reg false [⟨(some 9), .mv (.t 1), none, []⟩, ⟨(some 10), .mv (.t 2), none, []⟩, ⟨(some 11), .mv (.t 3), none, []⟩, ⟨(some 12), .fld 1 (.t 4), none, [0]⟩, ⟨none, .store 1 (.t 12) (.t 9), none, [3, 0, 0]⟩, ⟨(some 13), .fld 2 (.t 4), none, [0, 1, 3, 4]⟩, ⟨none, .store 1 (.t 13) (.t 10), none, [5, 1, 4, 0, 1, 3, 4]⟩, ⟨(some 14), .fld 3 (.t 4), none, [0, 1, 2, 3, 4, 5, 6]⟩, ⟨none, .store 1 (.t 14) (.t 11), none, [7, 2, 6, 0, 1, 2, 3, 4, 5, 6]⟩]) (.seq (.reg false [⟨(some 15), .load (some 9) (.t 4), none, []⟩, ⟨(some 16), .bslice 34 9 [(.int .i64 0), (.int .i64 0), (.int .i64 0), (.int .i64 0), (.int .i64 0), (.int .i64 0), (.int .i64 0), (.int .i64 0), (.int .i64 0)] 1 [(0, 9, (.t 15))], none, [0]⟩, ⟨(some 8), .mv (.t 16), none, [1, 0, 1]⟩]) (.ret)))
def pr105 : List PR := [.t 8]
theorem bd105:Try.f105.body=some (Try.f105.body.getD .skip):=by kernel_rfl
theorem cp105:compC Try.prog Try.f105.ntmps eqsL (Try.f105.body.getD .skip)=some pc105:=by kernel_rfl
theorem sp105 [WInv] {env:Env} (hE:EnvOK Try.prog env) {R:List Pa→List Pa→Prop} (hR:∀ ps rs,R ps rs→ps.length≤17∧pwp env pc105 (fun e s=>(e=.normal∨e=.ret)∧s.res pr105=some rs) (St.init ps)):Spec Try.prog 105 R :=
 fn_sound hE eqsOK mixedOK Try.func105 bd105 cp105 (by kernel_rfl) (by kernel_rfl) (by kernel_rfl) hR
def pc106 : PC := .seq (.reg false [⟨(some 3), .box (.t 0), none, []⟩, ⟨(some 6), .new [(.int .i64 0), (.int .i64 0), (.int .i64 0), (.int .i64 0), (.int .i64 0), (.int .i64 0), (.int .i64 0), (.int .i64 0), (.int .i64 0)], none, []⟩]) (.seq (.reg false [⟨(some 7), .mv (.t 1), none, []⟩, ⟨(some 8), .mv (.t 2), none, []⟩, ⟨(some 9), .fld 1 (.t 3), none, [0]⟩, ⟨none, .store 1 (.t 9) (.t 7), none, [2, 0, 0]⟩, ⟨(some 10), .fld 4 (.t 3), none, [0, 1, 2, 3]⟩, ⟨none, .store 1 (.t 10) (.t 8), none, [4, 1, 3, 0, 1, 2, 3]⟩]) (.seq (.reg false [⟨(some 11), .load (some 9) (.t 3), none, []⟩, ⟨none, .store 9 (.t 6) (.t 11), none, [0, 0]⟩]) (.ret)))
def pr106 : List PR := [.c 6 (some 9)]
theorem bd106:Try.f106.body=some (Try.f106.body.getD .skip):=by kernel_rfl
theorem cp106:compC Try.prog Try.f106.ntmps eqsL (Try.f106.body.getD .skip)=some pc106:=by kernel_rfl
theorem sp106 [WInv] {env:Env} (hE:EnvOK Try.prog env) {R:List Pa→List Pa→Prop} (hR:∀ ps rs,R ps rs→ps.length≤12∧pwp env pc106 (fun e s=>(e=.normal∨e=.ret)∧s.res pr106=some rs) (St.init ps)):Spec Try.prog 106 R :=
 fn_sound hE eqsOK mixedOK Try.func106 bd106 cp106 (by kernel_rfl) (by kernel_rfl) (by kernel_rfl) hR
def pc64c0 : PC := .seq (.reg false [⟨(some 108), .fld 4 (.t 1), none, []⟩, ⟨(some 109), .load none (.t 108), none, [0]⟩, ⟨(some 110), .bin .eql (.t 109) (.v (.int .i64 0)), none, [1]⟩, ⟨(some 111), .mv (.t 110), none, [2]⟩, ⟨(some 112), .fld 5 (.t 1), (some (111, true)), [3]⟩, ⟨(some 113), .load none (.t 112), (some (111, true)), [4, 3]⟩, ⟨(some 114), .bin .eql (.t 113) (.v (.int .i64 0)), (some (111, true)), [5, 3]⟩, ⟨(some 115), .pick (.t 111) (.t 114) (.v (.bool false)), none, [3, 6]⟩, ⟨(some 2), .mv (.t 115), none, [7, 3, 0, 1, 2, 3, 4, 5, 6, 7]⟩]) (.ret)
def pc64c1 : PC := .seq (.reg false [⟨(some 56), .fld 2 (.t 1), none, []⟩, ⟨(some 57), .load none (.t 56), none, [0]⟩, ⟨(some 58), .bin .eql (.t 57) (.v (.int .i64 0)), none, [1]⟩, ⟨(some 59), .mv (.t 58), none, [2]⟩, ⟨(some 60), .fld 3 (.t 1), (some (59, true)), [3]⟩, ⟨(some 61), .load none (.t 60), (some (59, true)), [4, 3]⟩, ⟨(some 62), .bin .eql (.t 61) (.v (.int .i64 0)), (some (59, true)), [5, 3]⟩, ⟨(some 63), .pick (.t 59) (.t 62) (.v (.bool false)), none, [3, 6]⟩, ⟨(some 64), .mv (.t 63), none, [7, 3]⟩, ⟨(some 65), .fld 5 (.t 1), (some (64, true)), [8]⟩, ⟨(some 66), .load none (.t 65), (some (64, true)), [9, 8]⟩, ⟨(some 67), .bin .eql (.t 66) (.v (.int .i64 0)), (some (64, true)), [10, 8]⟩, ⟨(some 68), .pick (.t 64) (.t 67) (.v (.bool false)), none, [8, 11]⟩, ⟨(some 69), .mv (.t 68), none, [12, 8]⟩, ⟨(some 70), .fld 4 (.t 1), (some (69, true)), [13]⟩, ⟨(some 71), .load none (.t 70), (some (69, true)), [14, 13]⟩, ⟨(some 72), .bin .gtr (.t 71) (.v (.int .i64 0)), (some (69, true)), [15, 13]⟩, ⟨(some 73), .pick (.t 69) (.t 72) (.v (.bool false)), none, [13, 16]⟩, ⟨(some 74), .mv (.t 73), none, [17, 13]⟩, ⟨(some 75), .fld 4 (.t 1), (some (74, true)), [18]⟩, ⟨(some 76), .load none (.t 75), (some (74, true)), [19, 18]⟩, ⟨(some 77), .bin .lss (.t 76) (.v (.int .i64 8)), (some (74, true)), [20, 18]⟩, ⟨(some 78), .pick (.t 74) (.t 77) (.v (.bool false)), none, [18, 21]⟩, ⟨(some 2), .mv (.t 78), none, [22, 18, 0, 1, 2, 3, 4, 5, 6, 7, 8, 9, 10, 11, 12, 13, 14, 15, 16, 17, 18, 19, 20, 21, 22]⟩]) (.ret)
def pc64c2 : PC := .seq (.reg false [⟨(some 84), .fld 3 (.t 1), none, []⟩, ⟨(some 85), .load none (.t 84), none, [0]⟩, ⟨(some 86), .bin .eql (.t 85) (.v (.int .i64 0)), none, [1]⟩, ⟨(some 87), .mv (.t 86), none, [2]⟩, ⟨(some 88), .fld 5 (.t 1), (some (87, true)), [3]⟩, ⟨(some 89), .load none (.t 88), (some (87, true)), [4, 3]⟩, ⟨(some 90), .bin .leq (.t 89) (.v (.int .i64 64)), (some (87, true)), [5, 3]⟩, ⟨(some 91), .pick (.t 87) (.t 90) (.v (.bool false)), none, [3, 6]⟩, ⟨(some 2), .mv (.t 91), none, [7, 3, 0, 1, 2, 3, 4, 5, 6, 7]⟩]) (.ret)
def pc64c3 : PC := .seq (.reg false [⟨(some 95), .fld 3 (.t 1), none, []⟩, ⟨(some 96), .load none (.t 95), none, [0]⟩, ⟨(some 97), .bin .eql (.t 96) (.v (.int .i64 0)), none, [1]⟩, ⟨(some 98), .mv (.t 97), none, [2]⟩, ⟨(some 99), .fld 4 (.t 1), (some (98, true)), [3]⟩, ⟨(some 100), .load none (.t 99), (some (98, true)), [4, 3]⟩, ⟨(some 101), .bin .eql (.t 100) (.v (.int .i64 0)), (some (98, true)), [5, 3]⟩, ⟨(some 102), .pick (.t 98) (.t 101) (.v (.bool false)), none, [3, 6]⟩, ⟨(some 103), .mv (.t 102), none, [7, 3]⟩, ⟨(some 104), .fld 5 (.t 1), (some (103, true)), [8]⟩, ⟨(some 105), .load none (.t 104), (some (103, true)), [9, 8]⟩, ⟨(some 106), .bin .leq (.t 105) (.v (.int .i64 64)), (some (103, true)), [10, 8]⟩, ⟨(some 107), .pick (.t 103) (.t 106) (.v (.bool false)), none, [8, 11]⟩, ⟨(some 2), .mv (.t 107), none, [12, 8, 0, 1, 2, 3, 4, 5, 6, 7, 8, 9, 10, 11, 12]⟩]) (.ret)
def pc64c4 : PC := .seq (.seq (.reg false [⟨(some 93), .bin .eql (.t 53) (.v (.int .i64 19)), none, []⟩, ⟨(some 92), .mv (.t 93), none, [0]⟩]) (.cond (.t 92) (.skip) (.reg false [⟨(some 94), .bin .eql (.t 53) (.v (.int .i64 20)), none, []⟩, ⟨(some 92), .mv (.t 94), none, [0]⟩]))) (.cond (.t 92) (pc64c3) (.skip))
def pc64c5 : PC := .seq (.seq (.reg false [⟨(some 80), .bin .eql (.t 53) (.v (.int .i64 15)), none, []⟩, ⟨(some 79), .mv (.t 80), none, [0]⟩]) (.cond (.t 79) (.skip) (.seq (.reg false [⟨(some 81), .bin .eql (.t 53) (.v (.int .i64 16)), none, []⟩, ⟨(some 79), .mv (.t 81), none, [0]⟩]) (.cond (.t 79) (.skip) (.seq (.reg false [⟨(some 82), .bin .eql (.t 53) (.v (.int .i64 17)), none, []⟩, ⟨(some 79), .mv (.t 82), none, [0]⟩]) (.cond (.t 79) (.skip) (.reg false [⟨(some 83), .bin .eql (.t 53) (.v (.int .i64 18)), none, []⟩, ⟨(some 79), .mv (.t 83), none, [0]⟩]))))))) (.cond (.t 79) (pc64c2) (pc64c4))
def pc64c6 : PC := .seq (.reg false [⟨(some 52), .fld 1 (.t 1), none, []⟩, ⟨(some 53), .load none (.t 52), none, [0]⟩]) (.block 2 (.seq (.reg false [⟨(some 55), .bin .eql (.t 53) (.v (.int .i64 14)), none, []⟩, ⟨(some 54), .mv (.t 55), none, [0]⟩]) (.cond (.t 54) (pc64c1) (pc64c5))))
def pc64c7 : PC := .seq (pc64c6) (pc64c0)
def pc64c8 : PC := .seq (.seq (.reg false [⟨(some 4), .mv (.v (.int .i64 0)), none, []⟩]) (.block 0 (.loop (.seq (.seq (.reg false [⟨(some 34), .mv (.t 4), none, []⟩, ⟨(some 35), .mv (.t 3), none, []⟩, ⟨(some 36), .len (.t 35), none, [1]⟩, ⟨(some 37), .bin .lss (.t 34) (.t 36), none, [0, 2]⟩]) (.cond (.t 37) (.skip) (.exit 0))) (.seq (.block 1 (.seq (.reg false [⟨(some 40), .mv (.t 3), none, []⟩, ⟨(some 41), .mv (.t 4), none, []⟩, ⟨(some 42), .ixs 1 (.t 40) (.t 41), none, [0, 1]⟩, ⟨(some 43), .load none (.t 42), none, [2]⟩, ⟨(some 44), .bin .lss (.t 43) (.v (.int .i64 0)), none, [3]⟩, ⟨(some 45), .mv (.t 44), none, [4]⟩, ⟨(some 46), .mv (.t 3), (some (45, false)), [5]⟩, ⟨(some 47), .mv (.t 4), (some (45, false)), [5]⟩, ⟨(some 48), .ixs 1 (.t 46) (.t 47), (some (45, false)), [6, 7, 5]⟩, ⟨(some 49), .load none (.t 48), (some (45, false)), [8, 5]⟩, ⟨(some 50), .bin .gtr (.t 49) (.v (.int .i64 2147483647)), (some (45, false)), [9, 5]⟩, ⟨(some 51), .pick (.t 45) (.v (.bool true)) (.t 50), none, [5, 10]⟩]) (.cond (.t 51) (.seq (.reg false [⟨(some 2), .mv (.v (.bool false)), none, []⟩]) (.ret)) (.skip)))) (.reg false [⟨(some 38), .mv (.t 4), none, []⟩, ⟨(some 39), .bin .add (.t 38) (.v (.int .i64 1)), none, [0]⟩, ⟨(some 4), .mv (.t 39), none, [1, 0, 1]⟩])))))) (pc64c7)
def pc64c9 : PC := .seq (.reg false [⟨(some 19), .fld 2 (.t 1), none, []⟩, ⟨(some 20), .load none (.t 19), none, [0]⟩, ⟨(some 21), .fld 3 (.t 1), none, []⟩, ⟨(some 22), .load none (.t 21), none, [2]⟩, ⟨(some 23), .fld 4 (.t 1), none, []⟩, ⟨(some 24), .load none (.t 23), none, [4]⟩, ⟨(some 25), .fld 5 (.t 1), none, []⟩, ⟨(some 26), .load none (.t 25), none, [6]⟩, ⟨(some 27), .fld 6 (.t 1), none, []⟩, ⟨(some 28), .load none (.t 27), none, [8]⟩, ⟨(some 29), .fld 7 (.t 1), none, []⟩, ⟨(some 30), .load none (.t 29), none, [10]⟩, ⟨(some 31), .fld 8 (.t 1), none, []⟩, ⟨(some 32), .load none (.t 31), none, [12]⟩, ⟨(some 33), .bslice 3 1 [(.int .i64 0), (.int .i64 0), (.int .i64 0), (.int .i64 0), (.int .i64 0), (.int .i64 0), (.int .i64 0)] 7 [(0, 1, (.t 20)), (1, 1, (.t 22)), (2, 1, (.t 24)), (3, 1, (.t 26)), (4, 1, (.t 28)), (5, 1, (.t 30)), (6, 1, (.t 32))], none, [1, 3, 5, 7, 9, 11, 13]⟩, ⟨(some 3), .mv (.t 33), none, [14, 0, 1, 2, 3, 4, 5, 6, 7, 8, 9, 10, 11, 12, 13, 14]⟩]) (pc64c8)
def pc64 : PC := .seq (.reg false [⟨(some 1), .box (.t 0), none, []⟩, ⟨(some 2), .mv (.v (.bool false)), none, []⟩]) (.seq (.seq (.reg false [⟨(some 5), .fld 0 (.t 1), none, []⟩, ⟨(some 6), .load none (.t 5), none, [0]⟩, ⟨(some 7), .bin .lss (.t 6) (.v (.int .i64 0)), none, [1]⟩, ⟨(some 8), .mv (.t 7), none, [2]⟩, ⟨(some 9), .fld 0 (.t 1), (some (8, false)), [3]⟩, ⟨(some 10), .load none (.t 9), (some (8, false)), [4, 3]⟩, ⟨(some 11), .bin .geq (.t 10) (.v (.int .i64 8)), (some (8, false)), [5, 3]⟩, ⟨(some 12), .pick (.t 8) (.v (.bool true)) (.t 11), none, [3, 6]⟩, ⟨(some 13), .mv (.t 12), none, [7, 3]⟩, ⟨(some 14), .fld 1 (.t 1), (some (13, false)), [8]⟩, ⟨(some 15), .load none (.t 14), (some (13, false)), [9, 8]⟩, ⟨(some 16), .call 95 [(.t 15)], (some (13, false)), [10, 8, 8]⟩, ⟨(some 17), .bin .eql (.t 16) (.v (.string ⟨#[]⟩)), (some (13, false)), [11, 8]⟩, ⟨(some 18), .pick (.t 13) (.v (.bool true)) (.t 17), none, [8, 12]⟩]) (.cond (.t 18) (.seq (.reg false [⟨(some 2), .mv (.v (.bool false)), none, []⟩]) (.ret)) (.skip))) (pc64c9))
def pr64 : List PR := [.t 2]
abbrev ms64_0 : List Nat := [34, 35, 36, 37, 40, 41, 42, 43, 44, 45, 46, 47, 48, 49, 50, 51, 2, 38, 39, 4]
abbrev os64_0 : List Nat := []
theorem bd64:Try.f64.body=some (Try.f64.body.getD .skip):=by kernel_rfl
theorem cp64:compC Try.prog Try.f64.ntmps eqsL (Try.f64.body.getD .skip)=some pc64:=by kernel_rfl
theorem sp64 [WInv] {env:Env} (hE:EnvOK Try.prog env) {R:List Pa→List Pa→Prop} (hR:∀ ps rs,R ps rs→ps.length≤116∧pwp env pc64 (fun e s=>(e=.normal∨e=.ret)∧s.res pr64=some rs) (St.init ps)):Spec Try.prog 64 R :=
 fn_sound hE eqsOK mixedOK Try.func64 bd64 cp64 (by kernel_rfl) (by kernel_rfl) (by kernel_rfl) hR
def pc66 : PC := .seq (.reg false [⟨(some 2), .mv (.v (.bool false)), none, []⟩]) (.seq (.reg false [⟨(some 3), .mv (.t 0), none, []⟩, ⟨(some 4), .bin .geq (.t 3) (.v (.int .i64 15)), none, [0]⟩, ⟨(some 5), .mv (.t 4), none, [1]⟩, ⟨(some 6), .mv (.t 0), (some (5, true)), [2]⟩, ⟨(some 7), .bin .leq (.t 6) (.v (.int .i64 20)), (some (5, true)), [3, 2]⟩, ⟨(some 8), .pick (.t 5) (.t 7) (.v (.bool false)), none, [2, 4]⟩, ⟨(some 2), .mv (.t 8), none, [5, 2, 0, 1, 2, 3, 4, 5]⟩]) (.ret))
def pr66 : List PR := [.t 2]
theorem bd66:Try.f66.body=some (Try.f66.body.getD .skip):=by kernel_rfl
theorem cp66:compC Try.prog Try.f66.ntmps eqsL (Try.f66.body.getD .skip)=some pc66:=by kernel_rfl
theorem sp66 [WInv] {env:Env} (hE:EnvOK Try.prog env) {R:List Pa→List Pa→Prop} (hR:∀ ps rs,R ps rs→ps.length≤9∧pwp env pc66 (fun e s=>(e=.normal∨e=.ret)∧s.res pr66=some rs) (St.init ps)):Spec Try.prog 66 R :=
 fn_sound hE eqsOK mixedOK Try.func66 bd66 cp66 (by kernel_rfl) (by kernel_rfl) (by kernel_rfl) hR
def pc95 : PC := .seq (.reg false [⟨(some 2), .mv (.v (.string ⟨#[]⟩)), none, []⟩]) (.seq (.reg false [⟨(some 4), .bslice 9 1 [(.string ⟨#[]⟩), (.string ⟨#[]⟩), (.string ⟨#[]⟩), (.string ⟨#[]⟩), (.string ⟨#[]⟩), (.string ⟨#[]⟩), (.string ⟨#[]⟩), (.string ⟨#[]⟩), (.string ⟨#[]⟩), (.string ⟨#[]⟩), (.string ⟨#[]⟩), (.string ⟨#[]⟩), (.string ⟨#[]⟩), (.string ⟨#[]⟩), (.string ⟨#[]⟩), (.string ⟨#[]⟩), (.string ⟨#[]⟩), (.string ⟨#[]⟩), (.string ⟨#[]⟩), (.string ⟨#[]⟩), (.string ⟨#[]⟩)] 21 [(0, 1, (.v (.string ⟨#[]⟩))), (1, 1, (.v (.string ⟨#[114, 101, 97, 100]⟩))), (2, 1, (.v (.string ⟨#[119, 114, 105, 116, 101]⟩))), (3, 1, (.v (.string ⟨#[97, 116, 111, 109, 105, 99, 45, 114, 101, 97, 100]⟩))), (4, 1, (.v (.string ⟨#[97, 116, 111, 109, 105, 99, 45, 119, 114, 105, 116, 101]⟩))), (5, 1, (.v (.string ⟨#[97, 116, 111, 109, 105, 99, 45, 98, 111, 116, 104]⟩))), (6, 1, (.v (.string ⟨#[108, 111, 99, 107]⟩))), (7, 1, (.v (.string ⟨#[117, 110, 108, 111, 99, 107]⟩))), (8, 1, (.v (.string ⟨#[114, 108, 111, 99, 107]⟩))), (9, 1, (.v (.string ⟨#[114, 117, 110, 108, 111, 99, 107]⟩))), (10, 1, (.v (.string ⟨#[100, 111, 110, 101]⟩))), (11, 1, (.v (.string ⟨#[119, 97, 105, 116]⟩))), (12, 1, (.v (.string ⟨#[111, 110, 99, 101, 45, 101, 110, 100]⟩))), (13, 1, (.v (.string ⟨#[111, 110, 99, 101, 45, 115, 101, 101, 110]⟩))), (14, 1, (.v (.string ⟨#[103, 111]⟩))), (15, 1, (.v (.string ⟨#[115, 101, 110, 100, 45, 115, 116, 97, 114, 116]⟩))), (16, 1, (.v (.string ⟨#[115, 101, 110, 100, 45, 101, 110, 100]⟩))), (17, 1, (.v (.string ⟨#[114, 101, 99, 118, 45, 115, 116, 97, 114, 116]⟩))), (18, 1, (.v (.string ⟨#[114, 101, 99, 118, 45, 101, 110, 100]⟩))), (19, 1, (.v (.string ⟨#[99, 108, 111, 115, 101]⟩))), (20, 1, (.v (.string ⟨#[114, 101, 99, 118, 45, 99, 108, 111, 115, 101, 100]⟩)))], none, []⟩, ⟨(some 3), .mv (.t 4), none, [0, 0]⟩]) (.seq (.seq (.reg false [⟨(some 5), .mv (.t 0), none, []⟩, ⟨(some 6), .bin .lss (.t 5) (.v (.int .i64 1)), none, [0]⟩, ⟨(some 7), .mv (.t 6), none, [1]⟩, ⟨(some 8), .mv (.t 0), (some (7, false)), [2]⟩, ⟨(some 9), .bin .gtr (.t 8) (.v (.int .i64 20)), (some (7, false)), [3, 2]⟩, ⟨(some 10), .pick (.t 7) (.v (.bool true)) (.t 9), none, [2, 4]⟩]) (.cond (.t 10) (.seq (.reg false [⟨(some 2), .mv (.v (.string ⟨#[]⟩)), none, []⟩]) (.ret)) (.skip))) (.seq (.reg false [⟨(some 11), .mv (.t 3), none, []⟩, ⟨(some 12), .mv (.t 0), none, []⟩, ⟨(some 13), .ixs 1 (.t 11) (.t 12), none, [0, 1]⟩, ⟨(some 14), .load none (.t 13), none, [2]⟩, ⟨(some 2), .mv (.t 14), none, [3, 0, 1, 2, 3]⟩]) (.ret))))
def pr95 : List PR := [.t 2]
theorem bd95:Try.f95.body=some (Try.f95.body.getD .skip):=by kernel_rfl
theorem cp95:compC Try.prog Try.f95.ntmps eqsL (Try.f95.body.getD .skip)=some pc95:=by kernel_rfl
theorem sp95 [WInv] {env:Env} (hE:EnvOK Try.prog env) {R:List Pa→List Pa→Prop} (hR:∀ ps rs,R ps rs→ps.length≤15∧pwp env pc95 (fun e s=>(e=.normal∨e=.ret)∧s.res pr95=some rs) (St.init ps)):Spec Try.prog 95 R :=
 fn_sound hE eqsOK mixedOK Try.func95 bd95 cp95 (by kernel_rfl) (by kernel_rfl) (by kernel_rfl) hR
def pc77 : PC := .seq (.reg false [⟨(some 2), .box (.t 0), none, []⟩, ⟨(some 4), .new [(.int .i64 0), (.int .i64 0), (.int .i64 0), (.int .i64 0), (.int .i64 0), (.int .i64 0), (.int .i64 0), (.int .i64 0)], none, []⟩]) (.seq (.seq (.reg false [⟨(some 5), .mv (.t 1), none, []⟩, ⟨(some 6), .bin .geq (.t 5) (.v (.int .i64 0)), none, [0]⟩, ⟨(some 7), .mv (.t 6), none, [1]⟩, ⟨(some 8), .mv (.t 1), (some (7, true)), [2]⟩, ⟨(some 9), .bin .lss (.t 8) (.v (.int .i64 8)), (some (7, true)), [3, 2]⟩, ⟨(some 10), .pick (.t 7) (.t 9) (.v (.bool false)), none, [2, 4]⟩, ⟨(some 11), .mv (.t 10), none, [5, 2]⟩, ⟨(some 12), .mv (.t 1), (some (11, true)), [6]⟩, ⟨(some 13), .ixa 8 1 (.t 2) (.t 12), (some (11, true)), [7, 6]⟩, ⟨(some 14), .load none (.t 13), (some (11, true)), [8, 6]⟩, ⟨(some 15), .bin .lss (.t 14) (.v (.int .i64 9223372036854775807)), (some (11, true)), [9, 6]⟩, ⟨(some 16), .pick (.t 11) (.t 15) (.v (.bool false)), none, [6, 10]⟩]) (.cond (.t 16) (.reg false [⟨(some 17), .mv (.t 1), none, []⟩, ⟨(some 18), .ixa 8 1 (.t 2) (.t 17), none, [0]⟩, ⟨(some 19), .load none (.t 18), none, [1]⟩, ⟨(some 20), .bin .add (.t 19) (.v (.int .i64 1)), none, [2]⟩, ⟨(some 21), .ixa 8 1 (.t 2) (.t 17), none, [0, 0, 1, 2, 3]⟩, ⟨none, .store 1 (.t 21) (.t 20), none, [4, 3, 0, 1, 2, 3]⟩]) (.skip))) (.seq (.reg false [⟨(some 22), .load (some 8) (.t 2), none, []⟩, ⟨none, .store 8 (.t 4) (.t 22), none, [0, 0]⟩]) (.ret)))
def pr77 : List PR := [.c 4 (some 8)]
theorem bd77:Try.f77.body=some (Try.f77.body.getD .skip):=by kernel_rfl
theorem cp77:compC Try.prog Try.f77.ntmps eqsL (Try.f77.body.getD .skip)=some pc77:=by kernel_rfl
theorem sp77 [WInv] {env:Env} (hE:EnvOK Try.prog env) {R:List Pa→List Pa→Prop} (hR:∀ ps rs,R ps rs→ps.length≤23∧pwp env pc77 (fun e s=>(e=.normal∨e=.ret)∧s.res pr77=some rs) (St.init ps)):Spec Try.prog 77 R :=
 fn_sound hE eqsOK mixedOK Try.func77 bd77 cp77 (by kernel_rfl) (by kernel_rfl) (by kernel_rfl) hR
def pc79 : PC := .seq (.reg false [⟨(some 2), .box (.t 0), none, []⟩, ⟨(some 3), .box (.t 1), none, []⟩, ⟨(some 4), .new [(.int .i64 0), (.int .i64 0), (.int .i64 0), (.int .i64 0), (.int .i64 0), (.int .i64 0), (.int .i64 0), (.int .i64 0)], none, []⟩]) (.seq (.seq (.reg false [⟨(some 6), .mv (.v (.int .i64 0)), none, []⟩]) (.block 0 (.loop (.seq (.reg false [⟨(some 7), .bin .lss (.t 6) (.v (.int .i64 8)), none, []⟩]) (.seq (.cond (.t 7) (.skip) (.exit 0)) (.seq (.block 1 (.seq (.reg false [⟨(some 8), .mv (.t 6), none, []⟩, ⟨(some 5), .mv (.t 8), none, [0, 0]⟩]) (.reg true [⟨(some 9), .mv (.t 5), none, []⟩, ⟨(some 10), .mv (.t 5), none, []⟩, ⟨(some 11), .ixa 8 1 (.t 2) (.t 10), none, [1]⟩, ⟨(some 12), .load none (.t 11), none, [2]⟩, ⟨(some 13), .mv (.t 5), none, []⟩, ⟨(some 14), .ixa 8 1 (.t 3) (.t 13), none, [4]⟩, ⟨(some 15), .load none (.t 14), none, [5]⟩, ⟨(some 16), .mm true [(.t 12), (.t 15)], none, [3, 6]⟩, ⟨(some 17), .ixa 8 1 (.t 2) (.t 9), none, [0, 0, 1, 2, 3, 4, 5, 6, 7]⟩, ⟨none, .store 1 (.t 17) (.t 16), none, [8, 7, 0, 1, 2, 3, 4, 5, 6, 7]⟩]))) (.reg false [⟨(some 18), .bin .add (.t 6) (.v (.int .i64 1)), none, []⟩, ⟨(some 6), .mv (.t 18), none, [0]⟩]))))))) (.seq (.reg false [⟨(some 19), .load (some 8) (.t 2), none, []⟩, ⟨none, .store 8 (.t 4) (.t 19), none, [0, 0]⟩]) (.ret)))
def pr79 : List PR := [.c 4 (some 8)]
abbrev ms79_0 : List Nat := [7, 8, 5, 9, 10, 11, 12, 13, 14, 15, 16, 17, 18, 6]
abbrev os79_0 : List Nat := [2]
theorem bd79:Try.f79.body=some (Try.f79.body.getD .skip):=by kernel_rfl
theorem cp79:compC Try.prog Try.f79.ntmps eqsL (Try.f79.body.getD .skip)=some pc79:=by kernel_rfl
theorem sp79 [WInv] {env:Env} (hE:EnvOK Try.prog env) {R:List Pa→List Pa→Prop} (hR:∀ ps rs,R ps rs→ps.length≤20∧pwp env pc79 (fun e s=>(e=.normal∨e=.ret)∧s.res pr79=some rs) (St.init ps)):Spec Try.prog 79 R :=
 fn_sound hE eqsOK mixedOK Try.func79 bd79 cp79 (by kernel_rfl) (by kernel_rfl) (by kernel_rfl) hR
def pc29 : PC := .seq (.reg false [⟨(some 2), .nilRow 53 8, none, []⟩, ⟨(some 3), .mv (.v (.int .i64 0)), none, [0]⟩]) (.seq (.seq (.reg false [⟨(some 9), .mv (.t 0), none, []⟩, ⟨(some 10), .call 27 [(.t 9)], none, [0]⟩, ⟨(some 11), .un .not (.t 10), none, [1]⟩]) (.cond (.t 11) (.seq (.reg false [⟨(some 2), .nilRow 53 8, none, []⟩, ⟨(some 3), .mv (.v (.int .i64 1)), none, [0, 0]⟩]) (.ret)) (.skip))) (.seq (.reg false [⟨(some 12), .mv (.t 0), none, []⟩, ⟨(some 13), .call 73 [(.t 12)], none, [0]⟩, ⟨(some 4), .mv (.t 13), none, [1, 1, 0, 1]⟩]) (.seq (.reg false [⟨(some 5), .nilRow 53 8, none, []⟩]) (.seq (.seq (.reg false [⟨(some 6), .mv (.v (.int .i64 0)), none, []⟩]) (.block 0 (.loop (.seq (.seq (.reg false [⟨(some 14), .mv (.t 6), none, []⟩, ⟨(some 15), .mv (.t 0), none, []⟩, ⟨(some 16), .len (.t 15), none, [1]⟩, ⟨(some 17), .bin .lss (.t 14) (.t 16), none, [0, 2]⟩]) (.cond (.t 17) (.skip) (.exit 0))) (.seq (.block 1 (.seq (.reg false [⟨(some 7), .new [(.int .i64 0), (.int .i64 0), (.int .i64 0), (.int .i64 0), (.int .i64 0), (.int .i64 0), (.int .i64 0), (.int .i64 0)], none, []⟩]) (.seq (.seq (.reg false [⟨(some 8), .mv (.v (.int .i64 0)), none, []⟩]) (.block 2 (.loop (.seq (.seq (.reg false [⟨(some 20), .mv (.t 8), none, []⟩, ⟨(some 21), .mv (.t 6), none, []⟩, ⟨(some 22), .bin .leq (.t 20) (.t 21), none, [0, 1]⟩]) (.cond (.t 22) (.skip) (.exit 2))) (.seq (.block 3 (.seq (.reg false [⟨(some 25), .mv (.t 8), none, []⟩, ⟨(some 26), .mv (.t 6), none, []⟩, ⟨(some 27), .bin .eql (.t 25) (.t 26), none, [0, 1]⟩, ⟨(some 28), .mv (.t 27), none, [2]⟩, ⟨(some 29), .mv (.t 4), (some (28, false)), [3]⟩, ⟨(some 30), .mv (.t 8), (some (28, false)), [3]⟩, ⟨(some 31), .ixs 1 (.t 29) (.t 30), (some (28, false)), [4, 5, 3]⟩, ⟨(some 32), .load none (.t 31), (some (28, false)), [6, 3]⟩, ⟨(some 33), .mv (.t 6), (some (28, false)), [3]⟩, ⟨(some 34), .ixs 1 (.t 32) (.t 33), (some (28, false)), [7, 8, 3]⟩, ⟨(some 35), .load none (.t 34), (some (28, false)), [9, 3]⟩, ⟨(some 36), .pick (.t 28) (.v (.bool true)) (.t 35), none, [3, 10]⟩]) (.cond (.t 36) (.reg false [⟨(some 37), .mv (.t 0), none, []⟩, ⟨(some 38), .mv (.t 8), none, []⟩, ⟨(some 39), .ixs 9 (.t 37) (.t 38), none, [0, 1]⟩, ⟨(some 40), .fld 0 (.t 39), none, [2]⟩, ⟨(some 41), .load none (.t 40), none, [3]⟩, ⟨(some 42), .ixa 8 1 (.t 7) (.t 41), none, [4]⟩, ⟨(some 43), .load none (.t 42), none, [5]⟩, ⟨(some 44), .bin .add (.t 43) (.v (.int .i64 1)), none, [6]⟩, ⟨(some 45), .ixa 8 1 (.t 7) (.t 41), none, [4, 0, 1, 2, 3, 4, 5, 6, 7]⟩, ⟨none, .store 1 (.t 45) (.t 44), none, [8, 7, 0, 1, 2, 3, 4, 5, 6, 7]⟩]) (.skip)))) (.reg false [⟨(some 23), .mv (.t 8), none, []⟩, ⟨(some 24), .bin .add (.t 23) (.v (.int .i64 1)), none, [0]⟩, ⟨(some 8), .mv (.t 24), none, [1, 0, 1]⟩])))))) (.reg false [⟨(some 46), .mv (.t 5), none, []⟩, ⟨(some 47), .load (some 8) (.t 7), none, []⟩, ⟨(some 48), .bslice 53 8 [(.int .i64 0), (.int .i64 0), (.int .i64 0), (.int .i64 0), (.int .i64 0), (.int .i64 0), (.int .i64 0), (.int .i64 0)] 1 [(0, 8, (.t 47))], none, [1]⟩, ⟨(some 49), .append 53 8 64 (.t 46) (.t 48), none, [0, 2]⟩, ⟨(some 5), .mv (.t 49), none, [3, 3, 0, 1, 2, 3]⟩])))) (.reg false [⟨(some 18), .mv (.t 6), none, []⟩, ⟨(some 19), .bin .add (.t 18) (.v (.int .i64 1)), none, [0]⟩, ⟨(some 6), .mv (.t 19), none, [1, 0, 1]⟩])))))) (.seq (.reg false [⟨(some 50), .mv (.t 5), none, []⟩, ⟨(some 2), .mv (.t 50), none, [0, 0]⟩, ⟨(some 3), .mv (.v (.int .i64 0)), none, [1, 0, 1]⟩]) (.ret))))))
def pr29 : List PR := [.t 2, .t 3]
abbrev ms29_0 : List Nat := [14, 15, 16, 17, 7, 8, 20, 21, 22, 25, 26, 27, 28, 29, 30, 31, 32, 33, 34, 35, 36, 37, 38, 39, 40, 41, 42, 43, 44, 45, 23, 24, 46, 47, 48, 49, 5, 18, 19, 6]
abbrev os29_0 : List Nat := [7, 48, 5]
abbrev ms29_1 : List Nat := [20, 21, 22, 25, 26, 27, 28, 29, 30, 31, 32, 33, 34, 35, 36, 37, 38, 39, 40, 41, 42, 43, 44, 45, 23, 24, 8]
abbrev os29_1 : List Nat := [7]
theorem bd29:Try.f29.body=some (Try.f29.body.getD .skip):=by kernel_rfl
theorem cp29:compC Try.prog Try.f29.ntmps eqsL (Try.f29.body.getD .skip)=some pc29:=by kernel_rfl
theorem sp29 [WInv] {env:Env} (hE:EnvOK Try.prog env) {R:List Pa→List Pa→Prop} (hR:∀ ps rs,R ps rs→ps.length≤51∧pwp env pc29 (fun e s=>(e=.normal∨e=.ret)∧s.res pr29=some rs) (St.init ps)):Spec Try.prog 29 R :=
 fn_sound hE eqsOK mixedOK Try.func29 bd29 cp29 (by kernel_rfl) (by kernel_rfl) (by kernel_rfl) hR
def pc30 : PC := .seq (.reg false [⟨(some 4), .mv (.v (.bool false)), none, []⟩]) (.seq (.seq (.reg false [⟨(some 6), .mv (.t 0), none, []⟩, ⟨(some 7), .len (.t 6), none, [0]⟩, ⟨(some 8), .mv (.t 1), none, []⟩, ⟨(some 9), .len (.t 8), none, [2]⟩, ⟨(some 10), .bin .neq (.t 7) (.t 9), none, [1, 3]⟩]) (.cond (.t 10) (.seq (.reg false [⟨(some 4), .mv (.v (.bool false)), none, []⟩]) (.ret)) (.skip))) (.seq (.seq (.reg false [⟨(some 5), .mv (.v (.int .i64 0)), none, []⟩]) (.block 0 (.loop (.seq (.seq (.reg false [⟨(some 11), .mv (.t 5), none, []⟩, ⟨(some 12), .mv (.t 0), none, []⟩, ⟨(some 13), .len (.t 12), none, [1]⟩, ⟨(some 14), .bin .lss (.t 11) (.t 13), none, [0, 2]⟩]) (.cond (.t 14) (.skip) (.exit 0))) (.seq (.block 1 (.seq (.reg true [⟨(some 17), .mv (.t 0), none, []⟩, ⟨(some 18), .mv (.t 5), none, []⟩, ⟨(some 19), .ixs 8 (.t 17) (.t 18), none, [0, 1]⟩, ⟨(some 20), .load (some 8) (.t 19), none, [2]⟩, ⟨(some 21), .mv (.t 1), none, []⟩, ⟨(some 22), .mv (.t 5), none, []⟩, ⟨(some 23), .ixs 8 (.t 21) (.t 22), none, [4, 5]⟩, ⟨(some 24), .load (some 8) (.t 23), none, [6]⟩, ⟨(some 25), .eqs true [false, false, false, false, false, false, false, false] (.t 20) (.t 24), none, [3, 7]⟩]) (.cond (.t 25) (.seq (.reg false [⟨(some 4), .mv (.v (.bool false)), none, []⟩]) (.ret)) (.skip)))) (.reg false [⟨(some 15), .mv (.t 5), none, []⟩, ⟨(some 16), .bin .add (.t 15) (.v (.int .i64 1)), none, [0]⟩, ⟨(some 5), .mv (.t 16), none, [1, 0, 1]⟩])))))) (.seq (.reg false [⟨(some 4), .mv (.v (.bool true)), none, []⟩]) (.ret))))
def pr30 : List PR := [.t 4]
abbrev ms30_0 : List Nat := [11, 12, 13, 14, 17, 18, 19, 20, 21, 22, 23, 24, 25, 4, 15, 16, 5]
abbrev os30_0 : List Nat := []
theorem bd30:Try.f30.body=some (Try.f30.body.getD .skip):=by kernel_rfl
theorem cp30:compC Try.prog Try.f30.ntmps eqsL (Try.f30.body.getD .skip)=some pc30:=by kernel_rfl
theorem sp30 [WInv] {env:Env} (hE:EnvOK Try.prog env) {R:List Pa→List Pa→Prop} (hR:∀ ps rs,R ps rs→ps.length≤26∧pwp env pc30 (fun e s=>(e=.normal∨e=.ret)∧s.res pr30=some rs) (St.init ps)):Spec Try.prog 30 R :=
 fn_sound hE eqsOK mixedOK Try.func30 bd30 cp30 (by kernel_rfl) (by kernel_rfl) (by kernel_rfl) hR
def pc111 : PC := .seq (.reg false [⟨(some 6), .mv (.v (.bool false)), none, []⟩]) (.seq (.seq (.reg true [⟨(some 8), .mv (.t 0), none, []⟩, ⟨(some 9), .mv (.t 1), none, []⟩, ⟨(some 10), .ixs 9 (.t 8) (.t 9), none, [0, 1]⟩, ⟨(some 11), .fld 0 (.t 10), none, [2]⟩, ⟨(some 12), .load none (.t 11), none, [3]⟩, ⟨(some 13), .mv (.t 0), none, []⟩, ⟨(some 14), .mv (.t 2), none, []⟩, ⟨(some 15), .ixs 9 (.t 13) (.t 14), none, [5, 6]⟩, ⟨(some 16), .fld 0 (.t 15), none, [7]⟩, ⟨(some 17), .load none (.t 16), none, [8]⟩, ⟨(some 18), .bin .neq (.t 12) (.t 17), none, [4, 9]⟩]) (.cond (.t 18) (.seq (.reg false [⟨(some 6), .mv (.v (.bool false)), none, []⟩]) (.ret)) (.skip))) (.seq (.seq (.reg false [⟨(some 19), .mv (.t 1), none, []⟩, ⟨(some 20), .bin .add (.t 19) (.v (.int .i64 1)), none, [0]⟩, ⟨(some 7), .mv (.t 20), none, [1, 0, 1]⟩]) (.block 0 (.loop (.seq (.seq (.reg false [⟨(some 21), .mv (.t 7), none, []⟩, ⟨(some 22), .mv (.t 2), none, []⟩, ⟨(some 23), .bin .lss (.t 21) (.t 22), none, [0, 1]⟩]) (.cond (.t 23) (.skip) (.exit 0))) (.seq (.block 1 (.seq (.reg true [⟨(some 26), .mv (.t 0), none, []⟩, ⟨(some 27), .mv (.t 7), none, []⟩, ⟨(some 28), .ixs 9 (.t 26) (.t 27), none, [0, 1]⟩, ⟨(some 29), .fld 0 (.t 28), none, [2]⟩, ⟨(some 30), .load none (.t 29), none, [3]⟩, ⟨(some 31), .mv (.t 0), none, []⟩, ⟨(some 32), .mv (.t 1), none, []⟩, ⟨(some 33), .ixs 9 (.t 31) (.t 32), none, [5, 6]⟩, ⟨(some 34), .fld 0 (.t 33), none, [7]⟩, ⟨(some 35), .load none (.t 34), none, [8]⟩, ⟨(some 36), .bin .eql (.t 30) (.t 35), none, [4, 9]⟩]) (.cond (.t 36) (.seq (.reg false [⟨(some 6), .mv (.v (.bool false)), none, []⟩]) (.ret)) (.skip)))) (.reg false [⟨(some 24), .mv (.t 7), none, []⟩, ⟨(some 25), .bin .add (.t 24) (.v (.int .i64 1)), none, [0]⟩, ⟨(some 7), .mv (.t 25), none, [1, 0, 1]⟩])))))) (.seq (.reg false [⟨(some 6), .mv (.v (.bool true)), none, []⟩]) (.ret))))
def pr111 : List PR := [.t 6]
abbrev ms111_0 : List Nat := [21, 22, 23, 26, 27, 28, 29, 30, 31, 32, 33, 34, 35, 36, 6, 24, 25, 7]
abbrev os111_0 : List Nat := []
theorem bd111:Try.f111.body=some (Try.f111.body.getD .skip):=by kernel_rfl
theorem cp111:compC Try.prog Try.f111.ntmps eqsL (Try.f111.body.getD .skip)=some pc111:=by kernel_rfl
theorem sp111 [WInv] {env:Env} (hE:EnvOK Try.prog env) {R:List Pa→List Pa→Prop} (hR:∀ ps rs,R ps rs→ps.length≤37∧pwp env pc111 (fun e s=>(e=.normal∨e=.ret)∧s.res pr111=some rs) (St.init ps)):Spec Try.prog 111 R :=
 fn_sound hE eqsOK mixedOK Try.func111 bd111 cp111 (by kernel_rfl) (by kernel_rfl) (by kernel_rfl) hR
def pc112 : PC := .seq (.reg false [⟨(some 4), .mv (.v (.bool false)), none, []⟩]) (.seq (.seq (.reg false [⟨(some 5), .mv (.v (.int .i64 0)), none, []⟩]) (.block 0 (.loop (.seq (.seq (.reg false [⟨(some 6), .mv (.t 5), none, []⟩, ⟨(some 7), .mv (.t 1), none, []⟩, ⟨(some 8), .bin .lss (.t 6) (.t 7), none, [0, 1]⟩]) (.cond (.t 8) (.skip) (.exit 0))) (.seq (.block 1 (.seq (.reg true [⟨(some 11), .mv (.t 0), none, []⟩, ⟨(some 12), .mv (.t 5), none, []⟩, ⟨(some 13), .ixs 9 (.t 11) (.t 12), none, [0, 1]⟩, ⟨(some 14), .fld 0 (.t 13), none, [2]⟩, ⟨(some 15), .load none (.t 14), none, [3]⟩, ⟨(some 16), .mv (.t 0), none, []⟩, ⟨(some 17), .mv (.t 1), none, []⟩, ⟨(some 18), .ixs 9 (.t 16) (.t 17), none, [5, 6]⟩, ⟨(some 19), .fld 0 (.t 18), none, [7]⟩, ⟨(some 20), .load none (.t 19), none, [8]⟩, ⟨(some 21), .bin .eql (.t 15) (.t 20), none, [4, 9]⟩]) (.cond (.t 21) (.seq (.reg false [⟨(some 4), .mv (.v (.bool false)), none, []⟩]) (.ret)) (.skip)))) (.reg false [⟨(some 9), .mv (.t 5), none, []⟩, ⟨(some 10), .bin .add (.t 9) (.v (.int .i64 1)), none, [0]⟩, ⟨(some 5), .mv (.t 10), none, [1, 0, 1]⟩])))))) (.seq (.reg false [⟨(some 4), .mv (.v (.bool true)), none, []⟩]) (.ret)))
def pr112 : List PR := [.t 4]
abbrev ms112_0 : List Nat := [6, 7, 8, 11, 12, 13, 14, 15, 16, 17, 18, 19, 20, 21, 4, 9, 10, 5]
abbrev os112_0 : List Nat := []
theorem bd112:Try.f112.body=some (Try.f112.body.getD .skip):=by kernel_rfl
theorem cp112:compC Try.prog Try.f112.ntmps eqsL (Try.f112.body.getD .skip)=some pc112:=by kernel_rfl
theorem sp112 [WInv] {env:Env} (hE:EnvOK Try.prog env) {R:List Pa→List Pa→Prop} (hR:∀ ps rs,R ps rs→ps.length≤22∧pwp env pc112 (fun e s=>(e=.normal∨e=.ret)∧s.res pr112=some rs) (St.init ps)):Spec Try.prog 112 R :=
 fn_sound hE eqsOK mixedOK Try.func112 bd112 cp112 (by kernel_rfl) (by kernel_rfl) (by kernel_rfl) hR
def pc113 : PC := .seq (.reg false [⟨(some 6), .mv (.v (.bool false)), none, []⟩]) (.seq (.seq (.reg false [⟨(some 8), .mv (.t 1), none, []⟩, ⟨(some 9), .bin .add (.t 8) (.v (.int .i64 1)), none, [0]⟩, ⟨(some 7), .mv (.t 9), none, [1, 0, 1]⟩]) (.block 0 (.loop (.seq (.seq (.reg false [⟨(some 10), .mv (.t 7), none, []⟩, ⟨(some 11), .mv (.t 2), none, []⟩, ⟨(some 12), .bin .lss (.t 10) (.t 11), none, [0, 1]⟩]) (.cond (.t 12) (.skip) (.exit 0))) (.seq (.block 1 (.seq (.reg true [⟨(some 15), .mv (.t 0), none, []⟩, ⟨(some 16), .mv (.t 7), none, []⟩, ⟨(some 17), .ixs 9 (.t 15) (.t 16), none, [0, 1]⟩, ⟨(some 18), .fld 1 (.t 17), none, [2]⟩, ⟨(some 19), .load none (.t 18), none, [3]⟩, ⟨(some 20), .bin .eql (.t 19) (.v (.int .i64 4)), none, [4]⟩, ⟨(some 21), .mv (.t 20), none, [5]⟩, ⟨(some 22), .mv (.t 0), (some (21, false)), [6]⟩, ⟨(some 23), .mv (.t 7), (some (21, false)), [6]⟩, ⟨(some 24), .ixs 9 (.t 22) (.t 23), (some (21, false)), [7, 8, 6]⟩, ⟨(some 25), .fld 1 (.t 24), (some (21, false)), [9, 6]⟩, ⟨(some 26), .load none (.t 25), (some (21, false)), [10, 6]⟩, ⟨(some 27), .bin .eql (.t 26) (.v (.int .i64 5)), (some (21, false)), [11, 6]⟩, ⟨(some 28), .pick (.t 21) (.v (.bool true)) (.t 27), none, [6, 12]⟩, ⟨(some 29), .mv (.t 28), none, [13, 6]⟩, ⟨(some 30), .mv (.t 0), (some (29, true)), [14]⟩, ⟨(some 31), .mv (.t 7), (some (29, true)), [14]⟩, ⟨(some 32), .ixs 9 (.t 30) (.t 31), (some (29, true)), [15, 16, 14]⟩, ⟨(some 33), .fld 2 (.t 32), (some (29, true)), [17, 14]⟩, ⟨(some 34), .load none (.t 33), (some (29, true)), [18, 14]⟩, ⟨(some 35), .mv (.t 0), (some (29, true)), [14]⟩, ⟨(some 36), .mv (.t 2), (some (29, true)), [14]⟩, ⟨(some 37), .ixs 9 (.t 35) (.t 36), (some (29, true)), [20, 21, 14]⟩, ⟨(some 38), .fld 2 (.t 37), (some (29, true)), [22, 14]⟩, ⟨(some 39), .load none (.t 38), (some (29, true)), [23, 14]⟩, ⟨(some 40), .bin .eql (.t 34) (.t 39), (some (29, true)), [19, 24, 14]⟩, ⟨(some 41), .pick (.t 29) (.t 40) (.v (.bool false)), none, [14, 25]⟩, ⟨(some 42), .mv (.t 41), none, [26, 14]⟩, ⟨(some 43), .mv (.t 0), (some (42, true)), [27]⟩, ⟨(some 44), .mv (.t 7), (some (42, true)), [27]⟩, ⟨(some 45), .ixs 9 (.t 43) (.t 44), (some (42, true)), [28, 29, 27]⟩, ⟨(some 46), .fld 3 (.t 45), (some (42, true)), [30, 27]⟩, ⟨(some 47), .load none (.t 46), (some (42, true)), [31, 27]⟩, ⟨(some 48), .mv (.t 0), (some (42, true)), [27]⟩, ⟨(some 49), .mv (.t 2), (some (42, true)), [27]⟩, ⟨(some 50), .ixs 9 (.t 48) (.t 49), (some (42, true)), [33, 34, 27]⟩, ⟨(some 51), .fld 3 (.t 50), (some (42, true)), [35, 27]⟩, ⟨(some 52), .load none (.t 51), (some (42, true)), [36, 27]⟩, ⟨(some 53), .bin .eql (.t 47) (.t 52), (some (42, true)), [32, 37, 27]⟩, ⟨(some 54), .pick (.t 42) (.t 53) (.v (.bool false)), none, [27, 38]⟩]) (.cond (.t 54) (.seq (.reg false [⟨(some 6), .mv (.v (.bool false)), none, []⟩]) (.ret)) (.skip)))) (.reg false [⟨(some 13), .mv (.t 7), none, []⟩, ⟨(some 14), .bin .add (.t 13) (.v (.int .i64 1)), none, [0]⟩, ⟨(some 7), .mv (.t 14), none, [1, 0, 1]⟩])))))) (.seq (.reg false [⟨(some 6), .mv (.v (.bool true)), none, []⟩]) (.ret)))
def pr113 : List PR := [.t 6]
abbrev ms113_0 : List Nat := [10, 11, 12, 15, 16, 17, 18, 19, 20, 21, 22, 23, 24, 25, 26, 27, 28, 29, 30, 31, 32, 33, 34, 35, 36, 37, 38, 39, 40, 41, 42, 43, 44, 45, 46, 47, 48, 49, 50, 51, 52, 53, 54, 6, 13, 14, 7]
abbrev os113_0 : List Nat := []
theorem bd113:Try.f113.body=some (Try.f113.body.getD .skip):=by kernel_rfl
theorem cp113:compC Try.prog Try.f113.ntmps eqsL (Try.f113.body.getD .skip)=some pc113:=by kernel_rfl
theorem sp113 [WInv] {env:Env} (hE:EnvOK Try.prog env) {R:List Pa→List Pa→Prop} (hR:∀ ps rs,R ps rs→ps.length≤55∧pwp env pc113 (fun e s=>(e=.normal∨e=.ret)∧s.res pr113=some rs) (St.init ps)):Spec Try.prog 113 R :=
 fn_sound hE eqsOK mixedOK Try.func113 bd113 cp113 (by kernel_rfl) (by kernel_rfl) (by kernel_rfl) hR
def pct34 : PC := .seq (.reg false [⟨(some 0), .mv (.v (.pointer none)), none, []⟩]) (.seq (.reg false [⟨(some 1), .callh 19 [], none, []⟩, ⟨(some 2), .hal 3 (.map 117), none, []⟩, ⟨(some 3), .hal 4 (.map 3), none, []⟩, ⟨(some 4), .build [(.pointer none), (.int .i64 0), (.int .i64 0), (.int .i64 0), (.int .i64 0), (.int .i64 0), (.int .i64 0), (.int .i64 0), (.int .i64 0), (.int .i64 0), (.int .i64 0), (.int .i64 0), (.int .i64 0), (.int .i64 0), (.int .i64 0), (.int .i64 0), (.int .i64 0), (.int .i64 0), (.int .i64 0), (.int .i64 0), (.int .i64 0), (.int .i64 0), (.int .i64 0), (.int .i64 0), (.int .i64 0), (.int .i64 0), (.int .i64 0), (.int .i64 0), (.int .i64 0), (.int .i64 0), (.int .i64 0), (.int .i64 0), (.int .i64 0), (.int .i64 0), (.int .i64 0), (.int .i64 0), (.int .i64 0), (.int .i64 0), (.int .i64 0), (.int .i64 0), (.int .i64 0), (.int .i64 0), (.int .i64 0), (.int .i64 0), (.int .i64 0), (.int .i64 0), (.int .i64 0), (.int .i64 0), (.int .i64 0), (.int .i64 0), (.int .i64 0), (.int .i64 0), (.int .i64 0), (.int .i64 0), (.int .i64 0), (.int .i64 0), (.int .i64 0), (.int .i64 0), (.int .i64 0), (.int .i64 0), (.int .i64 0), (.int .i64 0), (.int .i64 0), (.int .i64 0), (.int .i64 0), (.map none), (.map none)] [(0, 1, (.t 1)), (65, 1, (.t 2)), (66, 1, (.t 3))], none, [0, 1, 2]⟩, ⟨(some 5), .hal 6 (.box (.t 4)), none, [3]⟩, ⟨(some 0), .mv (.t 5), none, [4, 0, 0, 1, 2, 3, 4]⟩]) (.ret))
def prt34 : List PR := [.t 0]
def ntt34:Nat:=6
def flt34 : List (Nat × List Bool) := [(5000005, List.replicate 1 false), (6000019, List.replicate 1 false)]
theorem bdt34:Try.f34.body=some (Try.f34.body.getD .skip):=by kernel_rfl
theorem cpt34:compC Try.prog Try.f34.ntmps (eqsL ++ flt34) (Try.f34.body.getD .skip)=some pct34:=by kernel_rfl
theorem spt34 [WInv] {env:Env} (hE:EnvOK Try.prog env) {R:(Nat→Hb)→List Hw→(Nat→Hb)→List Hw→Prop} (hR:∀ hp az hp' rs,R hp az hp' rs→az.length≤6∧∃ nc,pwp env pct34 (fun e s=>(e=.normal∨e=.ret)∧s.resHs prt34=some rs∧s.hb=hp') (St.initH nc hp az)):SpecH Try.prog 34 R :=
 fn_sound_h hE (eqsH eqsOK (by kernel_rfl)) mixedOK Try.func34 bdt34 cpt34 (by kernel_rfl) (by kernel_rfl) (by kernel_rfl) hR
def pct35 : PC := .seq (.reg false [⟨(some 4), .new [(.int .i64 0), (.int .i64 0), (.int .i64 0), (.int .i64 0), (.int .i64 0), (.int .i64 0), (.int .i64 0), (.int .i64 0)], none, []⟩]) (.seq (.seq (.reg false [⟨(some 5), .mv (.t 0), none, []⟩, ⟨(some 6), .pnil false (.t 5), none, [0]⟩, ⟨(some 7), .mv (.t 6), none, [1]⟩, ⟨(some 8), .mv (.t 1), (some (7, false)), [2]⟩, ⟨(some 9), .bin .lss (.t 8) (.v (.int .i64 0)), (some (7, false)), [3, 2]⟩, ⟨(some 10), .pick (.t 7) (.v (.bool true)) (.t 9), none, [2, 4]⟩, ⟨(some 11), .mv (.t 10), none, [5, 2]⟩, ⟨(some 12), .mv (.t 1), (some (11, false)), [6]⟩, ⟨(some 13), .bin .geq (.t 12) (.v (.int .i64 8)), (some (11, false)), [7, 6]⟩, ⟨(some 14), .pick (.t 11) (.v (.bool true)) (.t 13), none, [6, 8]⟩]) (.cond (.t 14) (.seq (.reg false [⟨(some 15), .build [(.int .i64 0), (.int .i64 0), (.int .i64 0), (.int .i64 0), (.int .i64 0), (.int .i64 0), (.int .i64 0), (.int .i64 0)] [], none, []⟩, ⟨none, .store 8 (.t 4) (.t 15), none, [0, 0]⟩]) (.ret)) (.skip))) (.seq (.reg false [⟨(some 16), .mv (.t 0), none, []⟩, ⟨(some 17), .mv (.t 1), none, []⟩, ⟨(some 18), .nilck (.t 16), none, [0]⟩, ⟨(some 19), .fld 1 (.t 18), none, [2]⟩, ⟨(some 20), .ixa 8 8 (.t 19) (.t 17), none, [3, 1]⟩, ⟨(some 21), .load (some 8) (.t 20), none, [4]⟩, ⟨none, .store 8 (.t 4) (.t 21), none, [5, 0, 1, 2, 3, 4, 5]⟩]) (.ret)))
def prt35 : List PR := [.c 4 (some 8)]
def ntt35:Nat:=22
def flt35 : List (Nat × List Bool) := []
theorem bdt35:Try.f35.body=some (Try.f35.body.getD .skip):=by kernel_rfl
theorem cpt35:compC Try.prog Try.f35.ntmps (eqsL ++ flt35) (Try.f35.body.getD .skip)=some pct35:=by kernel_rfl
theorem spt35 [WInv] {env:Env} (hE:EnvOK Try.prog env) {R:(Nat→Hb)→List Hw→(Nat→Hb)→List Hw→Prop} (hR:∀ hp az hp' rs,R hp az hp' rs→az.length≤22∧∃ nc,pwp env pct35 (fun e s=>(e=.normal∨e=.ret)∧s.resHs prt35=some rs∧s.hb=hp') (St.initH nc hp az)):SpecH Try.prog 35 R :=
 fn_sound_h hE (eqsH eqsOK (by kernel_rfl)) mixedOK Try.func35 bdt35 cpt35 (by kernel_rfl) (by kernel_rfl) (by kernel_rfl) hR
def pct36c0 : PC := .seq (.reg false [⟨(some 121), .load none (.t 2), none, []⟩, ⟨(some 122), .load (some 9) (.t 3), none, []⟩, ⟨(some 123), .load (some 2) (.t 7), none, []⟩, ⟨(some 124), .load (some 8) (.t 6), none, []⟩, ⟨(some 125), .callh 81 [(.t 121), (.t 122), (.t 123), (.t 124)], none, [0, 1, 2, 3]⟩]) (.seq (.reg true [⟨(some 126), .load none (.t 2), none, []⟩, ⟨(some 127), .fld 0 (.t 3), none, []⟩, ⟨(some 128), .load none (.t 127), none, [1]⟩, ⟨(some 129), .load (some 8) (.t 6), none, []⟩, ⟨(some 130), .nilck (.t 126), none, [0]⟩, ⟨(some 131), .fld 1 (.t 130), none, [4]⟩, ⟨(some 132), .ixa 8 8 (.t 131) (.t 128), none, [5, 2, 0, 1, 2, 3]⟩, ⟨none, .store 8 (.t 132) (.t 129), none, [6, 3, 0, 1, 2, 3]⟩]) (.seq (.reg false [⟨(some 133), .load (some 8) (.t 6), none, []⟩, ⟨none, .store 8 (.t 4) (.t 133), none, [0, 0]⟩, ⟨(some 5), .mv (.v (.int .i64 0)), none, [1, 0, 1]⟩]) (.ret)))
def pct36c1 : PC := .seq (.reg false [⟨(some 46), .fld 1 (.t 3), none, []⟩, ⟨(some 47), .load none (.t 46), none, [0]⟩]) (.block 1 (.seq (.reg false [⟨(some 49), .bin .eql (.t 47) (.v (.int .i64 6)), none, []⟩, ⟨(some 48), .mv (.t 49), none, [0]⟩]) (.cond (.t 48) (.seq (.reg false [⟨(some 50), .mv (.t 8), none, []⟩, ⟨(some 51), .callc (.t 50) 78 [(.v (.int .i64 0))], none, [0]⟩]) (.reg false [⟨(some 52), .mv (.t 8), none, []⟩, ⟨(some 53), .callc (.t 52) 78 [(.v (.int .i64 1))], none, [0]⟩])) (.seq (.reg false [⟨(some 55), .bin .eql (.t 47) (.v (.int .i64 8)), none, []⟩, ⟨(some 54), .mv (.t 55), none, [0]⟩]) (.cond (.t 54) (.reg false [⟨(some 56), .mv (.t 8), none, []⟩, ⟨(some 57), .callc (.t 56) 78 [(.v (.int .i64 0))], none, [0]⟩]) (.seq (.reg false [⟨(some 59), .bin .eql (.t 47) (.v (.int .i64 11)), none, []⟩, ⟨(some 58), .mv (.t 59), none, [0]⟩]) (.cond (.t 58) (.reg false [⟨(some 60), .mv (.t 8), none, []⟩, ⟨(some 61), .callc (.t 60) 78 [(.v (.int .i64 2))], none, [0]⟩]) (.seq (.reg false [⟨(some 63), .bin .eql (.t 47) (.v (.int .i64 13)), none, []⟩, ⟨(some 62), .mv (.t 63), none, [0]⟩]) (.cond (.t 62) (.reg false [⟨(some 64), .mv (.t 8), none, []⟩, ⟨(some 65), .callc (.t 64) 78 [(.v (.int .i64 3))], none, [0]⟩]) (.seq (.seq (.reg false [⟨(some 67), .bin .eql (.t 47) (.v (.int .i64 3)), none, []⟩, ⟨(some 66), .mv (.t 67), none, [0]⟩]) (.cond (.t 66) (.skip) (.reg false [⟨(some 68), .bin .eql (.t 47) (.v (.int .i64 5)), none, []⟩, ⟨(some 66), .mv (.t 68), none, [0]⟩]))) (.cond (.t 66) (.reg false [⟨(some 69), .mv (.t 8), none, []⟩, ⟨(some 70), .callc (.t 69) 78 [(.v (.int .i64 4))], none, [0]⟩]) (.seq (.reg false [⟨(some 72), .bin .eql (.t 47) (.v (.int .i64 20)), none, []⟩, ⟨(some 71), .mv (.t 72), none, [0]⟩]) (.cond (.t 71) (.reg false [⟨(some 73), .mv (.t 8), none, []⟩, ⟨(some 74), .callc (.t 73) 78 [(.v (.int .i64 5))], none, [0]⟩]) (.seq (.reg false [⟨(some 76), .bin .eql (.t 47) (.v (.int .i64 18)), none, []⟩, ⟨(some 75), .mv (.t 76), none, [0]⟩]) (.cond (.t 75) (.seq (.reg false [⟨(some 77), .load none (.t 2), none, []⟩, ⟨(some 78), .fld 2 (.t 3), none, []⟩, ⟨(some 79), .load none (.t 78), none, [1]⟩, ⟨(some 80), .fld 5 (.t 3), none, []⟩, ⟨(some 81), .load none (.t 80), none, [3]⟩, ⟨(some 82), .callh 80 [(.t 77), (.t 79), (.t 81)], none, [0, 2, 4]⟩, ⟨(some 9), .new [(.slice none 0 0), (.slice none 0 0)], none, []⟩, ⟨none, .store 2 (.t 9) (.t 82), none, [6, 5, 5, 0, 1, 2, 3, 4, 5, 6]⟩]) (.reg true [⟨(some 83), .load (some 8) (.t 6), none, []⟩, ⟨(some 84), .fld 0 (.t 9), none, []⟩, ⟨(some 85), .load none (.t 84), none, [1]⟩, ⟨(some 86), .fld 4 (.t 3), none, []⟩, ⟨(some 87), .load none (.t 86), none, [3]⟩, ⟨(some 88), .fld 0 (.t 9), none, []⟩, ⟨(some 89), .load none (.t 88), none, [5]⟩, ⟨(some 90), .len (.t 89), none, [6]⟩, ⟨(some 91), .bin .rem (.t 87) (.t 90), none, [4, 7]⟩, ⟨(some 92), .ixs 8 (.t 85) (.t 91), none, [2, 8]⟩, ⟨(some 93), .load (some 8) (.t 92), none, [9]⟩, ⟨(some 94), .call 79 [(.t 83), (.t 93)], none, [0, 10]⟩, ⟨none, .store 8 (.t 6) (.t 94), none, [11, 11, 0, 1, 2, 3, 4, 5, 6, 7, 8, 9, 10, 11]⟩])) (.seq (.reg false [⟨(some 96), .bin .eql (.t 47) (.v (.int .i64 16)), none, []⟩, ⟨(some 95), .mv (.t 96), none, [0]⟩]) (.cond (.t 95) (.seq (.reg false [⟨(some 97), .fld 4 (.t 3), none, []⟩, ⟨(some 98), .load none (.t 97), none, [0]⟩, ⟨(some 99), .fld 5 (.t 3), none, []⟩, ⟨(some 100), .load none (.t 99), none, [2]⟩, ⟨(some 101), .bin .sub (.t 98) (.t 100), none, [1, 3]⟩, ⟨(some 10), .mv (.t 101), none, [4, 0, 1, 2, 3, 4]⟩]) (.seq (.reg false [⟨(some 102), .mv (.t 10), none, []⟩, ⟨(some 103), .bin .geq (.t 102) (.v (.int .i64 0)), none, [0]⟩]) (.cond (.t 103) (.seq (.reg false [⟨(some 104), .load none (.t 2), none, []⟩, ⟨(some 105), .fld 2 (.t 3), none, []⟩, ⟨(some 106), .load none (.t 105), none, [1]⟩, ⟨(some 107), .fld 5 (.t 3), none, []⟩, ⟨(some 108), .load none (.t 107), none, [3]⟩, ⟨(some 109), .callh 80 [(.t 104), (.t 106), (.t 108)], none, [0, 2, 4]⟩, ⟨(some 11), .new [(.slice none 0 0), (.slice none 0 0)], none, []⟩, ⟨none, .store 2 (.t 11) (.t 109), none, [6, 5, 5, 0, 1, 2, 3, 4, 5, 6]⟩]) (.reg true [⟨(some 110), .load (some 8) (.t 6), none, []⟩, ⟨(some 111), .fld 1 (.t 11), none, []⟩, ⟨(some 112), .load none (.t 111), none, [1]⟩, ⟨(some 113), .mv (.t 10), none, []⟩, ⟨(some 114), .fld 1 (.t 11), none, []⟩, ⟨(some 115), .load none (.t 114), none, [4]⟩, ⟨(some 116), .len (.t 115), none, [5]⟩, ⟨(some 117), .bin .rem (.t 113) (.t 116), none, [3, 6]⟩, ⟨(some 118), .ixs 8 (.t 112) (.t 117), none, [2, 7]⟩, ⟨(some 119), .load (some 8) (.t 118), none, [8]⟩, ⟨(some 120), .call 79 [(.t 110), (.t 119)], none, [0, 9]⟩, ⟨none, .store 8 (.t 6) (.t 120), none, [10, 10, 0, 1, 2, 3, 4, 5, 6, 7, 8, 9, 10]⟩])) (.skip)))) (.skip))))))))))))))))))
def pct36c2 : PC := .seq (.reg true [⟨(some 30), .load none (.t 2), none, []⟩, ⟨(some 31), .fld 0 (.t 3), none, []⟩, ⟨(some 32), .load none (.t 31), none, [1]⟩, ⟨(some 33), .nilck (.t 30), none, [0]⟩, ⟨(some 34), .fld 1 (.t 33), none, [3]⟩, ⟨(some 35), .ixa 8 8 (.t 34) (.t 32), none, [4, 2]⟩, ⟨(some 36), .load (some 8) (.t 35), none, [5]⟩, ⟨(some 37), .fld 0 (.t 3), none, []⟩, ⟨(some 38), .load none (.t 37), none, [7]⟩, ⟨(some 39), .call 77 [(.t 36), (.t 38)], none, [6, 8]⟩, ⟨(some 6), .hal 7 (.new [(.int .i64 0), (.int .i64 0), (.int .i64 0), (.int .i64 0), (.int .i64 0), (.int .i64 0), (.int .i64 0), (.int .i64 0)]), none, []⟩, ⟨none, .store 8 (.t 6) (.t 39), none, [10, 9, 9, 0, 1, 2, 3, 4, 5, 6, 7, 8, 9, 10]⟩]) (.seq (.reg false [⟨(some 40), .fld 2 (.t 3), none, []⟩, ⟨(some 41), .load none (.t 40), none, [0]⟩, ⟨(some 42), .fld 3 (.t 3), none, []⟩, ⟨(some 43), .load none (.t 42), none, [2]⟩, ⟨(some 44), .build [(.int .i64 0), (.int .i64 0)] [(0, 1, (.t 41)), (1, 1, (.t 43))], none, [1, 3]⟩, ⟨(some 7), .hal 8 (.new [(.int .i64 0), (.int .i64 0)]), none, []⟩, ⟨none, .store 2 (.t 7) (.t 44), none, [5, 4, 0, 1, 2, 3, 4, 5]⟩]) (.seq (.reg false [⟨(some 45), .mkf 78 [] [(.t 6), (.t 2), (.t 7)], none, []⟩, ⟨(some 8), .mv (.t 45), none, [0, 0]⟩]) (.seq (pct36c1) (pct36c0))))
def pct36 : PC := .seq (.reg false [⟨(some 2), .hal 3 (.box (.t 0)), none, []⟩, ⟨(some 3), .box (.t 1), none, []⟩, ⟨(some 4), .new [(.int .i64 0), (.int .i64 0), (.int .i64 0), (.int .i64 0), (.int .i64 0), (.int .i64 0), (.int .i64 0), (.int .i64 0)], none, []⟩, ⟨(some 5), .mv (.v (.int .i64 0)), none, []⟩]) (.seq (.block 0 (.seq (.reg false [⟨(some 13), .load none (.t 2), none, []⟩, ⟨(some 14), .pnil false (.t 13), none, [0]⟩, ⟨(some 12), .mv (.t 14), none, [1]⟩]) (.cond (.t 12) (.seq (.reg false [⟨(some 15), .build [(.int .i64 0), (.int .i64 0), (.int .i64 0), (.int .i64 0), (.int .i64 0), (.int .i64 0), (.int .i64 0), (.int .i64 0)] [], none, []⟩, ⟨none, .store 8 (.t 4) (.t 15), none, [0, 0]⟩, ⟨(some 5), .mv (.v (.int .i64 11)), none, [1, 0, 1]⟩]) (.ret)) (.seq (.reg false [⟨(some 17), .load (some 9) (.t 3), none, []⟩, ⟨(some 18), .call 59 [(.t 17)], none, [0]⟩, ⟨(some 19), .un .not (.t 18), none, [1]⟩, ⟨(some 16), .mv (.t 19), none, [2, 1]⟩]) (.cond (.t 16) (.seq (.reg false [⟨(some 20), .build [(.int .i64 0), (.int .i64 0), (.int .i64 0), (.int .i64 0), (.int .i64 0), (.int .i64 0), (.int .i64 0), (.int .i64 0)] [], none, []⟩, ⟨none, .store 8 (.t 4) (.t 20), none, [0, 0]⟩, ⟨(some 5), .mv (.v (.int .i64 1)), none, [1, 0, 1]⟩]) (.ret)) (.seq (.reg true [⟨(some 22), .load none (.t 2), none, []⟩, ⟨(some 23), .nilck (.t 22), none, [0]⟩, ⟨(some 24), .fld 0 (.t 23), none, [1]⟩, ⟨(some 25), .load none (.t 24), none, [2]⟩, ⟨(some 26), .load (some 9) (.t 3), none, []⟩, ⟨(some 27), .callh 21 [(.t 25), (.t 26)], none, [3, 4]⟩, ⟨(some 28), .un .not (.t 27), none, [5]⟩, ⟨(some 21), .mv (.t 28), none, [6, 5]⟩]) (.cond (.t 21) (.seq (.reg false [⟨(some 29), .build [(.int .i64 0), (.int .i64 0), (.int .i64 0), (.int .i64 0), (.int .i64 0), (.int .i64 0), (.int .i64 0), (.int .i64 0)] [], none, []⟩, ⟨none, .store 8 (.t 4) (.t 29), none, [0, 0]⟩, ⟨(some 5), .mv (.v (.int .i64 11)), none, [1, 0, 1]⟩]) (.ret)) (.skip)))))))) (pct36c2))
def prt36 : List PR := [.c 4 (some 8), .t 5]
def ntt36:Nat:=134
def flt36 : List (Nat × List Bool) := [(5000002, List.replicate 1 false), (5000006, List.replicate 1 false), (5000007, List.replicate 1 false), (6000021, List.replicate 1 false), (6000080, List.replicate 1 false), (6000081, List.replicate 1 false), (7000050, List.replicate 78 false), (7000052, List.replicate 78 false), (7000056, List.replicate 78 false), (7000060, List.replicate 78 false), (7000064, List.replicate 78 false), (7000069, List.replicate 78 false), (7000073, List.replicate 78 false)]
theorem bdt36:Try.f36.body=some (Try.f36.body.getD .skip):=by kernel_rfl
theorem cpt36:compC Try.prog Try.f36.ntmps (eqsL ++ flt36) (Try.f36.body.getD .skip)=some pct36:=by kernel_rfl
theorem spt36 [WInv] {env:Env} (hE:EnvOK Try.prog env) {R:(Nat→Hb)→List Hw→(Nat→Hb)→List Hw→Prop} (hR:∀ hp az hp' rs,R hp az hp' rs→az.length≤134∧∃ nc,pwp env pct36 (fun e s=>(e=.normal∨e=.ret)∧s.resHs prt36=some rs∧s.hb=hp') (St.initH nc hp az)):SpecH Try.prog 36 R :=
 fn_sound_h hE (eqsH eqsOK (by kernel_rfl)) mixedOK Try.func36 bdt36 cpt36 (by kernel_rfl) (by kernel_rfl) (by kernel_rfl) hR
def pct78 : PC := .reg true [⟨(some 5), .load (some 8) (.t 1), none, []⟩, ⟨(some 6), .load none (.t 2), none, []⟩, ⟨(some 7), .nilck (.t 6), none, [1]⟩, ⟨(some 8), .fld 65 (.t 7), none, [2]⟩, ⟨(some 9), .load none (.t 8), none, [3]⟩, ⟨(some 10), .mv (.t 0), none, []⟩, ⟨(some 11), .load (some 2) (.t 3), none, []⟩, ⟨(some 12), .build [(.int .i64 0), (.int .i64 0), (.int .i64 0)] [(0, 1, (.t 10)), (1, 2, (.t 11))], none, [5, 6]⟩, ⟨(some 13), .mlk 117 (.agg [.d (.sc (.int .i64 0)), .d (.sc (.int .i64 0)), .d (.sc (.int .i64 0)), .d (.sc (.int .i64 0)), .d (.sc (.int .i64 0)), .d (.sc (.int .i64 0)), .d (.sc (.int .i64 0)), .d (.sc (.int .i64 0))]) false (.t 9) (.t 12), none, [4, 7]⟩, ⟨(some 14), .call 79 [(.t 5), (.t 13)], none, [0, 8]⟩, ⟨none, .store 8 (.t 1) (.t 14), none, [9, 9, 0, 1, 2, 3, 4, 5, 6, 7, 8, 9]⟩]
def prt78 : List PR := []
def flt78 : List (Nat × List Bool) := []
theorem bdt78:Try.f78.body=some (Try.f78.body.getD .skip):=by kernel_rfl
theorem cpt78:compC Try.prog Try.f78.ntmps (eqsL ++ flt78) (Try.f78.body.getD .skip)=some pct78:=by kernel_rfl
theorem spt78 [WInv] {env:Env} (hE:EnvOK Try.prog env) {R:(Nat→Hb)→List Hw→(Nat→Hb)→List Hw→Prop} (hR:∀ hp az hp' rs,R hp az hp' rs→az.length≤15∧∃ nc,pwp env pct78 (fun e s=>(e=.normal∨e=.ret)∧s.resHs prt78=some rs∧s.hb=hp') (St.initH nc hp az)):SpecH Try.prog 78 R :=
 fn_sound_h hE (eqsH eqsOK (by kernel_rfl)) mixedOK Try.func78 bdt78 cpt78 (by kernel_rfl) (by kernel_rfl) (by kernel_rfl) hR
def pct80 : PC := .seq (.reg false [⟨(some 6), .new [(.slice none 0 0), (.slice none 0 0)], none, []⟩]) (.seq (.reg false [⟨(some 10), .mv (.t 0), none, []⟩, ⟨(some 11), .nilck (.t 10), none, [0]⟩, ⟨(some 12), .fld 66 (.t 11), none, [1]⟩, ⟨(some 13), .load none (.t 12), none, [2]⟩, ⟨(some 14), .mv (.t 1), none, []⟩, ⟨(some 15), .mlk 3 (.agg [.d (.sc (.slice none 0 0)), .d (.sc (.slice none 0 0))]) true (.t 13) (.t 14), none, [3, 4]⟩, ⟨(some 9), .mv (.t 15), none, [5]⟩, ⟨(some 16), .ext (.t 9) 0, none, [6]⟩, ⟨(some 17), .ext (.t 9) 1, none, [6]⟩, ⟨(some 7), .new [(.slice none 0 0), (.slice none 0 0)], none, []⟩, ⟨none, .store 2 (.t 7) (.t 16), none, [9, 7, 0, 1, 2, 3, 4, 5, 6, 7, 9]⟩, ⟨(some 8), .mv (.t 17), none, [8, 10, 0, 1, 2, 3, 4, 5, 6, 7, 8, 9, 10]⟩]) (.seq (.seq (.reg false [⟨(some 18), .mv (.t 8), none, []⟩, ⟨(some 19), .un .not (.t 18), none, [0]⟩]) (.cond (.t 19) (.seq (.reg true [⟨(some 20), .mv (.t 2), none, []⟩, ⟨(some 21), .bin .add (.t 20) (.v (.int .i64 1)), none, [0]⟩, ⟨(some 22), .hal 23 (.mk 8 64 [(.int .i64 0), (.int .i64 0), (.int .i64 0), (.int .i64 0), (.int .i64 0), (.int .i64 0), (.int .i64 0), (.int .i64 0)] (.t 21) (.t 21)), none, [1, 1]⟩, ⟨(some 23), .mv (.t 2), none, []⟩, ⟨(some 24), .bin .add (.t 23) (.v (.int .i64 1)), none, [3]⟩, ⟨(some 25), .hal 26 (.mk 8 64 [(.int .i64 0), (.int .i64 0), (.int .i64 0), (.int .i64 0), (.int .i64 0), (.int .i64 0), (.int .i64 0), (.int .i64 0)] (.t 24) (.t 24)), none, [4, 4]⟩, ⟨(some 26), .build [(.slice none 0 0), (.slice none 0 0)] [(0, 1, (.t 22)), (1, 1, (.t 25))], none, [2, 5]⟩, ⟨none, .store 2 (.t 7) (.t 26), none, [6, 0, 1, 2, 3, 4, 5, 6]⟩]) (.reg true [⟨(some 27), .mv (.t 0), none, []⟩, ⟨(some 28), .nilck (.t 27), none, [0]⟩, ⟨(some 29), .fld 66 (.t 28), none, [1]⟩, ⟨(some 30), .load none (.t 29), none, [2]⟩, ⟨(some 31), .mv (.t 1), none, []⟩, ⟨(some 32), .load (some 2) (.t 7), none, []⟩, ⟨none, .mup 3 (.t 30) (.t 31) (.t 32), none, [3, 4, 5, 0, 1, 2, 3, 4, 5]⟩])) (.skip))) (.seq (.reg false [⟨(some 33), .load (some 2) (.t 7), none, []⟩, ⟨none, .store 2 (.t 6) (.t 33), none, [0, 0]⟩]) (.ret))))
def prt80 : List PR := [.c 6 (some 2)]
def flt80 : List (Nat × List Bool) := [(5000022, List.replicate 1 false), (5000025, List.replicate 1 false)]
theorem bdt80:Try.f80.body=some (Try.f80.body.getD .skip):=by kernel_rfl
theorem cpt80:compC Try.prog Try.f80.ntmps (eqsL ++ flt80) (Try.f80.body.getD .skip)=some pct80:=by kernel_rfl
theorem spt80 [WInv] {env:Env} (hE:EnvOK Try.prog env) {R:(Nat→Hb)→List Hw→(Nat→Hb)→List Hw→Prop} (hR:∀ hp az hp' rs,R hp az hp' rs→az.length≤34∧∃ nc,pwp env pct80 (fun e s=>(e=.normal∨e=.ret)∧s.resHs prt80=some rs∧s.hb=hp') (St.initH nc hp az)):SpecH Try.prog 80 R :=
 fn_sound_h hE (eqsH eqsOK (by kernel_rfl)) mixedOK Try.func80 bdt80 cpt80 (by kernel_rfl) (by kernel_rfl) (by kernel_rfl) hR
def pct81 : PC := .seq (.reg false [⟨(some 4), .hal 5 (.box (.t 0)), none, []⟩, ⟨(some 5), .box (.t 1), none, []⟩, ⟨(some 6), .hal 7 (.box (.t 2)), none, []⟩, ⟨(some 7), .hal 8 (.box (.t 3)), none, []⟩]) (.seq (.reg false [⟨(some 11), .mkf 107 [] [(.t 4), (.t 6), (.t 7)], none, []⟩, ⟨(some 8), .mv (.t 11), none, [0, 0]⟩]) (.seq (.reg false [⟨(some 12), .fld 1 (.t 5), none, []⟩, ⟨(some 13), .load none (.t 12), none, [0]⟩]) (.block 0 (.seq (.reg false [⟨(some 15), .bin .eql (.t 13) (.v (.int .i64 14)), none, []⟩, ⟨(some 14), .mv (.t 15), none, [0]⟩]) (.cond (.t 14) (.reg true [⟨(some 16), .load none (.t 4), none, []⟩, ⟨(some 17), .fld 4 (.t 5), none, []⟩, ⟨(some 18), .load none (.t 17), none, [1]⟩, ⟨(some 19), .load (some 8) (.t 7), none, []⟩, ⟨(some 20), .nilck (.t 16), none, [0]⟩, ⟨(some 21), .fld 1 (.t 20), none, [4]⟩, ⟨(some 22), .ixa 8 8 (.t 21) (.t 18), none, [5, 2, 0, 1, 2, 3]⟩, ⟨none, .store 8 (.t 22) (.t 19), none, [6, 3, 0, 1, 2, 3]⟩]) (.seq (.reg false [⟨(some 24), .bin .eql (.t 13) (.v (.int .i64 7)), none, []⟩, ⟨(some 23), .mv (.t 24), none, [0]⟩]) (.cond (.t 23) (.reg false [⟨(some 25), .mv (.t 8), none, []⟩, ⟨(some 26), .callc (.t 25) 107 [(.v (.int .i64 0))], none, [0]⟩]) (.seq (.reg false [⟨(some 28), .bin .eql (.t 13) (.v (.int .i64 9)), none, []⟩, ⟨(some 27), .mv (.t 28), none, [0]⟩]) (.cond (.t 27) (.reg false [⟨(some 29), .mv (.t 8), none, []⟩, ⟨(some 30), .callc (.t 29) 107 [(.v (.int .i64 1))], none, [0]⟩]) (.seq (.reg false [⟨(some 32), .bin .eql (.t 13) (.v (.int .i64 10)), none, []⟩, ⟨(some 31), .mv (.t 32), none, [0]⟩]) (.cond (.t 31) (.reg false [⟨(some 33), .mv (.t 8), none, []⟩, ⟨(some 34), .callc (.t 33) 107 [(.v (.int .i64 2))], none, [0]⟩]) (.seq (.reg false [⟨(some 36), .bin .eql (.t 13) (.v (.int .i64 12)), none, []⟩, ⟨(some 35), .mv (.t 36), none, [0]⟩]) (.cond (.t 35) (.reg false [⟨(some 37), .mv (.t 8), none, []⟩, ⟨(some 38), .callc (.t 37) 107 [(.v (.int .i64 3))], none, [0]⟩]) (.seq (.reg false [⟨(some 40), .bin .eql (.t 13) (.v (.int .i64 19)), none, []⟩, ⟨(some 39), .mv (.t 40), none, [0]⟩]) (.cond (.t 39) (.reg false [⟨(some 41), .mv (.t 8), none, []⟩, ⟨(some 42), .callc (.t 41) 107 [(.v (.int .i64 5))], none, [0]⟩]) (.seq (.seq (.reg false [⟨(some 44), .bin .eql (.t 13) (.v (.int .i64 4)), none, []⟩, ⟨(some 43), .mv (.t 44), none, [0]⟩]) (.cond (.t 43) (.skip) (.reg false [⟨(some 45), .bin .eql (.t 13) (.v (.int .i64 5)), none, []⟩, ⟨(some 43), .mv (.t 45), none, [0]⟩]))) (.cond (.t 43) (.reg true [⟨(some 46), .load none (.t 4), none, []⟩, ⟨(some 47), .nilck (.t 46), none, [0]⟩, ⟨(some 48), .fld 65 (.t 47), none, [1]⟩, ⟨(some 49), .load none (.t 48), none, [2]⟩, ⟨(some 50), .load (some 2) (.t 6), none, []⟩, ⟨(some 51), .build [(.int .i64 0), (.int .i64 0), (.int .i64 0)] [(0, 1, (.v (.int .i64 4))), (1, 2, (.t 50))], none, [4]⟩, ⟨(some 52), .load (some 8) (.t 7), none, []⟩, ⟨none, .mup 117 (.t 49) (.t 51) (.t 52), none, [3, 5, 6, 0, 1, 2, 3, 4, 5, 6]⟩]) (.seq (.reg false [⟨(some 54), .bin .eql (.t 13) (.v (.int .i64 15)), none, []⟩, ⟨(some 53), .mv (.t 54), none, [0]⟩]) (.cond (.t 53) (.seq (.reg false [⟨(some 55), .load none (.t 4), none, []⟩, ⟨(some 56), .fld 2 (.t 5), none, []⟩, ⟨(some 57), .load none (.t 56), none, [1]⟩, ⟨(some 58), .fld 5 (.t 5), none, []⟩, ⟨(some 59), .load none (.t 58), none, [3]⟩, ⟨(some 60), .callh 80 [(.t 55), (.t 57), (.t 59)], none, [0, 2, 4]⟩, ⟨(some 9), .new [(.slice none 0 0), (.slice none 0 0)], none, []⟩, ⟨none, .store 2 (.t 9) (.t 60), none, [6, 5, 5, 0, 1, 2, 3, 4, 5, 6]⟩]) (.reg true [⟨(some 61), .fld 0 (.t 9), none, []⟩, ⟨(some 62), .load none (.t 61), none, [0]⟩, ⟨(some 63), .fld 4 (.t 5), none, []⟩, ⟨(some 64), .load none (.t 63), none, [2]⟩, ⟨(some 65), .fld 0 (.t 9), none, []⟩, ⟨(some 66), .load none (.t 65), none, [4]⟩, ⟨(some 67), .len (.t 66), none, [5]⟩, ⟨(some 68), .bin .rem (.t 64) (.t 67), none, [3, 6]⟩, ⟨(some 69), .load (some 8) (.t 7), none, []⟩, ⟨(some 70), .ixs 8 (.t 62) (.t 68), none, [1, 7, 0, 1, 2, 3, 4, 5, 6, 7, 8]⟩, ⟨none, .store 8 (.t 70) (.t 69), none, [9, 8, 0, 1, 2, 3, 4, 5, 6, 7, 8]⟩])) (.seq (.reg false [⟨(some 72), .bin .eql (.t 13) (.v (.int .i64 17)), none, []⟩, ⟨(some 71), .mv (.t 72), none, [0]⟩]) (.cond (.t 71) (.seq (.reg false [⟨(some 73), .load none (.t 4), none, []⟩, ⟨(some 74), .fld 2 (.t 5), none, []⟩, ⟨(some 75), .load none (.t 74), none, [1]⟩, ⟨(some 76), .fld 5 (.t 5), none, []⟩, ⟨(some 77), .load none (.t 76), none, [3]⟩, ⟨(some 78), .callh 80 [(.t 73), (.t 75), (.t 77)], none, [0, 2, 4]⟩, ⟨(some 10), .new [(.slice none 0 0), (.slice none 0 0)], none, []⟩, ⟨none, .store 2 (.t 10) (.t 78), none, [6, 5, 5, 0, 1, 2, 3, 4, 5, 6]⟩]) (.reg true [⟨(some 79), .fld 1 (.t 10), none, []⟩, ⟨(some 80), .load none (.t 79), none, [0]⟩, ⟨(some 81), .fld 4 (.t 5), none, []⟩, ⟨(some 82), .load none (.t 81), none, [2]⟩, ⟨(some 83), .fld 1 (.t 10), none, []⟩, ⟨(some 84), .load none (.t 83), none, [4]⟩, ⟨(some 85), .len (.t 84), none, [5]⟩, ⟨(some 86), .bin .rem (.t 82) (.t 85), none, [3, 6]⟩, ⟨(some 87), .load (some 8) (.t 7), none, []⟩, ⟨(some 88), .ixs 8 (.t 80) (.t 86), none, [1, 7, 0, 1, 2, 3, 4, 5, 6, 7, 8]⟩, ⟨none, .store 8 (.t 88) (.t 87), none, [9, 8, 0, 1, 2, 3, 4, 5, 6, 7, 8]⟩])) (.skip))))))))))))))))))))))
def prt81 : List PR := []
def ntt81:Nat:=89
def flt81 : List (Nat × List Bool) := [(5000004, List.replicate 1 false), (5000006, List.replicate 1 false), (5000007, List.replicate 1 false), (6000080, List.replicate 1 false), (7000025, List.replicate 107 false), (7000029, List.replicate 107 false), (7000033, List.replicate 107 false), (7000037, List.replicate 107 false), (7000041, List.replicate 107 false)]
theorem bdt81:Try.f81.body=some (Try.f81.body.getD .skip):=by kernel_rfl
theorem cpt81:compC Try.prog Try.f81.ntmps (eqsL ++ flt81) (Try.f81.body.getD .skip)=some pct81:=by kernel_rfl
theorem spt81 [WInv] {env:Env} (hE:EnvOK Try.prog env) {R:(Nat→Hb)→List Hw→(Nat→Hb)→List Hw→Prop} (hR:∀ hp az hp' rs,R hp az hp' rs→az.length≤89∧∃ nc,pwp env pct81 (fun e s=>(e=.normal∨e=.ret)∧s.resHs prt81=some rs∧s.hb=hp') (St.initH nc hp az)):SpecH Try.prog 81 R :=
 fn_sound_h hE (eqsH eqsOK (by kernel_rfl)) mixedOK Try.func81 bdt81 cpt81 (by kernel_rfl) (by kernel_rfl) (by kernel_rfl) hR
def pct107 : PC := .reg true [⟨(some 5), .load none (.t 1), none, []⟩, ⟨(some 6), .nilck (.t 5), none, [0]⟩, ⟨(some 7), .fld 65 (.t 6), none, [1]⟩, ⟨(some 8), .load none (.t 7), none, [2]⟩, ⟨(some 9), .mv (.t 0), none, []⟩, ⟨(some 10), .load (some 2) (.t 2), none, []⟩, ⟨(some 11), .build [(.int .i64 0), (.int .i64 0), (.int .i64 0)] [(0, 1, (.t 9)), (1, 2, (.t 10))], none, [4, 5]⟩, ⟨(some 12), .load none (.t 1), none, []⟩, ⟨(some 13), .nilck (.t 12), none, [7]⟩, ⟨(some 14), .fld 65 (.t 13), none, [8]⟩, ⟨(some 15), .load none (.t 14), none, [9]⟩, ⟨(some 16), .mv (.t 0), none, []⟩, ⟨(some 17), .load (some 2) (.t 2), none, []⟩, ⟨(some 18), .build [(.int .i64 0), (.int .i64 0), (.int .i64 0)] [(0, 1, (.t 16)), (1, 2, (.t 17))], none, [11, 12]⟩, ⟨(some 19), .mlk 117 (.agg [.d (.sc (.int .i64 0)), .d (.sc (.int .i64 0)), .d (.sc (.int .i64 0)), .d (.sc (.int .i64 0)), .d (.sc (.int .i64 0)), .d (.sc (.int .i64 0)), .d (.sc (.int .i64 0)), .d (.sc (.int .i64 0))]) false (.t 15) (.t 18), none, [10, 13]⟩, ⟨(some 20), .load (some 8) (.t 3), none, []⟩, ⟨(some 21), .call 79 [(.t 19), (.t 20)], none, [14, 15]⟩, ⟨none, .mup 117 (.t 8) (.t 11) (.t 21), none, [3, 6, 16, 16, 0, 1, 2, 3, 4, 5, 6, 7, 8, 9, 10, 11, 12, 13, 14, 15, 16]⟩]
def prt107 : List PR := []
def flt107 : List (Nat × List Bool) := []
theorem bdt107:Try.f107.body=some (Try.f107.body.getD .skip):=by kernel_rfl
theorem cpt107:compC Try.prog Try.f107.ntmps (eqsL ++ flt107) (Try.f107.body.getD .skip)=some pct107:=by kernel_rfl
theorem spt107 [WInv] {env:Env} (hE:EnvOK Try.prog env) {R:(Nat→Hb)→List Hw→(Nat→Hb)→List Hw→Prop} (hR:∀ hp az hp' rs,R hp az hp' rs→az.length≤22∧∃ nc,pwp env pct107 (fun e s=>(e=.normal∨e=.ret)∧s.resHs prt107=some rs∧s.hb=hp') (St.initH nc hp az)):SpecH Try.prog 107 R :=
 fn_sound_h hE (eqsH eqsOK (by kernel_rfl)) mixedOK Try.func107 bdt107 cpt107 (by kernel_rfl) (by kernel_rfl) (by kernel_rfl) hR
def pct42 : PC := .seq (.reg false [⟨(some 2), .mv (.v (.int .i64 0)), none, []⟩]) (.seq (.seq (.reg false [⟨(some 9), .mv (.t 0), none, []⟩, ⟨(some 10), .pnil false (.t 9), none, [0]⟩]) (.cond (.t 10) (.seq (.reg false [⟨(some 2), .mv (.v (.int .i64 0)), none, []⟩]) (.ret)) (.skip))) (.seq (.reg false [⟨(some 11), .mv (.t 0), none, []⟩, ⟨(some 12), .nilck (.t 11), none, [0]⟩, ⟨(some 13), .fld 66 (.t 12), none, [1]⟩, ⟨(some 14), .load none (.t 13), none, [2]⟩, ⟨(some 15), .mlen (.t 14), none, [3]⟩, ⟨(some 3), .mv (.t 15), none, [4, 4, 0, 1, 2, 3, 4]⟩]) (.seq (.seq (.reg false [⟨(some 16), .mv (.t 0), none, []⟩, ⟨(some 17), .nilck (.t 16), none, [0]⟩, ⟨(some 18), .fld 65 (.t 17), none, [1]⟩, ⟨(some 19), .load none (.t 18), none, [2]⟩, ⟨(some 20), .hal 21 (.range (.t 19)), none, [3]⟩]) (.block 0 (.loop (.seq (.reg false [⟨(some 21), .next (.t 20), none, []⟩, ⟨(some 22), .ext (.t 21) 0, none, [0]⟩]) (.seq (.cond (.t 22) (.skip) (.exit 0)) (.block 1 (.seq (.reg false [⟨(some 23), .entry (.t 20), none, []⟩, ⟨(some 24), .ext (.t 23) 0, none, [0]⟩, ⟨(some 4), .new [(.int .i64 0), (.int .i64 0), (.int .i64 0)], none, []⟩, ⟨none, .store 3 (.t 4) (.t 24), none, [2, 1, 0, 1, 2]⟩]) (.seq (.reg false [⟨(some 25), .fld 0 (.t 4), none, []⟩, ⟨(some 26), .load none (.t 25), none, [0]⟩]) (.block 2 (.seq (.reg false [⟨(some 30), .bin .eql (.t 26) (.v (.int .i64 1)), none, []⟩, ⟨(some 29), .mv (.t 30), none, [0]⟩]) (.cond (.t 29) (.seq (.reg true [⟨(some 32), .mv (.t 0), none, []⟩, ⟨(some 33), .nilck (.t 32), none, [0]⟩, ⟨(some 34), .fld 65 (.t 33), none, [1]⟩, ⟨(some 35), .load none (.t 34), none, [2]⟩, ⟨(some 36), .fld 1 (.t 4), none, []⟩, ⟨(some 37), .load (some 2) (.t 36), none, [4]⟩, ⟨(some 38), .build [(.int .i64 0), (.int .i64 0), (.int .i64 0)] [(0, 1, (.v (.int .i64 0))), (1, 2, (.t 37))], none, [5]⟩, ⟨(some 39), .mlk 117 (.agg [.d (.sc (.int .i64 0)), .d (.sc (.int .i64 0)), .d (.sc (.int .i64 0)), .d (.sc (.int .i64 0)), .d (.sc (.int .i64 0)), .d (.sc (.int .i64 0)), .d (.sc (.int .i64 0)), .d (.sc (.int .i64 0))]) true (.t 35) (.t 38), none, [3, 6]⟩, ⟨(some 31), .mv (.t 39), none, [7]⟩, ⟨(some 40), .ext (.t 31) 0, none, [8]⟩, ⟨(some 41), .ext (.t 31) 1, none, [8]⟩, ⟨(some 5), .new [(.int .i64 0), (.int .i64 0), (.int .i64 0), (.int .i64 0), (.int .i64 0), (.int .i64 0), (.int .i64 0), (.int .i64 0)], none, []⟩, ⟨none, .store 8 (.t 5) (.t 40), none, [11, 9, 0, 1, 2, 3, 4, 5, 6, 7, 8, 9, 11]⟩, ⟨(some 6), .mv (.t 41), none, [10, 12, 0, 1, 2, 3, 4, 5, 6, 7, 8, 9, 10, 11, 12]⟩]) (.seq (.reg false [⟨(some 42), .mv (.t 6), none, []⟩, ⟨(some 43), .un .not (.t 42), none, [0]⟩]) (.cond (.t 43) (.reg false [⟨(some 44), .mv (.t 3), none, []⟩, ⟨(some 45), .bin .add (.t 44) (.v (.int .i64 1)), none, [0]⟩, ⟨(some 3), .mv (.t 45), none, [1, 0, 1]⟩]) (.skip)))) (.seq (.reg false [⟨(some 47), .bin .eql (.t 26) (.v (.int .i64 5)), none, []⟩, ⟨(some 46), .mv (.t 47), none, [0]⟩]) (.cond (.t 46) (.seq (.reg true [⟨(some 49), .mv (.t 0), none, []⟩, ⟨(some 50), .nilck (.t 49), none, [0]⟩, ⟨(some 51), .fld 66 (.t 50), none, [1]⟩, ⟨(some 52), .load none (.t 51), none, [2]⟩, ⟨(some 53), .fld 1 (.t 4), none, []⟩, ⟨(some 54), .fld 0 (.t 53), none, [4]⟩, ⟨(some 55), .load none (.t 54), none, [5]⟩, ⟨(some 56), .mlk 3 (.agg [.d (.sc (.slice none 0 0)), .d (.sc (.slice none 0 0))]) true (.t 52) (.t 55), none, [3, 6]⟩, ⟨(some 48), .mv (.t 56), none, [7]⟩, ⟨(some 57), .ext (.t 48) 0, none, [8]⟩, ⟨(some 58), .ext (.t 48) 1, none, [8]⟩, ⟨(some 7), .new [(.slice none 0 0), (.slice none 0 0)], none, []⟩, ⟨none, .store 2 (.t 7) (.t 57), none, [11, 9, 0, 1, 2, 3, 4, 5, 6, 7, 8, 9, 11]⟩, ⟨(some 8), .mv (.t 58), none, [10, 12, 0, 1, 2, 3, 4, 5, 6, 7, 8, 9, 10, 11, 12]⟩]) (.seq (.reg false [⟨(some 59), .mv (.t 8), none, []⟩, ⟨(some 60), .un .not (.t 59), none, [0]⟩]) (.cond (.t 60) (.reg false [⟨(some 61), .mv (.t 3), none, []⟩, ⟨(some 62), .bin .add (.t 61) (.v (.int .i64 1)), none, [0]⟩, ⟨(some 3), .mv (.t 62), none, [1, 0, 1]⟩]) (.skip)))) (.reg false [⟨(some 27), .mv (.t 3), none, []⟩, ⟨(some 28), .bin .add (.t 27) (.v (.int .i64 1)), none, [0]⟩, ⟨(some 3), .mv (.t 28), none, [1, 0, 1]⟩])))))))))))))) (.seq (.reg false [⟨(some 63), .mv (.t 3), none, []⟩, ⟨(some 2), .mv (.t 63), none, [0, 0]⟩]) (.ret)))))
def prt42 : List PR := [.t 2]
abbrev mst42_0 : List Nat := [21, 22, 23, 24, 4, 25, 26, 30, 29, 32, 33, 34, 35, 36, 37, 38, 39, 31, 40, 41, 5, 6, 42, 43, 44, 45, 3, 47, 46, 49, 50, 51, 52, 53, 54, 55, 56, 48, 57, 58, 7, 8, 59, 60, 61, 62, 27, 28]
abbrev ost42_0 : List Nat := [4, 5, 7]
def flt42 : List (Nat × List Bool) := []
theorem bdt42:Try.f42.body=some (Try.f42.body.getD .skip):=by kernel_rfl
theorem cpt42:compC Try.prog Try.f42.ntmps (eqsL ++ flt42) (Try.f42.body.getD .skip)=some pct42:=by kernel_rfl
theorem sqt42 [WInv] {env:Env} (hE:EnvOK Try.prog env) {R:(Nat→Hb)→List Hw→((Nat→Hb)→List Hw→Prop)→Prop} (hR:∀ hp az Post,R hp az Post→az.length≤64∧∃ nc,pwp env pct42 (fun e s=>(e=.normal∨e=.ret)∧∃ hp' rs,s.resHs prt42=some rs∧(∀ b,hp' b=s.hb b∨(hp' b=.dead∧s.hb b≠.no))∧Post hp' rs) (St.initH nc hp az)):SpecP Try.prog 42 R :=
 fn_sound_p hE (eqsH eqsOK (by kernel_rfl)) mixedOK Try.func42 bdt42 cpt42 (by kernel_rfl) (by kernel_rfl) (by kernel_rfl) hR
end Go.Proofs.Ytffcpijeebagfaa
end
section
namespace Go.Proofs.Ytffcpijeebagfaa
open Go Go.RowKit
set_option maxRecDepth 100000
set_option maxHeartbeats 4000000
def ckRow (c:Ck):List Dt:=c.map dI
def ckPa (c:Ck):Pa:=.agg (ckRow c)
def ckCells (c:Ck):List Cl:=c.map fun x=>.d (dI x)
theorem ckCells_dt (c:Ck):allSome ((ckCells c).map Cl.dt)=some (ckRow c):=by
 induction c with
 | nil=>rfl
 | cons x c ih =>
   show (allSome ((ckCells c).map Cl.dt)).map (dI x :: ·)=_
   rw [ih];rfl
theorem ckRow_cells (c:Ck):(ckRow c).map Cl.d=ckCells c:=by unfold ckRow ckCells;rw [List.map_map];rfl
theorem ckCells_length (c:Ck):(ckCells c).length=c.length:=List.length_map ..
theorem ckCells_get (c:Ck) (i:Nat) (x:Int) (h:c[i]? = some x):(ckCells c)[i]? = some (.d (dI x)):=by unfold ckCells;rw [List.getElem?_map,h];rfl
theorem ckCells_set (c:Ck) (i:Nat) (x:Int) (h:i < c.length):wrAt (ckCells c) i [.d (dI x)]=ckCells (c.set i x):=by
 induction c generalizing i with
 | nil=>simp at h
 | cons y c ih =>
   cases i with
   | zero =>
     simp only [ckCells,List.map_cons,wrAt,List.set_cons_zero]
     congr 1
     cases c <;> rfl
   | succ i =>
     simp only [ckCells,List.map_cons,List.set_cons_succ,wrAt]
     congr 1
     exact ih i (by simpa using h)
theorem wrAt_full {cs ds:List Cl} (h:cs.length=ds.length):wrAt cs 0 ds=ds:=by
 induction cs generalizing ds with
 | nil=>cases ds with
   | nil=>rfl
   | cons d ds=>simp at h
 | cons c cs ih=>cases ds with
   | nil=>simp at h
   | cons d ds =>
     simp only [wrAt];rw [ih (by simpa using h)]
theorem wr_new8 {c:Ck} (h:c.length=8):wrAt [.d (.sc (.int .i64 0)),.d (.sc (.int .i64 0)),.d (.sc (.int .i64 0)),.d (.sc (.int .i64 0)),.d (.sc (.int .i64 0)),.d (.sc (.int .i64 0)),.d (.sc (.int .i64 0)),.d (.sc (.int .i64 0))] 0 (ckCells c)=ckCells c :=
 wrAt_full (by rw [ckCells_length,h];rfl)
def joinTo (a b:Ck) (k:Nat):Ck:=joinC (a.take k) (b.take k) ++ a.drop k
theorem joinTo_zero (a b:Ck):joinTo a b 0=a:=by simp [joinTo,joinC]
theorem joinTo_all {a b:Ck} (ha:a.length=8) (hb:b.length=8):joinTo a b 8=joinC a b:=by
 unfold joinTo;rw [List.take_of_length_le (by omega),List.take_of_length_le (by omega),List.drop_eq_nil_of_le (by omega),List.append_nil]
theorem joinTo_length {a b:Ck} (ha:a.length=8) (hb:b.length=8) {k:Nat} (hk:k≤8):(joinTo a b k).length=8:=by
 unfold joinTo joinC;rw [List.length_append,List.length_zipWith,List.length_take,List.length_take,List.length_drop];omega
theorem joinTo_get {a b:Ck} (ha:a.length=8) (hb:b.length=8) {k:Nat} (hk:k < 8) {x:Int} (hx:a[k]? = some x):(joinTo a b k)[k]? = some x:=by
 have hl:(joinC (a.take k) (b.take k)).length=k:=by unfold joinC;rw [List.length_zipWith,List.length_take,List.length_take];omega
 unfold joinTo;rw [List.getElem?_append_right (by omega),hl,Nat.sub_self,List.getElem?_drop,Nat.add_zero];exact hx
theorem joinTo_succ {a b:Ck} (ha:a.length=8) (hb:b.length=8) {k:Nat} (hk:k < 8) {x y:Int} (hx:a[k]? = some x) (hy:b[k]? = some y):(joinTo a b k).set k (if y > x then y else x)=joinTo a b (k+1):=by
 have hl:(joinC (a.take k) (b.take k)).length=k:=by unfold joinC;rw [List.length_zipWith,List.length_take,List.length_take];omega
 unfold joinTo;rw [List.set_append_right _ _ (by omega),hl,Nat.sub_self,List.drop_eq_getElem_cons (by omega),List.set_cons_zero];have e1:a.take (k+1)=a.take k ++ [x]:=by rw [List.take_add_one,hx];rfl
 have e2:b.take (k+1)=b.take k ++ [y]:=by rw [List.take_add_one,hy];rfl
 rw [e1,e2];unfold joinC;rw [List.zipWith_append (by rw [List.length_take,List.length_take];omega)]
 simp
def R_join (ps rs:List Pa):Prop:=∃ a b:Ck,ps=[ckPa a,ckPa b]∧(a.length=8∧b.length=8)∧rs=[ckPa (joinC a b)]
theorem s_join:Spec Try.prog 79 R_join:=by
 refine sp79 EnvOK.e0 ?_;rintro ps rs ⟨a,b,rfl,⟨ha,hb⟩,rfl⟩;refine ⟨by simp,?_⟩;unfold pc79;refine pwp_start ?_;simp only [↓evP,evB,stB,reduceIte,reduceCtorEq,Nat.reduceEqDiff,Nat.reduceAdd,Nat.reduceMul,Nat.reduceLeDiff,Nat.reduceLT,Nat.reduceSub,Nat.reduceBEq,ckPa,ckRow_cells];refine pwp_loopW ms79_0 os79_0 (fun m st=>∃ k:Nat,m=8 - k∧k≤8∧st.sl 6=aI k∧st.gen 2=1∧st.ob 2=.cells (ckCells (joinTo a b k))) 8 ?_ ?_
 ·exact ⟨0,rfl,Nat.zero_le _,by simp only [stB,reduceIte,reduceCtorEq,Nat.reduceEqDiff,Nat.reduceAdd,Nat.reduceMul,Nat.reduceLeDiff,Nat.reduceLT,Nat.reduceSub,Nat.reduceBEq];rfl,by simp only [stB,reduceIte,reduceCtorEq,Nat.reduceEqDiff,Nat.reduceAdd,Nat.reduceMul,Nat.reduceLeDiff,Nat.reduceLT,Nat.reduceSub,Nat.reduceBEq],by simp only [stB,reduceIte,reduceCtorEq,Nat.reduceEqDiff,Nat.reduceAdd,Nat.reduceMul,Nat.reduceLeDiff,Nat.reduceLT,Nat.reduceSub,Nat.reduceBEq,joinTo_zero]⟩
 ·rintro m j ⟨k,rfl,hk,h6,g2,o2⟩;simp only [stB,reduceIte,reduceCtorEq,seval] at h6 g2 o2
  rcases Nat.lt_or_ge k 8 with hlt | hge
  ·obtain ⟨x,hx⟩:∃ x,a[k]? = some x:=⟨_,List.getElem?_eq_getElem (by omega)⟩
   obtain ⟨y,hy⟩:∃ y,b[k]? = some y:=⟨_,List.getElem?_eq_getElem (by omega)⟩
   have hlt':(k:Int) < 8:=by omega
   have h0:(0:Int)≤(k:Int):=by omega
   have hlt8:(k:Int) < ((8:Nat):Int):=by omega
   have e1:=ckCells_get _ _ _ (joinTo_get ha hb hlt hx);have e2:=ckCells_get _ _ _ hy;have e3:k+1≤(ckCells (joinTo a b k)).length:=by rw [ckCells_length,joinTo_length ha hb hk];omega
   have e4:=(ckCells_set (joinTo a b k) k (if y > x then y else x) (by rw [joinTo_length ha hb hk];omega)).trans (congrArg ckCells (joinTo_succ ha hb hlt hx hy))
   simp only [↓evP,evB,stB,reduceIte,reduceCtorEq,seval,h6,g2,o2,hlt',hlt8,h0,e1,e2,e3,e4,Nat.mul_one,List.foldl_cons,List.foldl_nil];refine ⟨(by unfold Drw;kernel_rfl),?_⟩
   exact ⟨_,by omega,(by repeat' (first | assumption | exact within_over.mpr trivial | exact Within.refl _ _ _ | (refine within_ap ?_ rfl rfl) | (refine within_ap0 ?_ rfl))),k+1,rfl,by omega,by simp only [stB,reduceIte,reduceCtorEq,seval,h6];rw [wrN (by omega)],by simp only [stB,reduceIte,reduceCtorEq,seval,g2],by simp only [stB,reduceIte,reduceCtorEq,seval,o2,wrF_cells];rw [e4]⟩
  ·have hk8:k=8:=by omega
   subst hk8;have hlt':¬ ((8:Nat):Int) < 8:=by omega
   have e3:0+8≤(ckCells (joinTo a b 8)).length:=by rw [ckCells_length,joinTo_length ha hb (by omega)];omega
   have e4:(ckCells (joinTo a b 8)).take 8=ckCells (joinTo a b 8):=List.take_of_length_le (by rw [ckCells_length,joinTo_length ha hb (by omega)];omega)
   have e5:(ckCells (joinTo a b 8)).length=8:=by rw [ckCells_length,joinTo_length ha hb (by omega)]
   simp only [↓evP,evB,stB,reduceIte,reduceCtorEq,seval,h6,g2,o2,hlt',e3,e4,e5,wr_new8 (joinTo_length ha hb (Nat.le_refl 8)),ckCells_dt,pr79];rw [joinTo_all ha hb]
def cksPa (l:List Ck):Pa:=.one (.im (l.map ckRow))
theorem ld8 {a:Ck} (ha:a.length=8):0+8≤(ckCells a).length∧(ckCells a).take 8=ckCells a:=by
 have h:(ckCells a).length=8:=by rw [ckCells_length,ha]
 exact ⟨by omega,List.take_of_length_le (by omega)⟩
def tickC (c:Ck) (g:Int):Ck:=if 0≤g∧g < 8∧c.getD g.toNat 0 < 9223372036854775807 then c.set g.toNat (c.getD g.toNat 0+1) else c
theorem tickC_length {c:Ck} {g:Int}:(tickC c g).length=c.length:=by unfold tickC;split <;> simp
theorem tick_get {c:Ck} (hc:c.length=8) {g:Int} (h0:0≤g) (h8:g < 8):c[g.toNat]? = some (c.getD g.toNat 0):=by
 rw [List.getD_eq_getElem?_getD,List.getElem?_eq_getElem (show g.toNat < c.length by omega)];rfl
def OK64 (c:Ck):Prop:=∀ x,x ∈ c→-9223372036854775808≤x∧x≤9223372036854775807
def R_tick (ps rs:List Pa):Prop:=∃ (c:Ck) (g:Int),ps=[ckPa c,pI g]∧(c.length=8∧OK64 c)∧rs=[ckPa (tickC c g)]
theorem R_tick.mk {c:Ck} {g:Int} (h:c.length=8) (ho:OK64 c):R_tick [ckPa c,pI g] [ckPa (tickC c g)]:=⟨c,g,rfl,⟨h,ho⟩,rfl⟩
theorem s_cTick:Spec Try.prog 77 R_tick:=by
 refine sp77 EnvOK.e0 ?_;rintro ps rs ⟨c,g,rfl,⟨hc,ho⟩,rfl⟩;refine ⟨by simp,?_⟩;obtain ⟨a1,a2⟩:=ld8 hc;have a5:(ckCells c).length=8:=by rw [ckCells_length,hc]
 unfold pc77;refine pwp_start ?_;simp only [↓evP,evB,stB,reduceIte,reduceCtorEq,seval,ckPa,ckRow_cells];have done:tickC c g=c→True:=fun _=>trivial
 by_cases h0:g≥0
 case neg =>
  have ht:tickC c g=c:=by unfold tickC;rw [if_neg (by omega)]
  simp only [↓evP,evB,stB,reduceIte,reduceCtorEq,seval,h0,decide_false,a1,a2,a5,wr_new8 hc,ckCells_dt,ht,pr77]
 by_cases h8:g < 8
 case neg =>
  have ht:tickC c g=c:=by unfold tickC;rw [if_neg (by omega)]
  simp only [↓evP,evB,stB,reduceIte,reduceCtorEq,seval,h0,h8,decide_true,decide_false,a1,a2,a5,wr_new8 hc,ckCells_dt,ht,pr77]
 have hg:=tick_get hc h0 h8;have e1:=ckCells_get _ _ _ hg;have h8':g < ((8:Nat):Int):=by omega
 have h0':0≤g:=h0
 by_cases hm:c.getD g.toNat 0 < 9223372036854775807
 ·have ht:tickC c g=c.set g.toNat (c.getD g.toNat 0+1):=by unfold tickC;rw [if_pos ⟨h0,h8,hm⟩]
  have hw:IntKind.i64.wrap (c.getD g.toNat 0+1)=c.getD g.toNat 0+1:=wr64 (by have:=(ho _ (List.mem_of_getElem? hg)).1;omega) (by omega)
  have e4:=ckCells_set c g.toNat (c.getD g.toNat 0+1) (by omega);have e3:g.toNat+1≤(ckCells c).length:=by omega
  have l2:(c.set g.toNat (c.getD g.toNat 0+1)).length=8:=by rw [List.length_set,hc]
  obtain ⟨b1,b2⟩:=ld8 l2;have b5:(ckCells (c.set g.toNat (c.getD g.toNat 0+1))).length=8:=by rw [ckCells_length,l2]
  simp only [↓evP,evB,stB,reduceIte,reduceCtorEq,seval,h0,h0',h8,h8',hm,e1,e3,hw,Nat.mul_one,decide_true,decide_false,wrF_cells,e4,b1,b2,b5,wr_new8 l2,ckCells_dt,ht,pr77]
 ·have ht:tickC c g=c:=by unfold tickC;rw [if_neg (by omega)]
  simp only [↓evP,evB,stB,reduceIte,reduceCtorEq,seval,h0,h0',h8,h8',hm,e1,Nat.mul_one,decide_true,decide_false,a1,a2,a5,wr_new8 hc,ckCells_dt,ht,pr77]
end Go.Proofs.Ytffcpijeebagfaa
end
section
namespace Go.Proofs.Ytffcpijeebagfaa
open Go Go.RowKit
section
def paHw:Pa→Hw
 | .one x=>.one (.d x)
 | .agg xs=>.agg (xs.map .d)
theorem paHw_bv (p:Pa):(paHw p).bv=p.bv:=by
 cases p with
 | one x=>rfl
 | agg xs =>
   show Bv.agg ((xs.map Hc.d).map Hc.cl)=.agg (xs.map Cl.d)
   rw [List.map_map];rfl
theorem paHw_rp {W:Wit} {w:World} {p:Pa} {v:Value}:RHw W w (paHw p) v↔RP W.S w p v:=by
 unfold RHw;rw [paHw_bv]
 cases p with
 | one x=>exact Iff.rfl
 | agg xs =>
   constructor
   ·rintro ⟨arr,h1,h2,h3⟩;refine ⟨arr,h1,by simpa using h2,fun i x u e1 e2=>h3 i (.d x) u (by rw [List.getElem?_map,e1];rfl) (by rw [Array.getElem?_toList];exact e2)⟩
   ·rintro ⟨arr,h1,h2,h3⟩;refine ⟨arr,h1,by simpa using h2,fun i c u e1 e2=>?_⟩;rw [List.getElem?_map,Option.map_eq_some_iff] at e1;obtain ⟨x,hx,rfl⟩:=e1;exact h3 i x u hx (by rw [Array.getElem?_toList] at e2;exact e2)
theorem paHws {W:Wit} {w:World} {ps:List Pa} {vals:Array Value}:RHws W w (ps.map paHw) vals↔RPs W.S w ps vals:=by
 constructor
 ·rintro ⟨h1,h2⟩;exact ⟨by simpa using h1,fun i p u e1 e2=>paHw_rp.1 (h2 i _ u (by rw [List.getElem?_map,e1];rfl) e2)⟩
 ·rintro ⟨h1,h2⟩;refine ⟨by simpa using h1,fun i p u e1 e2=>?_⟩;rw [List.getElem?_map,Option.map_eq_some_iff] at e1;obtain ⟨x,hx,rfl⟩:=e1;exact paHw_rp.2 (h2 i x u hx e2)
theorem paRR {W:Wit} {w:World} {rs:List Pa} {u:Value}:RRH W w (rs.map paHw) u↔RR W.S w rs u:=by
 match rs with
 | []=>exact Iff.rfl
 | [p]=>exact paHw_rp
 | p :: q :: r =>
   constructor
   ·rintro ⟨vs,h1,h2⟩;exact ⟨vs,h1,paHws.1 h2⟩
   ·rintro ⟨vs,h1,h2⟩;exact ⟨vs,h1,paHws.2 h2⟩
theorem RHp.upd {W W':Wit} {w w':World} {hp:Nat→Hb} (h:RHp W w hp) (hf:Fol W G0 O0 w W' G0 O0 w') {b:Nat} {x:Hb} (hx:x≠.no) (hlv:∀ m,W'.lv m↔m=b∨W.lv m) (hhf:∀ m,m≠b→W'.hf m=W.hf m)
 (hS:∀ k,k < w.heap.size→W'.S k=W.S k) (hsz:w.heap.size≤w'.heap.size) (hbl:∀ m,m≠b→∀ k,hcl W m (hp m) k→w'.heap[k]? = w.heap[k]?) (hn:RH W' G0 O0 w' b x)
 (hm:∀ k,hcl W' b x k→W'.S k=0∧k < w'.heap.size∧∀ m,m≠b→¬ hcl W m (hp m) k):RHp W' w' (up hp b x):=by
 have hat:∀ m,m≠b→up hp b x m=hp m:=fun m hm2=>by rw [up_at,if_neg hm2]
 have hself:up hp b x b=x:=by rw [up_at,if_pos rfl]
 have hc:∀ m,m≠b→∀ k,hcl W' m (up hp b x m) k↔hcl W m (hp m) k:=fun m hm2 k=>by
  rw [hat m hm2];exact hcl.fol hf (fun hne=>(h.lv m).2 hne) (hhf m hm2) k
 refine ⟨fun m=>?_,fun m k hk=>?_,fun m=>?_,fun m m' k e1 e2=>?_⟩
 ·rw [hlv]
  by_cases hmb:m=b
  ·subst hmb;rw [hself];exact ⟨fun _=>hx,fun _=>.inl rfl⟩
  ·rw [hat m hmb,←h.lv m];exact ⟨fun q=>q.resolve_left hmb,.inr⟩
 ·by_cases hmb:m=b
  ·subst hmb;rw [hself] at hk;exact ⟨(hm k hk).1,(hm k hk).2.1⟩
  ·obtain ⟨q1,q2⟩:=h.mine m k ((hc m hmb k).1 hk);exact ⟨by rw [hS k q2];exact q1,by omega⟩
 ·by_cases hmb:m=b
  ·subst hmb;rw [hself];exact hn
  ·rw [hat m hmb];exact RH.fol hf (h.at_ m) (fun hne=>(h.lv m).2 hne) (hhf m hmb) (hbl m hmb)
 ·by_cases hmb:m=b
  ·by_cases hmb':m'=b
   ·rw [hmb,hmb']
   ·subst hmb;rw [hself] at e1;exact absurd ((hc m' hmb' k).1 e2) ((hm k e1).2.2 m' hmb')
  ·by_cases hmb':m'=b
   ·subst hmb';rw [hself] at e2;exact absurd ((hc m hmb k).1 e1) ((hm k e2).2.2 m hmb)
   ·exact h.ex m m' k ((hc m hmb k).1 e1) ((hc m' hmb' k).1 e2)
theorem hw_head {W:Wit} {w:World} {b:Nat} {az:List Hw} {vals:Array Value} (h:RHws W w (.one (.h (.v b)) :: az) vals):W.lv b∧∃ vals':Array Value,vals=#[W.nv b] ++ vals'∧RHws W w az vals':=by
 obtain ⟨h1,h2⟩:=h;have hpos:0 < vals.size:=by rw [←h1];simp
 have h0:=h2 0 _ vals[0] rfl (Array.getElem?_eq_getElem hpos);obtain ⟨e1,e2,e3⟩:vals[0]=rv W (.v b)∧_∧W.lv b:=h0;refine ⟨e3,vals.extract 1 vals.size,?_,?_,fun i x u q1 q2=>h2 (i+1) x u q1 ?_⟩
 ·apply Array.ext'
  have:vals.toList≠[]:=fun hn=>by
   have h3:=congrArg List.length hn;rw [Array.length_toList] at h3;have h4:vals.size=0:=h3;omega
  obtain ⟨y,ys,hy⟩:=List.exists_cons_of_ne_nil this;have hv:vals=(y :: ys).toArray:=by apply Array.ext';simpa using hy
  subst hv;have:y=W.nv b:=e1;subst this;simp
 ·simp;simp at h1;omega
 ·rw [Array.getElem?_extract] at q2;split at q2
  ·rw [←q2,Nat.add_comm]
  ·cases q2
theorem but_ext {W:Wit} {w w':World} {fp:Nat→Prop} {S':Nat→Nat} (h:ButF fp w w') (h0:∀ b,fp b→W.S b=0) (hS:∀ b,b < w.heap.size→S' b=W.S b):Ext W.S S' w w':=fun b i h1 h2=>by
 have hlt:=cell_lt h2;have hnf:¬ fp b:=fun q=>by rw [h0 b q] at h1;omega
 exact ⟨by rw [hS b hlt];exact h1,by simp [World.cell?,h.block b hlt hnf]⟩
variable {P:Program} {f:Nat}
theorem SpecA.toH [I:WInv] {R:Option HP→List Pa→HP→List Pa→Prop} (h:SpecA P f R):SpecH P f (fun hp az hp' rs=>∃ b H ps H' rs',az=.one (.h (.v b)) :: ps.map paHw∧hp b=.ab H∧R (some H) ps H' rs'∧hp'=up hp b (.ab H')∧rs=rs'.map paHw):=by
 rintro hp az hp' rs ⟨b,H,ps,H',rs',rfl,hb,hR,rfl,rfl⟩ W w vals hI hrp hvals;obtain ⟨hlb,vals',rfl,hv'⟩:=hw_head hvals;have hat:H.r w (W.nv b) (W.hf b):=by have:=hrp.at_ b;rw [hb] at this;exact this
 have hmine:∀ k,W.hf b k→W.S k=0∧k < w.heap.size:=fun k hk=>hrp.mine b k (by rw [hb];exact hk)
 refine (h _ _ _ _ hR W.S w vals' (hI w ⟨rfl,rfl,rfl,Nat.le_refl _,fun _ _ _=>rfl⟩) (paHws.1 hv') (W.nv b) (W.hf b) hat (fun k hk=>(hmine k hk).1)).mono ?_;rintro e w' ⟨u,S',fp',rfl,q1,q2,q3,q4,q5⟩
 obtain ⟨W',hW'⟩:∃ W':Wit,{ W with S:=S',hf:=up W.hf b fp' }=W':=⟨_,rfl⟩
 have e1:W'.S=S':=by rw [←hW']
 have e2:W'.nm=W.nm∧W'.nv=W.nv∧W'.lv=W.lv:=by rw [←hW'];exact ⟨rfl,rfl,rfl⟩
 have e3:W'.hf=up W.hf b fp':=by rw [←hW']
 have hfol:Fol W G0 O0 w W' G0 O0 w':=⟨by rw [e1];exact but_ext q3 (fun k hk=>(hmine k hk).1) q5,fun _=>Nat.le_refl _,fun _ _=>by rw [←hW'],fun o E sz n' _ ho=>(by cases ho),fun _ _=>by rw [←hW'],fun m hm=>⟨by rw [e2.2.2];exact hm,by rw [e2.1],by rw [e2.2.1]⟩,by rw [←hW']⟩
 have hsub:∀ k,W.hf b k→hpFp W hp k:=fun k hk=>⟨b,by rw [hb];exact hk⟩
 have hrp':RHp W' w' (up hp b (.ab H')):=by
  refine hrp.upd hfol (by simp) (fun m=>?_) (fun m hm=>by rw [e3,up_at,if_neg hm]) (fun k hk=>by rw [e1];exact q5 k hk) q3.size (fun m hm k hk=>?_) ?_ (fun k hk=>?_)
  ·rw [e2.2.2];exact ⟨.inr,fun q=>q.elim (fun q=>by rw [q];exact hlb) id⟩
  ·have:=(hrp.mine m k hk).2;refine q3.block k this (fun hf2=>hm (hrp.ex m b k hk (by rw [hb];exact hf2)))
  ·show H'.r w' (W'.nv b) (W'.hf b)
   rw [e2.2.1,e3,up_at,if_pos rfl];exact q2
  ·have hk':W'.hf b k:=hk;rw [e3,up_at,if_pos rfl] at hk';obtain ⟨r1,r2⟩:=q4 k hk';refine ⟨by rw [e1];exact r2,H'.lt _ _ _ _ q2 hk',fun m hm hk2=>?_⟩
   rcases r1 with r1 | r1
   ·exact hm (hrp.ex m b k hk2 (by rw [hb];exact r1))
   ·have:=(hrp.mine m k hk2).2;omega
 refine ⟨u,W',rfl,paRR.2 (by rw [e1];exact q1),hrp',fun m hm=>⟨by rw [e2.2.2];exact hm,by rw [e2.1],by rw [e2.2.1]⟩,⟨q3.os,q3.tape,q3.output,q3.size,fun k hk hn=>q3.block k hk (fun q=>hn (hsub k q))⟩,fun k hk=>?_,fun k hk=>by rw [e1];exact q5 k hk⟩
 obtain ⟨m,hm⟩:=hk
 by_cases hmb:m=b
 ·subst hmb;rw [up_at,if_pos rfl] at hm;have hk':W'.hf m k:=hm;rw [e3,up_at,if_pos rfl] at hk';exact (q4 k hk').1.imp (hsub k) id
 ·rw [up_at,if_neg hmb] at hm;refine .inl ⟨m,(hcl.fol hfol (fun hne=>(hrp.lv m).2 hne) (by rw [e3,up_at,if_neg hmb]) k).1 hm⟩
theorem new_rhp {W:Wit} {w w':World} {hp:Nat→Hb} {b:Nat} {H:HP} {S':Nat→Nat} {adr:Value} {fp':Nat→Prop} (hrp:RHp W w hp) (hb:hp b=.no) (hone:adr.oneCell'=true) (hr:H.r w' adr fp') (hbe:Below w.heap.size w w') (hfp:∀ k,fp' k→w.heap.size≤k∧S' k=0) (hS:∀ k,k < w.heap.size→S' k=W.S k)
 {W':Wit} (hW':W'={ W with S:=S',nv:=up W.nv b adr,hf:=up W.hf b fp',lv:=fun m=>m=b∨W.lv m }) :
 RHp W' w' (up hp b (.ab H))∧(∀ m,W.lv m→W'.lv m∧W'.nm m=W.nm m∧W'.nv m=W.nv m)∧ButF (hpFp W hp) w w'∧(∀ k,hpFp W' (up hp b (.ab H)) k→hpFp W hp k∨w.heap.size≤k)∧(∀ k,k < w.heap.size→W'.S k=W.S k)∧RHw W' w' (.one (.h (.v b))) adr:=by
 have hnl:¬ W.lv b:=fun q=>(hrp.lv b).1 q hb
 have hne:∀ m,W.lv m→m≠b:=fun m hm e=>hnl (e ▸ hm)
 have e1:W'.S=S':=by rw [hW']
 have hnm:∀ m,W.lv m→W'.lv m∧W'.nm m=W.nm m∧W'.nv m=W.nv m:=fun m hm=>by
  rw [hW'];exact ⟨.inr hm,rfl,by show up W.nv b adr m=_;rw [up_at,if_neg (hne m hm)]⟩
 have hfol:Fol W G0 O0 w W' G0 O0 w':=⟨by
  rw [e1];exact but_ext (fp:=fun _=>False) ⟨hbe.os,hbe.tape,hbe.output,hbe.size,fun k hk _=>hbe.block k hk⟩ (fun _ q=>q.elim) hS,fun _=>Nat.le_refl _,fun _ _=>by rw [hW'],fun o E sz n' _ ho=>(by cases ho),fun _ _=>by rw [hW'],hnm,by rw [hW']⟩
 have ehf:W'.hf=up W.hf b fp':=by rw [hW']
 have env':W'.nv b=adr:=by rw [hW'];show up W.nv b adr b=_;rw [up_at,if_pos rfl]
 have hself:W'.hf b=fp':=by rw [ehf,up_at,if_pos rfl]
 refine ⟨hrp.upd hfol (by simp) (fun m=>by rw [hW']) (fun m hm=>by rw [ehf,up_at,if_neg hm]) (fun k hk=>by rw [e1];exact hS k hk) hbe.size (fun m hm k hk=>hbe.block k (hrp.mine m k hk).2) ?_ (fun k hk=>?_),hnm,⟨hbe.os,hbe.tape,hbe.output,hbe.size,fun k hk _=>hbe.block k hk⟩,fun k ⟨m,hm⟩=>?_,fun k hk=>by rw [e1];exact hS k hk,?_⟩
 ·show H.r w' (W'.nv b) (W'.hf b)
  rw [env',hself];exact hr
 ·have hk':W'.hf b k:=hk;rw [hself] at hk';refine ⟨by rw [e1];exact (hfp k hk').2,H.lt _ _ _ _ hr hk',fun m hm hk2=>?_⟩
  have:=(hrp.mine m k hk2).2;have:=(hfp k hk').1;omega
 ·by_cases hmb:m=b
  ·subst hmb;rw [up_at,if_pos rfl] at hm;have hk':W'.hf m k:=hm;rw [hself] at hk';exact .inr (hfp k hk').1
  ·rw [up_at,if_neg hmb] at hm;exact .inl ⟨m,(hcl.fol hfol (fun hne=>(hrp.lv m).2 hne) (by rw [ehf,up_at,if_neg hmb]) k).1 hm⟩
 ·refine ⟨env'.symm,hone,?_⟩
  show W'.lv b
  rw [hW'];exact .inl rfl
theorem SpecA.toHn [I:WInv] {R:Option HP→List Pa→HP→List Pa→Prop} (h:SpecA P f R):SpecH P f (fun hp az hp' rs=>∃ b ps H',az=ps.map paHw∧hp b=.no∧R none ps H' []∧hp'=up hp b (.ab H')∧rs=[.one (.h (.v b))]):=by
 rintro hp az hp' rs ⟨b,ps,H',rfl,hb,hR,rfl,rfl⟩ W w vals hI hrp hvals;refine (h _ _ _ _ hR W.S w vals (hI w ⟨rfl,rfl,rfl,Nat.le_refl _,fun _ _ _=>rfl⟩) (paHws.1 hvals)).mono ?_;rintro e w' ⟨u,S',adr,fp',rfl,q1,q2,q3,q4,q5,q6⟩;obtain ⟨r1,r2,r3,r4,r5,r6⟩:=new_rhp hrp hb q2 q3 q4 q5 q6 rfl;have hu:u=adr:=q1;exact ⟨u,_,rfl,by rw [hu];exact r6,r1,r2,r3,r4,r5⟩
theorem SpecC.toH [I:WInv] {R:HP→HP→Prop} (h:SpecC P f R):SpecH P f (fun hp az hp' rs=>∃ b H b2 H2,az=[.one (.h (.v b))]∧hp b=.ab H∧hp b2=.no∧R H H2∧hp'=up hp b2 (.ab H2)∧rs=[.one (.h (.v b2))]):=by
 rintro hp az hp' rs ⟨b,H,b2,H2,rfl,hb,hb2,hR,rfl,rfl⟩ W w vals hI hrp hvals;obtain ⟨hlb,vals',rfl,hv'⟩:=hw_head hvals
 have hz:vals'=#[]:=by
  have:=hv'.1;simp at this;exact Array.size_eq_zero_iff.1 this.symm
 subst hz;have hat:H.r w (W.nv b) (W.hf b):=by have:=hrp.at_ b;rw [hb] at this;exact this
 refine (h _ _ hR w (W.nv b) (W.hf b) (hI w ⟨rfl,rfl,rfl,Nat.le_refl _,fun _ _ _=>rfl⟩) hat).mono ?_;rintro e w' ⟨adr,fp',rfl,q2,q3,q4,q5⟩;obtain ⟨r1,r2,r3,r4,r5,r6⟩:=new_rhp (S':=fun k=>if k < w.heap.size then W.S k else 0) hrp hb2 q2 q3 q4 (fun k hk=>⟨q5 k hk,if_neg (by have:=q5 k hk;omega)⟩) (fun k hk=>if_pos hk) rfl
 exact ⟨adr,_,rfl,r6,r1,r2,r3,r4,r5⟩
theorem SpecP.toS [I:WInv] {R:(Nat→Hb)→List Hw→((Nat→Hb)→List Hw→Prop)→Prop} (h:SpecP P f R):Spec P f (fun ps rs=>∃ Post,R (fun _=>.no) (ps.map paHw) Post∧∀ hp' rs',Post hp' rs'→rs'=rs.map paHw):=by
 rintro ps rs ⟨Post,hR,hP⟩ S w vals hI hvals;have hemp:∀ (W:Wit) k,¬ hpFp W (fun _=>.no) k:=fun W k ⟨b,q⟩=>q
 let W:Wit:=⟨fun _=>0,fun _=>undef,fun _=>undef,fun _ _=>False,S,fun _=>0,fun _=>undef,fun _ _=>False,fun _=>0,fun _=>False⟩
 have tob:∀ {w':World},ButF (hpFp W (fun _=>.no)) w w'→Below w.heap.size w w':=fun q=>⟨q.os,q.tape,q.output,q.size,fun k hk=>q.block k hk (hemp W k)⟩
 refine (h _ _ _ hR W w vals (fun w' q=>I.keep w w' (tob q) hI) ⟨fun b=>⟨fun q=>q.elim,fun q=>absurd rfl q⟩,fun b k q=>q.elim,fun b=>trivial,fun b b' k q=>q.elim⟩ (paHws.2 hvals)).mono ?_;rintro e w' ⟨hp',rs',hPo,u,W',rfl,q1,q2,q3,q4,q5,q6⟩;have:=hP hp' rs' hPo;subst this;exact ⟨u,W'.S,rfl,paRR.1 q1,tob q4,q6⟩
end
end Go.Proofs.Ytffcpijeebagfaa
end
section
namespace Go.Proofs.Ytffcpijeebagfaa
open Go Go.RowKit
set_option maxRecDepth 100000
set_option maxHeartbeats 4000000
abbrev hI (x:Int):Hc:=.d (.sc (.int .i64 x))
abbrev hP (b off:Nat):Hw:=.one (.h (.p b off))
def ckH (c:Ck):List Hc:=c.map hI
def ckHw (c:Ck):Hw:=.agg (ckH c)
theorem ckH_cl (c:Ck):(ckH c).map Hc.cl=ckCells c:=by unfold ckH ckCells;rw [List.map_map];rfl
theorem ckH_length (c:Ck):(ckH c).length=c.length:=List.length_map ..
theorem ckCells_hc (c:Ck):allSome ((ckCells c).map Cl.hc)=some (ckH c):=by
 induction c with
 | nil=>rfl
 | cons x c ih =>
   show (allSome ((ckCells c).map Cl.hc)).map (hI x :: ·)=_
   rw [ih];rfl
theorem hwrAt_full {cs ds:List Hc} (h:cs.length=ds.length):hwrAt cs 0 ds=ds:=by
 induction cs generalizing ds with
 | nil=>cases ds with
   | nil=>rfl
   | cons d ds=>simp at h
 | cons c cs ih=>cases ds with
   | nil=>simp at h
   | cons d ds =>
     simp only [hwrAt];rw [ih (by simpa using h)]
theorem ckWr {c d:Ck} (hc:c.length=8) (hd:d.length=8):hwrAt (ckH c) 0 (ckH d)=ckH d:=hwrAt_full (by rw [ckH_length,ckH_length,hc,hd])
theorem ckLd {c:Ck} (hc:c.length=8):0+8≤(ckCells c).length∧(ckCells c).take 8=ckCells c:=ld8 hc
theorem joinC_length {a b:Ck} (ha:a.length=8) (hb:b.length=8):(joinC a b).length=8:=by unfold joinC;rw [List.length_zipWith,ha,hb];rfl
def objK (k x y:Int):Value:=.agg #[.int .i64 k,.int .i64 x,.int .i64 y]
theorem keyedO:Maps.Keyed Try.prog 117:=Maps.Keyed.of_law (deep_law_gate (by kernel_rfl) (of_decide_eq_true (by kernel_rfl)) (of_decide_eq_true (by kernel_rfl)) (by kernel_rfl) (by kernel_rfl))
theorem keyedInt:Maps.Keyed Try.prog 3:=Maps.int_keyed Try.underlying3
def in64 (x:Int):Prop:=-9223372036854775808≤x∧x≤9223372036854775807
theorem in64.wf {x:Int} (h:in64 x):(Lit.int .i64 x).wf=true:=by
 simp [Lit.wf,IntKind.min,IntKind.max,IntKind.signed,IntKind.bits];exact ⟨h.1,by have:=h.2;omega⟩
theorem kl_int (d:Nat) {a:Int} (h:in64 a):Try.prog.keyLits (d+1) 3 [.int .i64 a]=some [.int .i64 a]:=by
 simp [Program.keyLits,Try.underlying3,h.wf]
theorem kl_loc (d:Nat) {a b:Int} (ha:in64 a) (hb:in64 b):Try.prog.keyLits (d+2) 98 [.int .i64 a,.int .i64 b]=some [.int .i64 a,.int .i64 b]:=by
 have hc:Try.prog.cellsOf 98=2:=by kernel_rfl
 have hi:Try.prog.cellsOf 3=1:=by kernel_rfl
 unfold Program.keyLits;rw [Try.underlying98];dsimp only;rw [if_pos ⟨by simp [hc],by kernel_rfl⟩];simp [hi,kl_int d ha,kl_int d hb]
theorem kl_obj (d:Nat) {k a b:Int} (hk:in64 k) (ha:in64 a) (hb:in64 b):Try.prog.keyLits (d+3) 117 [.int .i64 k,.int .i64 a,.int .i64 b]=some [.int .i64 k,.int .i64 a,.int .i64 b]:=by
 have hc:Try.prog.cellsOf 117=3:=by kernel_rfl
 have hl:Try.prog.cellsOf 98=2:=by kernel_rfl
 have hi:Try.prog.cellsOf 3=1:=by kernel_rfl
 unfold Program.keyLits;rw [Try.underlying117];dsimp only;rw [if_pos ⟨by simp [hc],by kernel_rfl⟩];simp [hi,hl,kl_int (d+1) hk,kl_loc d ha hb]
theorem keyOf_obj {k a b:Int} (hk:in64 k) (ha:in64 a) (hb:in64 b):(keyOf Try.prog 117 (.agg #[.int .i64 k,.int .i64 a,.int .i64 b])).isSome=true:=by
 obtain ⟨d,hd⟩:∃ d,Try.prog.types.size+1=d+3:=⟨Try.prog.types.size - 2,by have:2≤Try.prog.types.size:=of_decide_eq_true (by kernel_rfl);omega⟩
 have h1:Try.prog.keyType 117=true:=by kernel_rfl
 have hc:Try.prog.cellsOf 117=3:=by kernel_rfl
 unfold keyOf;rw [Try.underlying117];dsimp only;rw [if_pos (by simp [h1,Value.formed,Try.underlying117,hc]),hd];simp only [Value.cells];rw [kl_obj d hk ha hb];rfl
theorem keyOf_i {a:Int} (ha:in64 a):(keyOf Try.prog 3 (.int .i64 a)).isSome=true:=by
 rw [Maps.keyOf_int_mk Try.underlying3 ha.wf];rfl
theorem R_join.mk {a b:Ck} (ha:a.length=8) (hb:b.length=8):R_join [ckPa a,ckPa b] [ckPa (joinC a b)]:=⟨a,b,rfl,⟨ha,hb⟩,rfl⟩
def OAt (es:List (Value×Nat×Hw)) (k:Value) (d:Ck):Prop:=(∃ n,alook es k=some (n,ckHw d))∨(alook es k=none∧d=ckZ)
def R_acq (hp:Nat→Hb) (az:List Hw) (hp':Nat→Hb) (rs:List Hw):Prop :=
 ∃ (k x y:Int) (bc bt ba b0 bo:Nat) (T:List Hc) (es:List (Value×Nat×Hw)) (cl:Nat) (c d:Ck),
   az=[.one (hI k),hP bc 0,hP bt 0,hP ba 0]∧(hp bc=.cells (ckH c)∧c.length=8∧hp bt=.cells [.h (.p b0 0)]∧hp ba=.cells [hI x,hI y]∧hp b0=.cells T∧T[65]? = some (.h (.m bo))∧hp bo=.map 117 es cl) ∧
   (in64 k∧in64 x∧in64 y)∧(OAt es (objK k x y) d∧d.length=8)∧hp'=up hp bc (.cells (ckH (joinC c d)))∧rs=[]
def env_acq:Env:=e1 79 R_join e0
theorem envOK_acq:EnvOK Try.prog env_acq:=.e1 s_join .e0
theorem s_acq:SpecH Try.prog 78 R_acq:=by
 refine spt78 envOK_acq ?_;rintro hp az hp' rs ⟨k,x,y,bc,bt,ba,b0,bo,T,es,cl,c,d,rfl,⟨h1,h2,h3,h4,h5,h6,h7⟩,⟨hk,hx,hy⟩,⟨ho,hd⟩,rfl,rfl⟩;refine ⟨by simp,fun _=>1,?_⟩;have hkey:=keyOf_obj hk hx hy;obtain ⟨l1,l2⟩:=ckLd h2;have q1:0+8≤(ckH c).length:=by rw [ckH_length,h2];exact Nat.le_refl _
 have q2:=joinC_length h2 hd;have q3:(ckCells (joinC c d)).length=8:=by rw [ckCells_length,q2]
 have q4:=ckWr h2 q2;unfold pct78;refine pwp_start ?_
 rcases ho with ⟨n,ho⟩ | ⟨ho,rfl⟩
 ·unfold objK at ho;simp only [↓evP,evB,stB,reduceIte,reduceCtorEq,seval,h1,h3,h4,h5,h6,h7,ho,hkey,ckH_cl,l1,l2,ckHw,ckCells_dt,Nat.add_zero];refine callD_intro [ckPa (joinC c d)] (by exact R_join.mk h2 hd) ?_;simp only [↓evP,evB,stB,reduceIte,reduceCtorEq,seval,ckPa,ckRow_cells,h1,q1,q3,ckCells_hc,q4,prt78];exact (by unfold Drw;refine Eq.trans (b:=true) ?_ rfl;kernel_rfl)
 ·unfold objK at ho;simp only [↓evP,evB,stB,reduceIte,reduceCtorEq,seval,h1,h3,h4,h5,h6,h7,ho,hkey,ckH_cl,l1,l2,ckHw,ckCells_dt,Nat.add_zero];refine callD_intro [ckPa (joinC c ckZ)] (by exact R_join.mk h2 hd) ?_;simp only [↓evP,evB,stB,reduceIte,reduceCtorEq,seval,ckPa,ckRow_cells,h1,q1,q3,ckCells_hc,q4,prt78];exact (by unfold Drw;refine Eq.trans (b:=true) ?_ rfl;kernel_rfl)
noncomputable def ckl (es:List (Value×Nat×Hw)) (cl:Nat) (k:Value):Nat:=match alook es k with
 | some _=>cl
 | none=>cl+1
def R_rel1 (hp:Nat→Hb) (az:List Hw) (hp':Nat→Hb) (rs:List Hw):Prop :=
 ∃ (k x y:Int) (bc bt ba b0 bo:Nat) (T:List Hc) (es:List (Value×Nat×Hw)) (cl:Nat) (c d:Ck),
   az=[.one (hI k),hP bt 0,hP ba 0,hP bc 0]∧(hp bc=.cells (ckH c)∧c.length=8∧hp bt=.cells [.h (.p b0 0)]∧hp ba=.cells [hI x,hI y]∧hp b0=.cells T∧T[65]? = some (.h (.m bo))∧hp bo=.map 117 es cl) ∧
   (in64 k∧in64 x∧in64 y)∧(OAt es (objK k x y) d∧d.length=8)∧hp'=up hp bo (.map 117 (aput es cl (objK k x y) (ckHw (joinC d c))) (ckl es cl (objK k x y)))∧rs=[]
theorem s_rel1:SpecH Try.prog 107 R_rel1:=by
 refine spt107 envOK_acq ?_;rintro hp az hp' rs ⟨k,x,y,bc,bt,ba,b0,bo,T,es,cl,c,d,rfl,⟨h1,h2,h3,h4,h5,h6,h7⟩,⟨hk,hx,hy⟩,⟨ho,hd⟩,rfl,rfl⟩;refine ⟨by simp,fun _=>1,?_⟩;have hkey:=keyOf_obj hk hx hy;obtain ⟨l1,l2⟩:=ckLd h2;have q2:=joinC_length hd h2;have q3:(ckCells (joinC d c)).length=8:=by rw [ckCells_length,q2]
 unfold pct107;refine pwp_start ?_
 rcases ho with ⟨n,ho⟩ | ⟨ho,rfl⟩
 ·unfold objK at ho;simp only [↓evP,evB,stB,reduceIte,reduceCtorEq,seval,h1,h3,h4,h5,h6,h7,ho,hkey,ckH_cl,l1,l2,ckHw,ckCells_dt,Nat.add_zero];refine callD_intro [ckPa (joinC d c)] (by exact R_join.mk hd h2) ?_;simp only [↓evP,evB,stB,reduceIte,reduceCtorEq,seval,ckPa,ckRow_cells,h7,ho,hkey,q3,ckCells_hc,ckl,objK,prt107];exact (by unfold Drw;refine Eq.trans (b:=true) ?_ rfl;kernel_rfl)
 ·unfold objK at ho;simp only [↓evP,evB,stB,reduceIte,reduceCtorEq,seval,h1,h3,h4,h5,h6,h7,ho,hkey,ckH_cl,l1,l2,ckHw,ckCells_dt,Nat.add_zero];refine callD_intro [ckPa (joinC ckZ c)] (by exact R_join.mk hd h2) ?_;simp only [↓evP,evB,stB,reduceIte,reduceCtorEq,seval,ckPa,ckRow_cells,h7,ho,hkey,q3,ckCells_hc,ckl,objK,prt107];exact (by unfold Drw;refine Eq.trans (b:=true) ?_ rfl;kernel_rfl)
def ncN (N b:Nat):Nat:=if b < N then 1000 else b - N+1
theorem ncN_old {N b:Nat} (h:b < N):ncN N b=1000:=if_pos h
theorem ncN_new {N d:Nat}:ncN N (N+d)=d+1:=by unfold ncN;rw [if_neg (by omega)];omega
def Free (hp:Nat→Hb) (N:Nat):Prop:=∀ b,N≤b→hp b=.no
theorem Free.lt {hp:Nat→Hb} {N b:Nat} (h:Free hp N) (hb:hp b≠.no):b < N:=by
 rcases Nat.lt_or_ge b N with h1 | h1
 ·exact h1
 ·exact absurd (h b h1) hb
theorem Free.at_ {hp:Nat→Hb} {N:Nat} (h:Free hp N) (d:Nat):hp (N+d)=.no:=h _ (Nat.le_add_right _ _)
def ckFlat (l:List Ck):List Hc:=l.flatMap ckH
def ring0 (n:Nat):List Ck:=List.replicate n ckZ
def rgW (b1 b2 n:Nat):Hw:=.agg [.h (.s b1 0 n n),.h (.s b2 0 n n)]
theorem ring0_flat (n:Nat):(List.range (n * 8)).map (fun i=>(Hc.d (.sc (([.int .i64 0,.int .i64 0,.int .i64 0,.int .i64 0,.int .i64 0,.int .i64 0,.int .i64 0,.int .i64 0]:List Value).getD (i % 8) undef))))=ckFlat (ring0 n):=by
 have h:∀ m:Nat,(List.range m).map (fun i=>(Hc.d (.sc (([.int .i64 0,.int .i64 0,.int .i64 0,.int .i64 0,.int .i64 0,.int .i64 0,.int .i64 0,.int .i64 0]:List Value).getD (i % 8) undef))))=List.replicate m (hI 0):=fun m=>by
  apply List.ext_getElem
  ·simp
  ·intro i h1 h2;simp only [List.getElem_map,List.getElem_range,List.getElem_replicate];have:i % 8 < 8:=Nat.mod_lt _ (by omega);generalize i % 8=j at this
   match j,this with
   | 0,_=>rfl
   | 1,_=>rfl
   | 2,_=>rfl
   | 3,_=>rfl
   | 4,_=>rfl
   | 5,_=>rfl
   | 6,_=>rfl
   | 7,_=>rfl
 rw [h];unfold ckFlat ring0
 induction n with
 | zero=>rfl
 | succ n ih =>
   rw [List.replicate_succ,List.flatMap_cons,←ih,Nat.succ_mul,Nat.add_comm,←List.replicate_append_replicate];rfl
def R_ring (hp:Nat→Hb) (az:List Hw) (hp':Nat→Hb) (rs:List Hw):Prop :=
 ∃ (b0 br N:Nat) (T:List Hc) (es:List (Value×Nat×Hw)) (cl:Nat) (obj cap:Int),
   az=[hP b0 0,.one (hI obj),.one (hI cap)]∧(hp b0=.cells T∧T[66]? = some (.h (.m br))∧hp br=.map 3 es cl)∧(in64 obj∧0≤cap∧cap≤64)∧Free hp N ∧
   ((∃ n b1 b2 m,alook es (.int .i64 obj)=some (n,rgW b1 b2 m)∧hp'=hp∧rs=[rgW b1 b2 m]) ∨
    (alook es (.int .i64 obj)=none∧hp'=up (up (up hp (N+22) (.cells (ckFlat (ring0 (cap+1).toNat)))) (N+25) (.cells (ckFlat (ring0 (cap+1).toNat)))) br (.map 3 (aput es cl (.int .i64 obj) (rgW (N+22) (N+25) (cap+1).toNat)) (cl+1))∧rs=[rgW (N+22) (N+25) (cap+1).toNat]))
theorem s_ring:SpecH Try.prog 80 R_ring:=by
 refine spt80 EnvOK.e0 ?_;rintro hp az hp' rs ⟨b0,br,N,T,es,cl,obj,cap,rfl,⟨h5,h6,h7⟩,⟨hx,hc0,hc1⟩,hfree,hcase⟩;obtain ⟨nc,hnc⟩:∃ nc,nc=ncN N:=⟨_,rfl⟩
 refine ⟨by simp,nc,?_⟩;have hkey:=keyOf_i hx;have n0:nc b0=1000:=by rw [hnc];exact ncN_old (hfree.lt (by rw [h5];simp))
 have nr:nc br=1000:=by rw [hnc];exact ncN_old (hfree.lt (by rw [h7];simp))
 have n1:nc (N+22)=23:=by rw [hnc];exact ncN_new
 have n2:nc (N+25)=26:=by rw [hnc];exact ncN_new
 have hbr:br < N:=hfree.lt (by rw [h7];simp)
 have hb0:b0 < N:=hfree.lt (by rw [h5];simp)
 have d1:br≠N+22:=by omega
 have d2:br≠N+25:=by omega
 have d3:b0≠N+22:=by omega
 have d4:b0≠N+25:=by omega
 have hw:IntKind.i64.wrap (cap+1)=cap+1:=wr64 (by omega) (by omega);unfold pct80;refine pwp_start ?_
 rcases hcase with ⟨n,b1,b2,m,ho,rfl,rfl⟩ | ⟨ho,rfl,rfl⟩
 ·simp only [↓evP,evB,stB,reduceIte,reduceCtorEq,seval,h5,h6,h7,ho,hkey,rgW,Nat.add_zero,prt80]
 ·simp only [↓evP,evB,stB,reduceIte,reduceCtorEq,seval,h5,h6,h7,ho,hkey,Nat.add_zero,hw];have hz:0≤cap+1∧cap+1≤1000000∧64≤1000000:=⟨by omega,by omega,by decide⟩;refine halD_mk (cap+1) (N+22) (lay_of (by simp only [stB,reduceIte,reduceCtorEq,seval,n1]) (by (repeat' (first | exact AllHp.init | assumption | (refine AllHp.ap ?_ rfl)))) (by simp only [stB,reduceIte,reduceCtorEq,seval];exact hfree.at_ 22)) (by simp only [stB,reduceIte,reduceCtorEq,seval]) (by simp only [stB,reduceIte,reduceCtorEq,seval]) hz ?_
  simp only [↓evP,evB,stB,reduceIte,reduceCtorEq,seval,hw];refine halD_mk (cap+1) (N+25) (lay_of (by simp only [stB,reduceIte,reduceCtorEq,seval,n2]) (by (repeat' (first | exact AllHp.init | assumption | (refine AllHp.ap ?_ rfl)))) (by simp only [stB,reduceIte,reduceCtorEq,seval,n1,Nat.add_left_cancel_iff];exact hfree.at_ 25)) (by simp only [stB,reduceIte,reduceCtorEq,seval]) (by simp only [stB,reduceIte,reduceCtorEq,seval]) hz ?_
  simp only [↓evP,evB,stB,reduceIte,reduceCtorEq,seval,ring0_flat];refine ⟨(by unfold Drw;refine Eq.trans (b:=true) ?_ rfl;kernel_rfl),?_⟩
  simp only [↓evP,evB,stB,reduceIte,reduceCtorEq,seval,h5,h6,h7,ho,hkey,n1,n2,n0,nr,d1,d2,d3,d4,rgW,prt80];exact (by unfold Drw;refine Eq.trans (b:=true) ?_ rfl;kernel_rfl)
end Go.Proofs.Ytffcpijeebagfaa
end
section
namespace Go.Proofs.Ytffcpijeebagfaa
open Go.RowKit Go.Maps
structure But (L:List Nat) (w w':World):Prop where
 os:w'.os=w.os
 tape:w'.tape=w.tape
 output:w'.output=w.output
 size:w.heap.size≤w'.heap.size
 block:∀ k,k < w.heap.size→k ∉ L→w'.heap[k]? = w.heap[k]?
theorem But.refl (L:List Nat) (w:World):But L w w:=⟨rfl,rfl,rfl,Nat.le_refl _,fun _ _ _=>rfl⟩
theorem But.trans {L:List Nat} {a b c:World} (h:But L a b) (k:But L b c):But L a c :=
 ⟨k.os.trans h.os,k.tape.trans h.tape,k.output.trans h.output,Nat.le_trans h.size k.size,fun i hi hn=>(k.block i (Nat.lt_of_lt_of_le hi h.size) hn).trans (h.block i hi hn)⟩
theorem But.mono {L L':List Nat} {a b:World} (h:But L a b) (hs:∀ x ∈ L,x ∈ L'∨a.heap.size≤x):But L' a b :=
 ⟨h.os,h.tape,h.output,h.size,fun i hi hn=>h.block i hi (fun hm=>by rcases hs i hm with h1 | h1;exact hn h1;omega)⟩
theorem But.drewN {L:List Nat} {a b:World} (h:But L a b) (n:Nat):But L a (b.drewN n):=⟨h.os,h.tape,h.output,h.size,h.block⟩
theorem But.drew {L:List Nat} {a b:World} (h:But L a b):But L a b.drew:=⟨h.os,h.tape,h.output,h.size,h.block⟩
theorem But.alloc {L:List Nat} {a b:World} (h:But L a b) (o:Obj):But L a (b.alloc o) :=
 h.trans ⟨rfl,rfl,rfl,by simp,fun k hk _=>Below.heap_alloc _ _ _ hk⟩
theorem But.setCell {L:List Nat} {a b:World} (h:But L a b) {p:Addr} (hp:p.block ∈ L∨a.heap.size≤p.block) (u:Value):But L a (b.setCell p u) :=
 ⟨h.os,h.tape,h.output,by simpa [World.setCell] using h.size,fun k hk hn=>(Below.heap_setCell _ _ _ _ (by rintro rfl;rcases hp with h1 | h1;exact hn h1;omega)).trans (h.block k hk hn)⟩
theorem But.below {L:List Nat} {a b c:World} (h:But L a b) (hb:Below b.heap.size b c):But L a c :=
 h.trans ⟨hb.os,hb.tape,hb.output,hb.size,fun k hk _=>hb.block k hk⟩
theorem But.grown {L:List Nat} {a b c:World} (h:But L a b) {g:Nat} (hg:b.grownBy c (some g)) (hL:g ∈ L∨a.heap.size≤g):But L a c :=
 ⟨hg.os.trans h.os,hg.tape.trans h.tape,hg.output.trans h.output,Nat.le_trans h.size hg.size,fun k hk hn =>
  (hg.block k (Nat.lt_of_lt_of_le hk h.size) (by rintro he;cases he;rcases hL with h1 | h1;exact hn h1;omega)).trans (h.block k hk hn)⟩
theorem But.cell {L:List Nat} {w w':World} (h:But L w w') {p:Addr} (hp:p.block < w.heap.size) (hL:p.block ∉ L):w'.cell? p=w.cell? p:=World.cell?_of_block (w:=w) (h.block p.block hp hL)
theorem But.frozen {L:List Nat} {w w':World} (h:But L w w') {p:Addr} (hp:p.block < w.heap.size) (hL:p.block ∉ L):w'.frozen? p=w.frozen? p:=World.frozen?_of_block (w:=w) (h.block p.block hp hL)
def heldE (v:Value):Option (DataW Value×List MemPlace):=some (.held v,[])
structure KeyT (P:Program) (k:TypeId) {κ:Type} (kv:κ→Value) (ok:κ→Prop):Prop where
 keyed:Keyed P k
 reads:∀ x,ok x→∃ l,keyOf P k (kv x)=some l
 inj:∀ x y,kv x=kv y→x=y
def MapOf {κ:Type} (kv:κ→Value) (w:World) (P:Program) (k:TypeId) (b n:Nat) (f:κ→Option Value):Prop :=
 ∃ D,w.ownsMap P k heldE b n D∧∀ x l,keyOf P k (kv x)=some l→D.atKey l .nil=(match f x with | some v=>.held v | none=>.nil)
section
variable {κ:Type} [DecidableEq κ] {kv:κ→Value} {ok:κ→Prop}
variable {P:Program} {k e t:TypeId} {w w':World} {b n:Nat} {f:κ→Option Value}
omit [DecidableEq κ] in
theorem MapOf.made (w:World) (P:Program) (k:TypeId):MapOf kv (w.alloc (.map #[] 0)) P k w.heap.size 0 (fun _=>none) :=
 ⟨_,World.ownsMap_made w P k heldE,fun _ _ _=>rfl⟩
omit [DecidableEq κ] in
theorem MapOf.lt (h:MapOf kv w P k b n f):b < w.heap.size:=let ⟨_,h,_⟩:=h;h.lt
omit [DecidableEq κ] in
theorem MapOf.keep (h:MapOf kv w P k b n f) (hb:w'.heap[b]? = w.heap[b]?):MapOf kv w' P k b n f :=
 let ⟨D,⟨es,cl,h1,h2⟩,h3⟩:=h
 ⟨D,⟨es,cl,hb.trans h1,h2⟩,h3⟩
omit [DecidableEq κ] in
theorem MapOf.but {L:List Nat} (h:MapOf kv w P k b n f) (hb:But L w w') (hL:b ∉ L):MapOf kv w' P k b n f:=h.keep (hb.block b h.lt hL)
omit [DecidableEq κ] in
theorem MapOf.mono (h:MapOf kv w P k b n f) {n':Nat} (hn:n≤n'):MapOf kv w P k b n' f :=
 let ⟨D,h1,h3⟩:=h
 ⟨D,h1.mono hn,h3⟩
omit [DecidableEq κ] in
theorem MapOf.drewN (h:MapOf kv w P k b n f) (m:Nat):MapOf kv (w.drewN m) P k b n f:=h
omit [DecidableEq κ] in
theorem MapOf.alloc (h:MapOf kv w P k b n f) (o:Obj):MapOf kv (w.alloc o) P k b n f:=h.keep (Below.heap_alloc _ _ _ h.lt)
omit [DecidableEq κ] in
theorem MapOf.setCell (h:MapOf kv w P k b n f) {p:Addr} (hp:b≠p.block) (u:Value):MapOf kv (w.setCell p u) P k b n f:=h.keep (Below.heap_setCell _ _ _ _ hp)
omit [DecidableEq κ] in
theorem MapOf.congr (h:MapOf kv w P k b n f) {g:κ→Option Value} (hg:∀ x,f x=g x):MapOf kv w P k b n g:=by
 have:f=g:=funext hg
 rwa [this] at h
omit [DecidableEq κ] in
theorem MapOf.look (h:MapOf kv w P k b n f) (K:KeyT P k kv ok) (ht:P.underlying t=some (.map k e)) {z:Value} (hz:∀ w,(zeroValue e).run P w=.ok z w) (x:κ) (hx:ok x) :
 (Instr.lookup t (.map (some b)) (kv x) false).run P w=.ok ((f x).getD z) w:=by
 obtain ⟨D,⟨es,clock,hb,F,_,rfl⟩,hf⟩:=h;obtain ⟨kl,hkey⟩:=K.reads x hx;have h3:=hf x kl hkey
 rcases Maps.fit_look false K.keyed ht (hz w) hb F hkey with ⟨hrun,_,hat⟩ | ⟨e0,y,_,_,hrun,hRv,hat,_⟩
 ·rw [hat] at h3
  cases hfk:f x with
  | none=>simpa using hrun
  | some v=>rw [hfk] at h3;cases h3
 ·rw [hat] at h3;simp only [heldE,Option.some.injEq] at hRv;subst hRv
  cases hfk:f x with
  | none=>rw [hfk] at h3;cases h3
  | some v=>rw [hfk] at h3;simp only [DataW.held.injEq] at h3;subst h3;simpa using hrun
omit [DecidableEq κ] in
theorem MapOf.look_ok (h:MapOf kv w P k b n f) (K:KeyT P k kv ok) (ht:P.underlying t=some (.map k e)) {z:Value} (hz:∀ w,(zeroValue e).run P w=.ok z w) (x:κ) (hx:ok x) :
 (Instr.lookup t (.map (some b)) (kv x) true).run P w=.ok (.tuple #[(f x).getD z,.bool (f x).isSome]) w:=by
 obtain ⟨D,⟨es,clock,hb,F,_,rfl⟩,hf⟩:=h;obtain ⟨kl,hkey⟩:=K.reads x hx;have h3:=hf x kl hkey
 rcases Maps.fit_look true K.keyed ht (hz w) hb F hkey with ⟨hrun,_,hat⟩ | ⟨e0,y,_,_,hrun,hRv,hat,_⟩
 ·rw [hat] at h3
  cases hfk:f x with
  | none=>simpa using hrun
  | some v=>rw [hfk] at h3;cases h3
 ·rw [hat] at h3;simp only [heldE,Option.some.injEq] at hRv;subst hRv
  cases hfk:f x with
  | none=>rw [hfk] at h3;cases h3
  | some v=>rw [hfk] at h3;simp only [DataW.held.injEq] at h3;subst h3;simpa using hrun
theorem MapOf.put (h:MapOf kv w P k b n f) (K:KeyT P k kv ok) (ht:P.underlying t=some (.map k e)) (hn:n < maxLen) (x:κ) (hx:ok x) (v:Value) :
 ∃ w',(Instr.mapUpdate t (.map (some b)) (kv x) v).run P w=.ok () w'∧MapOf kv w' P k b (n+1) (upd f x v)∧w.grownBy w' (some b):=by
 obtain ⟨D,hown,hf⟩:=h;obtain ⟨kl,hkey⟩:=K.reads x hx;obtain ⟨w',hrun,h1,h2⟩:=hown.update K.keyed ht hn hkey (val:=v) (d:=.held v) (ps:=[]) rfl;refine ⟨w',hrun,⟨_,h1,fun y l hy=>?_⟩,h2⟩;unfold upd
 by_cases hyx:y=x
 ·subst hyx;rw [hkey] at hy;cases hy;rw [if_pos rfl,atKey_put_same hown.isMap (K.keyed.key hkey)]
 ·rw [if_neg hyx]
  have hne:l≠kl:=by
   rintro rfl;exact hyx (K.inj _ _ (K.keyed.inj hy hkey))
  rw [atKey_put_other hne];exact hf y l hy
theorem KeyT.int {P:Program} {k:TypeId} (hk:P.underlying k=some (.int .i64)):KeyT P k (fun x:Int=>Value.int .i64 x) (fun x=>(Lit.int .i64 x).wf=true) :=
 ⟨int_keyed hk,fun x hx=>⟨_,keyOf_int_mk hk hx⟩,fun x y h=>by injection h⟩
def locV (x:Int×Int):Value:=.agg #[.int .i64 x.1,.int .i64 x.2]
theorem keyLits_int {P:Program} {t:TypeId} (ht:P.underlying t=some (.int .i64)) (d:Nat) {a:Int} (h:(Lit.int .i64 a).wf=true):P.keyLits (d+1) t [.int .i64 a]=some [.int .i64 a]:=by
 simp [Program.keyLits,ht,h]
theorem keyOf_loc {P:Program} {k t:TypeId} {f0 f1:Field} (hk:P.underlying k=some (.struct #[f0,f1])) (ht:P.underlying t=some (.int .i64)) (h0:f0.type=t) (h1:f1.type=t) (o0:f0.offset=0) (o1:f1.offset=1)
 (hn : ((#[f0, f1] : Array Field).all (·.name != "_")) = true) (hc : P.cellsOf k = 2) (hct : P.cellsOf t = 1) (hkt : P.keyType k = true) (hz : 0 < P.types.size) {a b : Int} (ha : (Lit.int .i64 a).wf = true) (hb : (Lit.int .i64 b).wf = true) :
 keyOf P k (locV (a,b))=some (.string (keyBytes [.int .i64 a,.int .i64 b])):=by
 obtain ⟨d,hd⟩:∃ d,P.types.size=d+1:=⟨P.types.size - 1,by omega⟩
 have e1:P.keyLits (d+1+1) k [.int .i64 a,.int .i64 b]=some [.int .i64 a,.int .i64 b]:=by
  unfold Program.keyLits;rw [hk];dsimp only;rw [if_pos ⟨by simp [hc],hn⟩];simp [h0,h1,o0,o1,hct,keyLits_int ht d ha,keyLits_int ht d hb]
 unfold keyOf locV;rw [hk];dsimp only;rw [if_pos (by simp [hkt,Value.formed,hk,hc]),hd];simp only [Value.cells];rw [e1];rfl
theorem KeyT.loc {P:Program} {k t:TypeId} {f0 f1:Field} (K:Keyed P k) (hk:P.underlying k=some (.struct #[f0,f1])) (ht:P.underlying t=some (.int .i64)) (h0:f0.type=t) (h1:f1.type=t) (o0:f0.offset=0) (o1:f1.offset=1)
 (hn : ((#[f0, f1] : Array Field).all (·.name != "_")) = true) (hc : P.cellsOf k = 2) (hct : P.cellsOf t = 1) (hkt : P.keyType k = true) (hz : 0 < P.types.size) :
 KeyT P k locV (fun x=>(Lit.int .i64 x.1).wf=true∧(Lit.int .i64 x.2).wf=true) :=
 ⟨K,fun x hx=>⟨_,keyOf_loc hk ht h0 h1 o0 o1 hn hc hct hkt hz hx.1 hx.2⟩,fun x y h=>by
  obtain ⟨a,b⟩:=x;obtain ⟨c,d⟩:=y;simp [locV] at h;simp [h]⟩
theorem wf_i64 {x:Int} (h:I64 x):(Lit.int .i64 x).wf=true:=by
 simp [Lit.wf,IntKind.min,IntKind.max,IntKind.signed,IntKind.bits];exact ⟨h.1,by have:=h.2;omega⟩
end
end Go.Proofs.Ytffcpijeebagfaa
end
section
namespace Go.Proofs.Ytffcpijeebagfaa
open Go.RowKit
theorem ret_bool {a b:Bool} (h:a=b):Ending.returned (.bool a)=.returned (.bool b):=by rw [h]
theorem numbered_any (k:Int) (w:World):Calls Try.prog 92 #[.int .i64 k] w fun e w'=>e=.returned (.bool (numberedB k))∧w=w':=by
 go_enter Try.func92,Try.ntmps92
 go_wp2
 all_goals (go_ret;refine ⟨ret_bool ?_,rfl⟩;simp [numberedB];omega)
theorem isKind_any (k:Int) (w:World):Calls Try.prog 91 #[.int .i64 k] w fun e w'=>e=.returned (.bool (isKindB k))∧w=w':=by
 go_enter Try.func91,Try.ntmps91
 go_wp2
 all_goals (go_ret;refine ⟨ret_bool ?_,rfl⟩;simp [isKindB];omega)
theorem channel_any (k:Int) (w:World):Calls Try.prog 61 #[.int .i64 k] w fun e w'=>e=.returned (.bool (chanB k))∧w=w':=by
 go_enter Try.func61,Try.ntmps61
 go_wp2_with ((go_at_call 92;refine (numbered_any _ _).mono ?_;rintro e w' ⟨rfl,rfl⟩))
 all_goals (go_ret;refine ⟨ret_bool ?_,rfl⟩;unfold numberedB at *;unfold chanB;simp only [decide_eq_true_eq] at *;rw [Bool.eq_iff_iff];simp;omega)
theorem idx7 (x0 x1 x2 x3 x4 x5 x6:Value) :
 (∀ w,(Instr.index 136 (.agg #[x0,x1,x2,x3,x4,x5,x6]) (.int .i64 0)).run Try.prog w=.ok x0 w)∧(∀ w,(Instr.index 136 (.agg #[x0,x1,x2,x3,x4,x5,x6]) (.int .i64 1)).run Try.prog w=.ok x1 w) ∧
 (∀ w,(Instr.index 136 (.agg #[x0,x1,x2,x3,x4,x5,x6]) (.int .i64 2)).run Try.prog w=.ok x2 w)∧(∀ w,(Instr.index 136 (.agg #[x0,x1,x2,x3,x4,x5,x6]) (.int .i64 3)).run Try.prog w=.ok x3 w) ∧
 (∀ w,(Instr.index 136 (.agg #[x0,x1,x2,x3,x4,x5,x6]) (.int .i64 4)).run Try.prog w=.ok x4 w)∧(∀ w,(Instr.index 136 (.agg #[x0,x1,x2,x3,x4,x5,x6]) (.int .i64 5)).run Try.prog w=.ok x5 w) ∧
 (∀ w,(Instr.index 136 (.agg #[x0,x1,x2,x3,x4,x5,x6]) (.int .i64 6)).run Try.prog w=.ok x6 w) :=
 ⟨fun _=>by kernel_rfl,fun _=>by kernel_rfl,fun _=>by kernel_rfl,fun _=>by kernel_rfl,fun _=>by kernel_rfl,fun _=>by kernel_rfl,fun _=>by kernel_rfl⟩
set_option maxHeartbeats 4000000 in
set_option maxRecDepth 100000 in
theorem evalid_any (e:Ev) (w:World):Calls Try.prog 59 #[e.val] w fun r w'=>r=.returned (.bool e.valid)∧Below w.heap.size w w':=by
 obtain ⟨g,kind,obj,off,k,n,fn,pc,stack⟩:=e;unfold Ev.val;obtain ⟨i0,i1,i2,i3,i4,i5,i6⟩:=idx7 (.int .i64 obj) (.int .i64 off) (.int .i64 k) (.int .i64 n) (.int .i64 fn) (.int .i64 pc) (.int .i64 stack)
 go_enter Try.func59,Try.ntmps59
 go_wp2_with (first | (go_at_call 91;refine (isKind_any _ _).mono ?_;rintro e w' ⟨rfl,rfl⟩))
 all_goals try (refine wp_loop_rounds 8 ?_)
 all_goals try (repeat any_goals (rw [rounds_succ];go_wp2_with (first | (go_at_call 92;refine (numbered_any _ _).mono ?_;rintro e w' ⟨rfl,rfl⟩) | (go_at_call 61;refine (channel_any _ _).mono ?_;rintro e w' ⟨rfl,rfl⟩))))
 all_goals (go_ret;refine ⟨ret_bool ?_,(Below.refl _ _).alloc (Nat.le_refl _) _⟩)
 all_goals (simp only [isKindB,chanB,numberedB,decide_eq_true_eq,beq_iff_eq,beq_eq_false_iff_ne,ne_eq,decide_eq_false_iff_not] at *)
 all_goals (unfold Ev.valid Ev.rest;rw [Bool.eq_iff_iff];simp only [isKindB,rangeB,Bool.and_eq_true,decide_eq_true_eq,Bool.ite_eq_true_distrib,Bool.false_eq_true,false_iff,true_iff,beq_iff_eq,Bool.or_eq_true])
 all_goals clear i0 i1 i2 i3 i4 i5 i6
 all_goals go_light
 all_goals first | omega | (split <;> omega) | (split <;> first | omega | (split <;> omega)) | (split <;> first | omega | (split <;> first | omega | (split <;> omega)))
section
def Ch.val (c:Ch):Value:=.agg #[.int .i64 c.cap,.int .i64 c.sent,.int .i64 c.recv,.bool c.closed]
def Mu.val (m:Mu):Value:=.agg #[.bool m.locked,.int .i64 m.readers]
def iK (x:Int):Value:=.int .i64 x
def chanMap (f:Int→Option Ch) (x:Int):Option Value:=(f x).map Ch.val
def muMap (f:Int×Int→Option Mu) (x:Int×Int):Option Value:=(f x).map Mu.val
def doneMap (f:Int×Int→Option Bool) (x:Int×Int):Option Value:=(f x).map Value.bool
theorem chanMap_upd (f:Int→Option Ch) (x:Int) (c:Ch):upd (chanMap f) x c.val=chanMap (upd f x c):=by
 funext y;unfold upd chanMap;by_cases h:y=x <;> simp [h]
theorem muMap_upd (f:Int×Int→Option Mu) (x:Int×Int) (c:Mu):upd (muMap f) x c.val=muMap (upd f x c):=by
 funext y;unfold upd muMap;by_cases h:y=x <;> simp [h]
theorem doneMap_upd (f:Int×Int→Option Bool) (x:Int×Int) (c:Bool):upd (doneMap f) x (.bool c)=doneMap (upd f x c):=by
 funext y;unfold upd doneMap;by_cases h:y=x <;> simp [h]
theorem zeroCh (w:World):(zeroValue 95).run Try.prog w=.ok ch0.val w:=by kernel_rfl
theorem zeroMu (w:World):(zeroValue 100).run Try.prog w=.ok mu0.val w:=by kernel_rfl
theorem zeroB (w:World):(zeroValue 4).run Try.prog w=.ok (.bool false) w:=by kernel_rfl
theorem keyI:KeyT Try.prog 3 iK (fun x=>(Lit.int .i64 x).wf=true):=KeyT.int Try.underlying3
theorem laidOut:laidOutB Try.prog=true:=by kernel_rfl
theorem keyedL:Maps.Keyed Try.prog 98:=Maps.Keyed.of_law (deep_law_gate laidOut (of_decide_eq_true (by kernel_rfl)) (of_decide_eq_true (by kernel_rfl)) (by kernel_rfl) (by kernel_rfl))
theorem keyL:KeyT Try.prog 98 locV (fun x=>(Lit.int .i64 x.1).wf=true∧(Lit.int .i64 x.2).wf=true) :=
 KeyT.loc keyedL Try.underlying98 Try.underlying3 rfl rfl rfl rfl (by kernel_rfl) (by kernel_rfl) (by kernel_rfl) (by kernel_rfl) (of_decide_eq_true (by kernel_rfl))
class KB where
 p:Nat→Prop
variable [KB]
def KindsAt (w:World) (v:Value) (xs:List Int) (sb:Nat):Prop :=
 ∃ A c,v=.slice A xs.length c∧xs.length≤c∧(0 < xs.length→∃ b o,A=some ⟨b,o,none⟩∧(b≠sb∧KB.p b)∧∀ i x,xs[i]? = some x→w.cell? ⟨b,o+i,none⟩=some (.int .i64 x))
def TCells (s:TS) (bc bm bd:Nat) (kv:Value):Array Value :=
 #[.int .i64 s.events,.int .i64 s.gor,.map (some bc),.map (some bm),.map (some bd),kv,.int .i64 s.grp.obj,.int .i64 s.grp.k,.int .i64 s.grp.n,.int .i64 s.grp.snd,.int .i64 s.grp.rcv]
structure TRep (w:World) (sb bc bm bd N:Nat) (s:TS) (kv:Value):Prop where
 row:w.heap[sb]? = some (.cells (TCells s bc bm bd kv) 92 (0,0))
 kinds:KindsAt w kv s.grp.kinds sb
 chans:MapOf iK w Try.prog 3 bc N (chanMap s.chans)
 mus:MapOf locV w Try.prog 98 bm N (muMap s.mus)
 done:MapOf locV w Try.prog 98 bd N (doneMap s.done)
 ncm:bc≠bm
 ncd:bc≠bd
 nmd:bm≠bd
omit [KB] in
theorem MapOf.ne_cells {κ:Type} {kv:κ→Value} {w:World} {P:Program} {k b n:Nat} {f:κ→Option Value} (h:MapOf kv w P k b n f) {g:Nat} {cs:Array Value} {t:TypeId} {fr:Nat×Nat} (hg:w.heap[g]? = some (.cells cs t fr)):b≠g:=by
 rintro rfl;obtain ⟨_,⟨es,cl,h1,_⟩,_⟩:=h;rw [hg] at h1;cases h1
theorem KindsAt.keep {w w':World} {v:Value} {xs:List Int} {sb:Nat} (h:KindsAt w v xs sb) {L:List Nat} (hb:But L w w') (hL:∀ b cs t fr,w.heap[b]? = some (.cells cs t fr)→b≠sb→b ∉ L):KindsAt w' v xs sb:=by
 obtain ⟨A,c,h1,h2,h3⟩:=h;refine ⟨A,c,h1,h2,fun hn=>?_⟩;obtain ⟨b,o,hA,hne,hc⟩:=h3 hn;refine ⟨b,o,hA,hne,fun i x hx=>?_⟩;have h4:=hc i x hx;have hlt:=block_lt_of_cell h4
 have hblk:∃ cs t fr,w.heap[b]? = some (.cells cs t fr):=by
  unfold World.cell? at h4;dsimp only at h4;split at h4
  ·rename_i cs t fr hh;exact ⟨cs,t,fr,hh⟩
  ·cases h4
 obtain ⟨cs,t,fr,hh⟩:=hblk;exact (World.cell?_of_block (w:=w) (a:=⟨b,o+i,none⟩) (hb.block b hlt (hL b cs t fr hh hne.1))).trans h4
section
variable {w w':World} {sb bc bm bd N:Nat} {s:TS} {kv:Value}
theorem TRep.cell (h:TRep w sb bc bm bd N s kv) (j:Nat):w.cell? ⟨sb,j,none⟩=(TCells s bc bm bd kv)[j]?:=cell_of_row w sb j _ _ _ h.row
theorem TRep.frozen (h:TRep w sb bc bm bd N s kv) (j:Nat):w.frozen? ⟨sb,j,none⟩=false:=frozen_of_row w sb j _ _ h.row
theorem TRep.lt (h:TRep w sb bc bm bd N s kv):sb < w.heap.size:=by
 rcases Nat.lt_or_ge sb w.heap.size with hlt | hge
 ·exact hlt
 ·have:=h.row;rw [Array.getElem?_eq_none hge] at this;cases this
theorem TRep.but (h:TRep w sb bc bm bd N s kv) {L:List Nat} (hb:But L w w') (h0:sb ∉ L) (h1:bc ∉ L) (h2:bm ∉ L) (h3:bd ∉ L) (hL:∀ b cs t fr,w.heap[b]? = some (.cells cs t fr)→b≠sb→b ∉ L):TRep w' sb bc bm bd N s kv :=
 ⟨(hb.block sb h.lt h0).trans h.row,h.kinds.keep hb hL,h.chans.but hb h1,h.mus.but hb h2,h.done.but hb h3,h.ncm,h.ncd,h.nmd⟩
theorem TRep.below (h:TRep w sb bc bm bd N s kv) (hb:Below w.heap.size w w'):TRep w' sb bc bm bd N s kv :=
 h.but (L:=[]) ⟨hb.os,hb.tape,hb.output,hb.size,fun k hk _=>hb.block k hk⟩ (by simp) (by simp) (by simp) (by simp) (fun _ _ _ _ _ _=>by simp)
theorem TRep.mono (h:TRep w sb bc bm bd N s kv) {N':Nat} (hn:N≤N'):TRep w sb bc bm bd N' s kv :=
 ⟨h.row,h.kinds,h.chans.mono hn,h.mus.mono hn,h.done.mono hn,h.ncm,h.ncd,h.nmd⟩
omit [KB] in
theorem KindsAt.kb {K1 K2:KB} {w:World} {v:Value} {xs:List Int} {sb:Nat} (h:@KindsAt K1 w v xs sb) (hk:∀ b,K1.p b→K2.p b):@KindsAt K2 w v xs sb:=by
 obtain ⟨A,c,h1,h2,h3⟩:=h;refine ⟨A,c,h1,h2,fun hn=>?_⟩;obtain ⟨b,o,hA,hne,hc⟩:=h3 hn;exact ⟨b,o,hA,⟨hne.1,hk b hne.2⟩,hc⟩
theorem TRep.new_chans (h:TRep w sb bc bm bd N s kv) (hb:But [bc] w w') {N':Nat} {f:Int→Option Ch} {M:Nat} (hm:MapOf iK w' Try.prog 3 bc M (chanMap f)) (hM:M≤N') (hN:N≤N'):TRep w' sb bc bm bd N' { s with chans:=f } kv :=
 ⟨(hb.block sb h.lt (by simpa using Ne.symm (h.chans.ne_cells h.row))).trans h.row,h.kinds.keep hb (fun b cs t fr hc _ hm=>by
  simp only [List.mem_singleton] at hm;subst hm;exact absurd rfl (h.chans.ne_cells hc)),hm.mono hM,(h.mus.but hb (by simpa using Ne.symm h.ncm)).mono hN,(h.done.but hb (by simpa using Ne.symm h.ncd)).mono hN,h.ncm,h.ncd,h.nmd⟩
theorem TRep.new_mus (h:TRep w sb bc bm bd N s kv) (hb:But [bm] w w') {N':Nat} {f:Int×Int→Option Mu} {M:Nat} (hm:MapOf locV w' Try.prog 98 bm M (muMap f)) (hM:M≤N') (hN:N≤N'):TRep w' sb bc bm bd N' { s with mus:=f } kv :=
 ⟨(hb.block sb h.lt (by simpa using Ne.symm (h.mus.ne_cells h.row))).trans h.row,h.kinds.keep hb (fun b cs t fr hc _ hm=>by
  simp only [List.mem_singleton] at hm;subst hm;exact absurd rfl (h.mus.ne_cells hc)),(h.chans.but hb (by simpa using h.ncm)).mono hN,hm.mono hM,(h.done.but hb (by simpa using Ne.symm h.nmd)).mono hN,h.ncm,h.ncd,h.nmd⟩
theorem TRep.new_done (h:TRep w sb bc bm bd N s kv) (hb:But [bd] w w') {N':Nat} {f:Int×Int→Option Bool} {M:Nat} (hm:MapOf locV w' Try.prog 98 bd M (doneMap f)) (hM:M≤N') (hN:N≤N'):TRep w' sb bc bm bd N' { s with done:=f } kv :=
 ⟨(hb.block sb h.lt (by simpa using Ne.symm (h.done.ne_cells h.row))).trans h.row,h.kinds.keep hb (fun b cs t fr hc _ hm=>by
  simp only [List.mem_singleton] at hm;subst hm;exact absurd rfl (h.done.ne_cells hc)),(h.chans.but hb (by simpa using h.ncd)).mono hN,(h.mus.but hb (by simpa using h.nmd)).mono hN,hm.mono hM,h.ncm,h.ncd,h.nmd⟩
theorem TRep.new_row (h:TRep w sb bc bm bd N s kv) (hb:But [sb] w w') {ev gor:Int} (hr:w'.heap[sb]? = some (.cells (TCells { s with events:=ev,gor:=gor } bc bm bd kv) 92 (0,0))) {N':Nat} (hN:N≤N'):TRep w' sb bc bm bd N' { s with events:=ev,gor:=gor } kv :=
 ⟨hr,h.kinds.keep hb (fun b cs t fr hc hne hm=>hne (by simpa using hm)),(h.chans.but hb (by simpa using h.chans.ne_cells h.row)).mono hN,(h.mus.but hb (by simpa using h.mus.ne_cells h.row)).mono hN,(h.done.but hb (by simpa using h.done.ne_cells h.row)).mono hN,h.ncm,h.ncd,h.nmd⟩
end
omit [KB] in
theorem sends_any (k:Int) (w:World):Calls Try.prog 93 #[.int .i64 k] w fun e w'=>e=.returned (.bool (sendsB k))∧w=w':=by
 go_enter Try.func93,Try.ntmps93
 go_wp2
 all_goals (go_ret;refine ⟨ret_bool ?_,rfl⟩;unfold sendsB;rw [Bool.eq_iff_iff];simp;try omega)
theorem open_any {sb bc bm bd N:Nat} {s:TS} {kv:Value} (w:World) (h:TRep w sb bc bm bd N s kv):Calls Try.prog 25 #[.pointer (some ⟨sb,0,none⟩)] w fun e w'=>e=.returned (.bool s.isOpen)∧w=w':=by
 obtain ⟨A,c,hkv,hlc,_⟩:=h.kinds;have c5:w.cell? ⟨sb,5,none⟩=some (.slice A s.grp.kinds.length c):=by rw [h.cell 5,←hkv];rfl
 clear h hkv hlc
 go_enter Try.func25,Try.ntmps25
 go_wp2
 go_ret
 refine ⟨ret_bool ?_,rfl⟩;unfold TS.isOpen;simp
omit [KB] in
set_option maxRecDepth 100000 in
set_option maxHeartbeats 1000000 in
theorem count_any (sb bc n:Nat) (f:Int→Option Ch) (e:Ev) (w:World) (hc:w.cell? ⟨sb,2,none⟩=some (.map (some bc)))
 (hm:MapOf iK w Try.prog 3 bc n (chanMap f)) (hn:n < maxLen) (hobj:I64 e.obj) (hb:∀ c,(f e.obj).getD ch0=c→(0≤c.sent∧c.sent≤5000)∧(0≤c.recv∧c.recv≤5000)) :
 Calls Try.prog 94 #[.pointer (some ⟨sb,0,none⟩),e.val] w fun r w'=>r=.returned (.tuple #[])∧MapOf iK w' Try.prog 3 bc (n+1) (chanMap (upd f e.obj (((f e.obj).getD ch0).count e.kind)))∧But [bc] w w':=by
 have hb0:=hb _ rfl;clear hb;obtain ⟨c,hcc⟩:∃ c,(f e.obj).getD ch0=c:=⟨_,rfl⟩
 rw [hcc] at hb0 ⊢;obtain ⟨⟨hs,hs2⟩,hr,hr2⟩:=hb0
 have hval:(chanMap f e.obj).getD ch0.val=c.val:=by
  rw [←hcc];unfold chanMap;cases f e.obj <;> rfl
 obtain ⟨g,kind,obj,off,k,en,fn,pc,stack⟩:=e;dsimp only at hcc hobj hval ⊢
 -- what is counted,under names of its own
 obtain ⟨c',hc'⟩:∃ c',c.count kind=c':=⟨_,rfl⟩
 rw [hc'];obtain ⟨cap,sent,recv,closed⟩:=c;obtain ⟨cap',sent',recv',closed'⟩:=c';dsimp only at hs hs2 hr hr2;unfold Ev.val
 have hl:∀ o:Obj,(Instr.lookup 86 (.map (some bc)) (.int .i64 obj) false).run Try.prog ((w.alloc o).drew)=.ok (.agg #[.int .i64 cap,.int .i64 sent,.int .i64 recv,.bool closed]) ((w.alloc o).drew):=fun o=>by
  have h1:MapOf iK (w.alloc o).drew Try.prog 3 bc n (chanMap f):=hm.alloc o;have h2:=h1.look keyI Try.underlying86 zeroCh obj (wf_i64 hobj);rw [hval] at h2;exact h2
 have hl2:∀ o o2:Obj,(Instr.lookup 86 (.map (some bc)) (.int .i64 obj) false).run Try.prog (((w.alloc o).alloc o2).drew)=.ok (.agg #[.int .i64 cap,.int .i64 sent,.int .i64 recv,.bool closed]) (((w.alloc o).alloc o2).drew):=fun o o2=>by
  have h1:MapOf iK ((w.alloc o).alloc o2).drew Try.prog 3 bc n (chanMap f):=(hm.alloc o).alloc o2;have h2:=h1.look keyI Try.underlying86 zeroCh obj (wf_i64 hobj);rw [hval] at h2;exact h2
 have hlt:=block_lt_of_cell hc;dsimp only at hlt;have HM:=Lib.hid hm;clear hm;have HCC:=Lib.hid hcc;clear hcc;have HV:=Lib.hid hval;clear hval;have HC:=Lib.hid hc';clear hc'
 go_enter Try.func94,Try.ntmps94
 go_wp2
 go_region
 go_upto_block 0 with fail
 go_cut [] (fun wx=>MapOf iK wx Try.prog 3 bc n (chanMap f)∧But [bc] w wx∧wx.cell? ⟨sb,2,none⟩=some (.map (some bc))∧wx.cell? ⟨w.heap.size,2,none⟩=some (.int .i64 obj) ∧
  wx.cell? ⟨w.heap.size+1,0,none⟩=some (.int .i64 cap')∧wx.cell? ⟨w.heap.size+1,1,none⟩=some (.int .i64 sent')∧wx.cell? ⟨w.heap.size+1,2,none⟩=some (.int .i64 recv')∧wx.cell? ⟨w.heap.size+1,3,none⟩=some (.bool closed'))
 case first =>
  go_wp2
  all_goals go_meet
  all_goals (case' rel=>refine ⟨(HM.out.alloc _).alloc _,(((But.refl _ _).alloc _).alloc _).drew,?_⟩)
  all_goals (have hc':=HC.out;unfold Ch.count at hc')
  all_goals go_light
  all_goals clear hl hl2
  all_goals simp_all [go_sem]
 case rest =>
  obtain ⟨hm1,hbut,hc2,hobj2,h0,h1,h2,h3⟩:=hcut;obtain ⟨w1,hput,hm2,hg⟩:=(show MapOf iK wc.drew Try.prog 3 bc n (chanMap f) from hm1).put keyI Try.underlying86 hn obj (wf_i64 hobj) (.agg #[.int .i64 cap',.int .i64 sent',.int .i64 recv',.bool closed']);unfold iK at hput
  have hfin:MapOf iK w1 Try.prog 3 bc (n+1) (chanMap (upd f obj ⟨cap',sent',recv',closed'⟩))∧But [bc] w w1:=by
   refine ⟨?_,?_⟩
   ·rw [←chanMap_upd];exact hm2
   ·exact (hbut.drewN 0).drew.grown hg (.inl (by simp))
  have HF:=Lib.hid hfin;clear hfin hm1 hm2 hg hbut
  go_wp2
  go_region
  go_end0
  exact ⟨rfl,HF.out⟩
end
end Go.Proofs.Ytffcpijeebagfaa
end
