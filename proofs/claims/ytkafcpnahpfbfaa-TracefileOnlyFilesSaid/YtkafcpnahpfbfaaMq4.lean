/- The plain readings of functions of the program, printed by a program of this claim. No conditions. -/
import Derived.Test.YtkafcpnahpfbfaaMq3
import Derived.Test.YtkafcpnahpfbfaaProg
import Derived.RangeFuncBox
import Derived.RangeFuncLeaves
import Derived.RangeFuncWrites
import Derived.Shelf.Abstract
import Derived.WalkKit
import Derived.OwnWalkIn
import Derived.TacticsInMore
import Derived.LoopNIn
import Derived.LoopIn
set_option linter.unusedSimpArgs false
set_option linter.unusedVariables false
section
namespace Go.Proofs.Ytkafcpnahpfbfaa
open Go Go.RowKit
set_option maxRecDepth 100000
def eU:List (Nat×List Bool):=[(41,[false,false,false,false,false,false,false,false,false]),(42,[false,false,false,false,false,false,false,false,false]),(47,List.replicate 2 false),(49,[false,false]),(50,[false,false]),(82,List.replicate 7 false),(113,List.replicate 3 false)]
theorem bT:∀ p,p ∈ eU→EqT Try.prog p.1 p.2:=by
 intro p hp;simp only [eU,List.mem_cons,List.not_mem_nil,or_false] at hp
 rcases hp with rfl | rfl | rfl | rfl | rfl | rfl | rfl
 ·exact mJ Try.underlying41 (by kernel_rfl) (by kernel_rfl) (by kernel_rfl)
 ·exact mJ Try.underlying42 (by kernel_rfl) (by kernel_rfl) (by kernel_rfl)
 ·exact sI Try.underlying47 (ei:=(Try.prog.info? 3).getD default) (by kernel_rfl) (by kernel_rfl) (by kernel_rfl) (by kernel_rfl)
 ·exact mJ Try.underlying49 (by kernel_rfl) (by kernel_rfl) (by kernel_rfl)
 ·exact mJ Try.underlying50 (by kernel_rfl) (by kernel_rfl) (by kernel_rfl)
 ·exact sI Try.underlying82 (ei:=(Try.prog.info? 3).getD default) (by kernel_rfl) (by kernel_rfl) (by kernel_rfl) (by kernel_rfl)
 ·exact sI Try.underlying113 (ei:=(Try.prog.info? 3).getD default) (by kernel_rfl) (by kernel_rfl) (by kernel_rfl) (by kernel_rfl)
theorem aX:Try.prog.follows .mixedOrders=true:=by kernel_rfl
def pc13 : PC := .seq (.reg false [⟨(some 1), .box (.t 0), none, []⟩, ⟨(some 2), .nilRow 5 1, none, []⟩, ⟨(some 3), .mv (.v (.int .i64 0)), none, [1]⟩]) (.seq (.seq (.reg false [⟨(some 7), .load (some 3) (.t 1), none, []⟩, ⟨(some 8), .call 17 [(.t 7)], none, [0]⟩, ⟨(some 9), .un .not (.t 8), none, [1]⟩]) (.cond (.t 9) (.seq (.reg false [⟨(some 2), .nilRow 5 1, none, []⟩, ⟨(some 3), .mv (.v (.int .i64 1)), none, [0, 0]⟩]) (.ret)) (.skip))) (.seq (.reg false [⟨(some 10), .call 21 [], none, []⟩, ⟨(some 4), .mv (.t 10), none, [0, 0, 0]⟩]) (.seq (.reg false [⟨(some 11), .load (some 3) (.t 1), none, []⟩, ⟨(some 12), .call 20 [(.t 11)], none, [0]⟩, ⟨(some 5), .mv (.t 12), none, [1, 1, 0, 1]⟩]) (.seq (.seq (.reg false [⟨(some 6), .mv (.v (.int .i64 0)), none, []⟩]) (.block 0 (.loop (.seq (.seq (.reg false [⟨(some 13), .mv (.t 6), none, []⟩, ⟨(some 14), .mv (.t 5), none, []⟩, ⟨(some 15), .len (.t 14), none, [1]⟩, ⟨(some 16), .bin .lss (.t 13) (.t 15), none, [0, 2]⟩]) (.cond (.t 16) (.skip) (.exit 0))) (.seq (.block 1 (.reg false [⟨(some 19), .mv (.t 4), none, []⟩, ⟨(some 20), .mv (.t 5), none, []⟩, ⟨(some 21), .mv (.t 6), none, []⟩, ⟨(some 22), .ixs 1 (.t 20) (.t 21), none, [1, 2]⟩, ⟨(some 23), .load none (.t 22), none, [3]⟩, ⟨(some 24), .append 5 1 1 (.t 19) (.t 23), none, [0, 4]⟩, ⟨(some 4), .mv (.t 24), none, [5, 5, 0, 1, 2, 3, 4, 5]⟩])) (.reg false [⟨(some 17), .mv (.t 6), none, []⟩, ⟨(some 18), .bin .add (.t 17) (.v (.int .i64 1)), none, [0]⟩, ⟨(some 6), .mv (.t 18), none, [1, 0, 1]⟩])))))) (.seq (.reg false [⟨(some 25), .mv (.t 4), none, []⟩, ⟨(some 2), .mv (.t 25), none, [0, 0]⟩, ⟨(some 3), .mv (.v (.int .i64 0)), none, [1, 0, 1]⟩]) (.ret))))))
def pr13 : List PR := [.t 2, .t 3]
abbrev ms13_0 : List Nat := [13, 14, 15, 16, 19, 20, 21, 22, 23, 24, 4, 17, 18, 6]
abbrev os13_0 : List Nat := [4]
theorem bd13:Try.f13.body=some (Try.f13.body.getD .skip):=by kernel_rfl
theorem cp13:bN Try.prog Try.f13.ntmps eU (Try.f13.body.getD .skip)=some pc13:=by kernel_rfl
theorem sp13 [bS] {env:Env} (hE:aA Try.prog env) {R:List Pa→List Pa→Prop} (hR:∀ ps rs,R ps rs→ps.length≤26∧pwp env pc13 (fun e s=>(e=.normal∨e=.ret)∧s.res pr13=some rs) (St.init ps)):Spec Try.prog 13 R :=
 bD hE bT aX Try.func13 bd13 cp13 (by kernel_rfl) (by kernel_rfl) (by kernel_rfl) hR
def pc15 : PC := .seq (.reg false [⟨(some 2), .new [(.slice none 0 0), (.slice none 0 0), (.slice none 0 0)], none, []⟩, ⟨(some 3), .mv (.v (.int .i64 0)), none, []⟩]) (.seq (.reg false [⟨(some 8), .mv (.t 0), none, []⟩, ⟨(some 9), .call 32 [(.t 8)], none, [0]⟩, ⟨(some 7), .mv (.t 9), none, [1]⟩, ⟨(some 10), .ext (.t 7) 0, none, [2]⟩, ⟨(some 11), .ext (.t 7) 1, none, [2]⟩, ⟨(some 12), .ext (.t 7) 2, none, [2]⟩, ⟨(some 4), .new [(.slice none 0 0), (.slice none 0 0), (.slice none 0 0), (.slice none 0 0), (.bool false)], none, []⟩, ⟨none, .store 5 (.t 4) (.t 10), none, [6, 3, 1, 0, 1, 2, 3, 6]⟩, ⟨(some 5), .mv (.t 11), none, [4, 7, 0, 1, 2, 3, 4, 6, 7]⟩, ⟨(some 6), .mv (.t 12), none, [5, 8, 0, 1, 2, 3, 4, 5, 6, 7, 8]⟩]) (.seq (.reg false [⟨(some 13), .fld 0 (.t 4), none, []⟩, ⟨(some 14), .load (some 3) (.t 13), none, [0]⟩, ⟨(some 15), .mv (.t 5), none, []⟩, ⟨none, .store 3 (.t 2) (.t 14), none, [1, 0, 1]⟩, ⟨(some 3), .mv (.t 15), none, [2, 3, 0, 1, 2, 3]⟩]) (.ret)))
def pr15 : List PR := [.c 2 (some 3), .t 3]
theorem bd15:Try.f15.body=some (Try.f15.body.getD .skip):=by kernel_rfl
theorem cp15:bN Try.prog Try.f15.ntmps eU (Try.f15.body.getD .skip)=some pc15:=by kernel_rfl
theorem sp15 [bS] {env:Env} (hE:aA Try.prog env) {R:List Pa→List Pa→Prop} (hR:∀ ps rs,R ps rs→ps.length≤16∧pwp env pc15 (fun e s=>(e=.normal∨e=.ret)∧s.res pr15=some rs) (St.init ps)):Spec Try.prog 15 R :=
 bD hE bT aX Try.func15 bd15 cp15 (by kernel_rfl) (by kernel_rfl) (by kernel_rfl) hR
def pc16 : PC := .seq (.reg false [⟨(some 2), .box (.t 0), none, []⟩, ⟨(some 3), .box (.t 1), none, []⟩, ⟨(some 4), .mv (.v (.bool false)), none, []⟩]) (.seq (.seq (.reg false [⟨(some 6), .fld 0 (.t 2), none, []⟩, ⟨(some 7), .load none (.t 6), none, [0]⟩, ⟨(some 8), .len (.t 7), none, [1]⟩, ⟨(some 9), .fld 0 (.t 3), none, []⟩, ⟨(some 10), .load none (.t 9), none, [3]⟩, ⟨(some 11), .len (.t 10), none, [4]⟩, ⟨(some 12), .bin .neq (.t 8) (.t 11), none, [2, 5]⟩, ⟨(some 13), .mv (.t 12), none, [6]⟩, ⟨(some 14), .fld 1 (.t 2), (some (13, false)), [7]⟩, ⟨(some 15), .load (some 2) (.t 14), (some (13, false)), [8, 7]⟩, ⟨(some 16), .fld 1 (.t 3), (some (13, false)), [7]⟩, ⟨(some 17), .load (some 2) (.t 16), (some (13, false)), [10, 7]⟩, ⟨(some 18), .call 33 [(.t 15), (.t 17)], (some (13, false)), [9, 11, 7, 7]⟩, ⟨(some 19), .un .not (.t 18), (some (13, false)), [12, 7]⟩, ⟨(some 20), .pick (.t 13) (.v (.bool true)) (.t 19), none, [7, 13]⟩]) (.cond (.t 20) (.seq (.reg false [⟨(some 4), .mv (.v (.bool false)), none, []⟩]) (.ret)) (.skip))) (.seq (.seq (.reg false [⟨(some 5), .mv (.v (.int .i64 0)), none, []⟩]) (.block 0 (.loop (.seq (.seq (.reg false [⟨(some 21), .mv (.t 5), none, []⟩, ⟨(some 22), .fld 0 (.t 2), none, []⟩, ⟨(some 23), .load none (.t 22), none, [1]⟩, ⟨(some 24), .len (.t 23), none, [2]⟩, ⟨(some 25), .bin .lss (.t 21) (.t 24), none, [0, 3]⟩]) (.cond (.t 25) (.skip) (.exit 0))) (.seq (.block 1 (.seq (.reg true [⟨(some 28), .fld 0 (.t 2), none, []⟩, ⟨(some 29), .load none (.t 28), none, [0]⟩, ⟨(some 30), .mv (.t 5), none, []⟩, ⟨(some 31), .ixs 9 (.t 29) (.t 30), none, [1, 2]⟩, ⟨(some 32), .load (some 9) (.t 31), none, [3]⟩, ⟨(some 33), .fld 0 (.t 3), none, []⟩, ⟨(some 34), .load none (.t 33), none, [5]⟩, ⟨(some 35), .mv (.t 5), none, []⟩, ⟨(some 36), .ixs 9 (.t 34) (.t 35), none, [6, 7]⟩, ⟨(some 37), .load (some 9) (.t 36), none, [8]⟩, ⟨(some 38), .eqs true [false, false, false, false, false, false, false, false, false] (.t 32) (.t 37), none, [4, 9]⟩]) (.cond (.t 38) (.seq (.reg false [⟨(some 4), .mv (.v (.bool false)), none, []⟩]) (.ret)) (.skip)))) (.reg false [⟨(some 26), .mv (.t 5), none, []⟩, ⟨(some 27), .bin .add (.t 26) (.v (.int .i64 1)), none, [0]⟩, ⟨(some 5), .mv (.t 27), none, [1, 0, 1]⟩])))))) (.seq (.reg false [⟨(some 4), .mv (.v (.bool true)), none, []⟩]) (.ret))))
def pr16 : List PR := [.t 4]
abbrev ms16_0 : List Nat := [21, 22, 23, 24, 25, 28, 29, 30, 31, 32, 33, 34, 35, 36, 37, 38, 4, 26, 27, 5]
abbrev os16_0 : List Nat := []
theorem bd16:Try.f16.body=some (Try.f16.body.getD .skip):=by kernel_rfl
theorem cp16:bN Try.prog Try.f16.ntmps eU (Try.f16.body.getD .skip)=some pc16:=by kernel_rfl
theorem sp16 [bS] {env:Env} (hE:aA Try.prog env) {R:List Pa→List Pa→Prop} (hR:∀ ps rs,R ps rs→ps.length≤39∧pwp env pc16 (fun e s=>(e=.normal∨e=.ret)∧s.res pr16=some rs) (St.init ps)):Spec Try.prog 16 R :=
 bD hE bT aX Try.func16 bd16 cp16 (by kernel_rfl) (by kernel_rfl) (by kernel_rfl) hR
def pc17 : PC := .seq (.reg false [⟨(some 1), .box (.t 0), none, []⟩, ⟨(some 2), .mv (.v (.bool false)), none, []⟩]) (.seq (.seq (.reg false [⟨(some 7), .fld 1 (.t 1), none, []⟩, ⟨(some 8), .load (some 2) (.t 7), none, [0]⟩, ⟨(some 9), .call 34 [(.t 8)], none, [1]⟩, ⟨(some 10), .un .not (.t 9), none, [2]⟩, ⟨(some 11), .mv (.t 10), none, [3, 2]⟩, ⟨(some 12), .fld 0 (.t 1), (some (11, false)), [4]⟩, ⟨(some 13), .load none (.t 12), (some (11, false)), [5, 4]⟩, ⟨(some 14), .len (.t 13), (some (11, false)), [6, 4]⟩, ⟨(some 15), .bin .gtr (.t 14) (.v (.int .i64 5000)), (some (11, false)), [7, 4]⟩, ⟨(some 16), .pick (.t 11) (.v (.bool true)) (.t 15), none, [4, 8]⟩]) (.cond (.t 16) (.seq (.reg false [⟨(some 2), .mv (.v (.bool false)), none, []⟩]) (.ret)) (.skip))) (.seq (.seq (.reg false [⟨(some 3), .mv (.v (.int .i64 0)), none, []⟩]) (.block 0 (.loop (.seq (.seq (.reg false [⟨(some 17), .mv (.t 3), none, []⟩, ⟨(some 18), .fld 1 (.t 1), none, []⟩, ⟨(some 19), .fld 0 (.t 18), none, [1]⟩, ⟨(some 20), .load none (.t 19), none, [2]⟩, ⟨(some 21), .len (.t 20), none, [3]⟩, ⟨(some 22), .bin .lss (.t 17) (.t 21), none, [0, 4]⟩]) (.cond (.t 22) (.skip) (.exit 0))) (.seq (.block 1 (.seq (.reg false [⟨(some 25), .fld 1 (.t 1), none, []⟩, ⟨(some 26), .fld 0 (.t 25), none, [0]⟩, ⟨(some 27), .load none (.t 26), none, [1]⟩, ⟨(some 28), .mv (.t 3), none, []⟩, ⟨(some 29), .ixs 2 (.t 27) (.t 28), none, [2, 3]⟩, ⟨(some 30), .fld 0 (.t 29), none, [4]⟩, ⟨(some 31), .load none (.t 30), none, [5]⟩, ⟨(some 32), .bin .gtr (.t 31) (.v (.int .i64 2147483647)), none, [6]⟩, ⟨(some 33), .mv (.t 32), none, [7]⟩, ⟨(some 34), .fld 1 (.t 1), (some (33, false)), [8]⟩, ⟨(some 35), .fld 0 (.t 34), (some (33, false)), [9, 8]⟩, ⟨(some 36), .load none (.t 35), (some (33, false)), [10, 8]⟩, ⟨(some 37), .mv (.t 3), (some (33, false)), [8]⟩, ⟨(some 38), .ixs 2 (.t 36) (.t 37), (some (33, false)), [11, 12, 8]⟩, ⟨(some 39), .fld 1 (.t 38), (some (33, false)), [13, 8]⟩, ⟨(some 40), .load none (.t 39), (some (33, false)), [14, 8]⟩, ⟨(some 41), .bin .gtr (.t 40) (.v (.int .i64 2147483647)), (some (33, false)), [15, 8]⟩, ⟨(some 42), .pick (.t 33) (.v (.bool true)) (.t 41), none, [8, 16]⟩]) (.cond (.t 42) (.seq (.reg false [⟨(some 2), .mv (.v (.bool false)), none, []⟩]) (.ret)) (.skip)))) (.reg false [⟨(some 23), .mv (.t 3), none, []⟩, ⟨(some 24), .bin .add (.t 23) (.v (.int .i64 1)), none, [0]⟩, ⟨(some 3), .mv (.t 24), none, [1, 0, 1]⟩])))))) (.seq (.seq (.reg false [⟨(some 4), .mv (.v (.int .i64 0)), none, []⟩]) (.block 2 (.loop (.seq (.seq (.reg false [⟨(some 43), .mv (.t 4), none, []⟩, ⟨(some 44), .fld 0 (.t 1), none, []⟩, ⟨(some 45), .load none (.t 44), none, [1]⟩, ⟨(some 46), .len (.t 45), none, [2]⟩, ⟨(some 47), .bin .lss (.t 43) (.t 46), none, [0, 3]⟩]) (.cond (.t 47) (.skip) (.exit 2))) (.seq (.block 3 (.seq (.reg true [⟨(some 50), .fld 0 (.t 1), none, []⟩, ⟨(some 51), .load none (.t 50), none, [0]⟩, ⟨(some 52), .mv (.t 4), none, []⟩, ⟨(some 53), .ixs 9 (.t 51) (.t 52), none, [1, 2]⟩, ⟨(some 54), .load (some 9) (.t 53), none, [3]⟩, ⟨(some 55), .call 35 [(.t 54)], none, [4]⟩, ⟨(some 56), .un .not (.t 55), none, [5]⟩, ⟨(some 57), .mv (.t 56), none, [6, 5]⟩, ⟨(some 58), .fld 0 (.t 1), (some (57, false)), [7]⟩, ⟨(some 59), .load none (.t 58), (some (57, false)), [8, 7]⟩, ⟨(some 60), .mv (.t 4), (some (57, false)), [7]⟩, ⟨(some 61), .ixs 9 (.t 59) (.t 60), (some (57, false)), [9, 10, 7]⟩, ⟨(some 62), .fld 8 (.t 61), (some (57, false)), [11, 7]⟩, ⟨(some 63), .load none (.t 62), (some (57, false)), [12, 7]⟩, ⟨(some 64), .fld 1 (.t 1), (some (57, false)), [7]⟩, ⟨(some 65), .fld 0 (.t 64), (some (57, false)), [14, 7]⟩, ⟨(some 66), .load none (.t 65), (some (57, false)), [15, 7]⟩, ⟨(some 67), .len (.t 66), (some (57, false)), [16, 7]⟩, ⟨(some 68), .bin .geq (.t 63) (.t 67), (some (57, false)), [13, 17, 7]⟩, ⟨(some 69), .pick (.t 57) (.v (.bool true)) (.t 68), none, [7, 18]⟩]) (.cond (.t 69) (.seq (.reg false [⟨(some 2), .mv (.v (.bool false)), none, []⟩]) (.ret)) (.skip)))) (.reg false [⟨(some 48), .mv (.t 4), none, []⟩, ⟨(some 49), .bin .add (.t 48) (.v (.int .i64 1)), none, [0]⟩, ⟨(some 4), .mv (.t 49), none, [1, 0, 1]⟩])))))) (.seq (.reg false [⟨(some 70), .load (some 3) (.t 1), none, []⟩, ⟨(some 71), .call 20 [(.t 70)], none, [0]⟩, ⟨(some 5), .mv (.t 71), none, [1, 1, 0, 1]⟩]) (.seq (.seq (.reg false [⟨(some 6), .mv (.v (.int .i64 0)), none, []⟩]) (.block 4 (.loop (.seq (.seq (.reg false [⟨(some 72), .mv (.t 6), none, []⟩, ⟨(some 73), .mv (.t 5), none, []⟩, ⟨(some 74), .len (.t 73), none, [1]⟩, ⟨(some 75), .bin .lss (.t 72) (.t 74), none, [0, 2]⟩]) (.cond (.t 75) (.skip) (.exit 4))) (.seq (.block 5 (.seq (.reg false [⟨(some 78), .mv (.t 5), none, []⟩, ⟨(some 79), .mv (.t 6), none, []⟩, ⟨(some 80), .ixs 1 (.t 78) (.t 79), none, [0, 1]⟩, ⟨(some 81), .load none (.t 80), none, [2]⟩, ⟨(some 82), .len (.t 81), none, [3]⟩, ⟨(some 83), .bin .gtr (.t 82) (.v (.int .i64 1048584)), none, [4]⟩]) (.cond (.t 83) (.seq (.reg false [⟨(some 2), .mv (.v (.bool false)), none, []⟩]) (.ret)) (.skip)))) (.reg false [⟨(some 76), .mv (.t 6), none, []⟩, ⟨(some 77), .bin .add (.t 76) (.v (.int .i64 1)), none, [0]⟩, ⟨(some 6), .mv (.t 77), none, [1, 0, 1]⟩])))))) (.seq (.reg false [⟨(some 2), .mv (.v (.bool true)), none, []⟩]) (.ret)))))))
def pr17 : List PR := [.t 2]
abbrev ms17_0 : List Nat := [17, 18, 19, 20, 21, 22, 25, 26, 27, 28, 29, 30, 31, 32, 33, 34, 35, 36, 37, 38, 39, 40, 41, 42, 2, 23, 24, 3]
abbrev os17_0 : List Nat := []
abbrev ms17_1 : List Nat := [43, 44, 45, 46, 47, 50, 51, 52, 53, 54, 55, 56, 57, 58, 59, 60, 61, 62, 63, 64, 65, 66, 67, 68, 69, 2, 48, 49, 4]
abbrev os17_1 : List Nat := []
abbrev ms17_2 : List Nat := [72, 73, 74, 75, 78, 79, 80, 81, 82, 83, 2, 76, 77, 6]
abbrev os17_2 : List Nat := []
theorem bd17:Try.f17.body=some (Try.f17.body.getD .skip):=by kernel_rfl
theorem cp17:bN Try.prog Try.f17.ntmps eU (Try.f17.body.getD .skip)=some pc17:=by kernel_rfl
theorem sp17 [bS] {env:Env} (hE:aA Try.prog env) {R:List Pa→List Pa→Prop} (hR:∀ ps rs,R ps rs→ps.length≤84∧pwp env pc17 (fun e s=>(e=.normal∨e=.ret)∧s.res pr17=some rs) (St.init ps)):Spec Try.prog 17 R :=
 bD hE bT aX Try.func17 bd17 cp17 (by kernel_rfl) (by kernel_rfl) (by kernel_rfl) hR
def pc19 : PC := .seq (.reg false [⟨(some 2), .new [(.slice none 0 0), (.slice none 0 0), (.slice none 0 0)], none, []⟩, ⟨(some 3), .mv (.v (.int .i64 0)), none, []⟩]) (.seq (.reg false [⟨(some 8), .mv (.t 0), none, []⟩, ⟨(some 9), .call 32 [(.t 8)], none, [0]⟩, ⟨(some 7), .mv (.t 9), none, [1]⟩, ⟨(some 10), .ext (.t 7) 0, none, [2]⟩, ⟨(some 11), .ext (.t 7) 1, none, [2]⟩, ⟨(some 12), .ext (.t 7) 2, none, [2]⟩, ⟨(some 4), .new [(.slice none 0 0), (.slice none 0 0), (.slice none 0 0), (.slice none 0 0), (.bool false)], none, []⟩, ⟨none, .store 5 (.t 4) (.t 10), none, [6, 3, 1, 0, 1, 2, 3, 6]⟩, ⟨(some 5), .mv (.t 11), none, [4, 7, 0, 1, 2, 3, 4, 6, 7]⟩, ⟨(some 6), .mv (.t 12), none, [5, 8, 0, 1, 2, 3, 4, 5, 6, 7, 8]⟩]) (.seq (.seq (.reg false [⟨(some 13), .mv (.t 6), none, []⟩, ⟨(some 14), .bin .neq (.t 13) (.v (.int .i64 0)), none, [0]⟩]) (.cond (.t 14) (.seq (.reg false [⟨(some 15), .build [(.slice none 0 0), (.slice none 0 0), (.slice none 0 0)] [], none, []⟩, ⟨(some 16), .mv (.t 6), none, []⟩, ⟨none, .store 3 (.t 2) (.t 15), none, [0, 0]⟩, ⟨(some 3), .mv (.t 16), none, [1, 2, 0, 1, 2]⟩]) (.ret)) (.skip))) (.seq (.reg false [⟨(some 17), .fld 0 (.t 4), none, []⟩, ⟨(some 18), .load (some 3) (.t 17), none, [0]⟩, ⟨none, .store 3 (.t 2) (.t 18), none, [1, 0, 1]⟩, ⟨(some 3), .mv (.v (.int .i64 0)), none, [2, 0, 1, 2]⟩]) (.ret))))
def pr19 : List PR := [.c 2 (some 3), .t 3]
theorem bd19:Try.f19.body=some (Try.f19.body.getD .skip):=by kernel_rfl
theorem cp19:bN Try.prog Try.f19.ntmps eU (Try.f19.body.getD .skip)=some pc19:=by kernel_rfl
theorem sp19 [bS] {env:Env} (hE:aA Try.prog env) {R:List Pa→List Pa→Prop} (hR:∀ ps rs,R ps rs→ps.length≤19∧pwp env pc19 (fun e s=>(e=.normal∨e=.ret)∧s.res pr19=some rs) (St.init ps)):Spec Try.prog 19 R :=
 bD hE bT aX Try.func19 bd19 cp19 (by kernel_rfl) (by kernel_rfl) (by kernel_rfl) hR
def pc20 : PC := .seq (.reg false [⟨(some 1), .box (.t 0), none, []⟩, ⟨(some 2), .nilRow 31 1, none, []⟩]) (.seq (.reg false [⟨(some 3), .nilRow 31 1, none, []⟩]) (.seq (.reg false [⟨(some 4), .new [(.int .i64 0), (.int .i64 0), (.int .i64 0), (.int .i64 0), (.int .i64 0), (.int .i64 0), (.int .i64 0), (.int .i64 0), (.int .i64 0)], none, []⟩]) (.seq (.reg false [⟨(some 5), .mv (.v (.int .i64 0)), none, []⟩]) (.seq (.seq (.reg false [⟨(some 6), .mv (.v (.int .i64 0)), none, []⟩]) (.block 0 (.loop (.seq (.seq (.reg false [⟨(some 16), .mv (.t 6), none, []⟩, ⟨(some 17), .fld 0 (.t 1), none, []⟩, ⟨(some 18), .load none (.t 17), none, [1]⟩, ⟨(some 19), .len (.t 18), none, [2]⟩, ⟨(some 20), .bin .lss (.t 16) (.t 19), none, [0, 3]⟩]) (.cond (.t 20) (.skip) (.exit 0))) (.seq (.block 1 (.seq (.reg false [⟨(some 23), .mv (.t 6), none, []⟩, ⟨(some 24), .bin .add (.t 23) (.v (.int .i64 16)), none, [0]⟩, ⟨(some 25), .fld 0 (.t 1), none, []⟩, ⟨(some 26), .load none (.t 25), none, [2]⟩, ⟨(some 27), .len (.t 26), none, [3]⟩, ⟨(some 28), .mm false [(.t 24), (.t 27)], none, [1, 4]⟩, ⟨(some 7), .mv (.t 28), none, [5, 0, 1, 2, 3, 4, 5]⟩]) (.seq (.reg false [⟨(some 29), .mv (.t 5), none, []⟩, ⟨(some 8), .mv (.t 29), none, [0, 0]⟩]) (.seq (.seq (.reg false [⟨(some 30), .mv (.t 6), none, []⟩, ⟨(some 9), .mv (.t 30), none, [0, 0]⟩]) (.block 2 (.loop (.seq (.seq (.reg false [⟨(some 31), .mv (.t 9), none, []⟩, ⟨(some 32), .mv (.t 7), none, []⟩, ⟨(some 33), .bin .lss (.t 31) (.t 32), none, [0, 1]⟩]) (.cond (.t 33) (.skip) (.exit 2))) (.seq (.block 3 (.reg false [⟨(some 36), .mv (.t 8), none, []⟩, ⟨(some 37), .fld 0 (.t 1), none, []⟩, ⟨(some 38), .load none (.t 37), none, [1]⟩, ⟨(some 39), .mv (.t 9), none, []⟩, ⟨(some 40), .ixs 9 (.t 38) (.t 39), none, [2, 3]⟩, ⟨(some 41), .fld 8 (.t 40), none, [4]⟩, ⟨(some 42), .load none (.t 41), none, [5]⟩, ⟨(some 43), .bin .add (.t 42) (.v (.int .i64 1)), none, [6]⟩, ⟨(some 44), .mm true [(.t 36), (.t 43)], none, [0, 7]⟩, ⟨(some 8), .mv (.t 44), none, [8, 0, 1, 2, 3, 4, 5, 6, 7, 8]⟩])) (.reg false [⟨(some 34), .mv (.t 9), none, []⟩, ⟨(some 35), .bin .add (.t 34) (.v (.int .i64 1)), none, [0]⟩, ⟨(some 9), .mv (.t 35), none, [1, 0, 1]⟩])))))) (.seq (.reg false [⟨(some 45), .fld 1 (.t 1), none, []⟩, ⟨(some 46), .load (some 2) (.t 45), none, [0]⟩, ⟨(some 47), .mv (.t 5), none, []⟩, ⟨(some 48), .mv (.t 8), none, []⟩, ⟨(some 49), .call 36 [(.t 46), (.t 47), (.t 48)], none, [1, 2, 3]⟩, ⟨(some 10), .mv (.t 49), none, [4, 4, 0, 1, 2, 3, 4]⟩]) (.seq (.reg false [⟨(some 50), .mv (.t 8), none, []⟩, ⟨(some 5), .mv (.t 50), none, [0, 0]⟩]) (.seq (.reg false [⟨(some 51), .mv (.t 10), none, []⟩, ⟨(some 52), .mv (.t 7), none, []⟩, ⟨(some 53), .mv (.t 6), none, []⟩, ⟨(some 54), .bin .sub (.t 52) (.t 53), none, [1, 2]⟩, ⟨(some 55), .call 37 [(.t 54)], none, [3]⟩, ⟨(some 56), .append 5 1 1 (.t 51) (.t 55), none, [0, 4, 4]⟩, ⟨(some 10), .mv (.t 56), none, [5, 5, 0, 1, 2, 3, 4, 5]⟩]) (.seq (.seq (.reg false [⟨(some 57), .mv (.t 6), none, []⟩, ⟨(some 11), .mv (.t 57), none, [0, 0]⟩]) (.block 4 (.loop (.seq (.seq (.reg false [⟨(some 58), .mv (.t 11), none, []⟩, ⟨(some 59), .mv (.t 7), none, []⟩, ⟨(some 60), .bin .lss (.t 58) (.t 59), none, [0, 1]⟩]) (.cond (.t 60) (.skip) (.exit 4))) (.seq (.block 5 (.seq (.reg true [⟨(some 63), .fld 0 (.t 1), none, []⟩, ⟨(some 64), .load none (.t 63), none, [0]⟩, ⟨(some 65), .mv (.t 11), none, []⟩, ⟨(some 66), .ixs 9 (.t 64) (.t 65), none, [1, 2]⟩, ⟨(some 67), .load (some 9) (.t 66), none, [3]⟩, ⟨(some 68), .call 38 [(.t 67)], none, [4]⟩, ⟨(some 69), .load (some 9) (.t 4), none, []⟩, ⟨(some 70), .call 38 [(.t 69)], none, [6, 5]⟩, ⟨(some 12), .mv (.t 68), none, [5, 7, 0, 1, 2, 3, 4, 5]⟩, ⟨(some 13), .mv (.t 70), none, [7, 8, 0, 1, 2, 3, 4, 5, 6, 7, 8]⟩]) (.seq (.seq (.reg false [⟨(some 14), .mv (.v (.int .i64 0)), none, []⟩]) (.block 6 (.loop (.seq (.seq (.reg false [⟨(some 71), .mv (.t 14), none, []⟩, ⟨(some 72), .mv (.t 12), none, []⟩, ⟨(some 73), .len (.t 72), none, [1]⟩, ⟨(some 74), .bin .lss (.t 71) (.t 73), none, [0, 2]⟩]) (.cond (.t 74) (.skip) (.exit 6))) (.seq (.block 7 (.reg true [⟨(some 77), .mv (.t 10), none, []⟩, ⟨(some 78), .mv (.t 12), none, []⟩, ⟨(some 79), .mv (.t 14), none, []⟩, ⟨(some 80), .ixs 1 (.t 78) (.t 79), none, [1, 2]⟩, ⟨(some 81), .load none (.t 80), none, [3]⟩, ⟨(some 82), .mv (.t 13), none, []⟩, ⟨(some 83), .mv (.t 14), none, []⟩, ⟨(some 84), .ixs 1 (.t 82) (.t 83), none, [5, 6]⟩, ⟨(some 85), .load none (.t 84), none, [7]⟩, ⟨(some 86), .bin .sub (.t 81) (.t 85), none, [4, 8]⟩, ⟨(some 87), .call 39 [(.t 86)], none, [9]⟩, ⟨(some 88), .append 5 1 1 (.t 77) (.t 87), none, [0, 10, 10]⟩, ⟨(some 10), .mv (.t 88), none, [11, 11, 0, 1, 2, 3, 4, 5, 6, 7, 8, 9, 10, 11]⟩])) (.reg false [⟨(some 75), .mv (.t 14), none, []⟩, ⟨(some 76), .bin .add (.t 75) (.v (.int .i64 1)), none, [0]⟩, ⟨(some 14), .mv (.t 76), none, [1, 0, 1]⟩])))))) (.reg false [⟨(some 89), .fld 0 (.t 1), none, []⟩, ⟨(some 90), .load none (.t 89), none, [0]⟩, ⟨(some 91), .mv (.t 11), none, []⟩, ⟨(some 92), .ixs 9 (.t 90) (.t 91), none, [1, 2]⟩, ⟨(some 93), .load (some 9) (.t 92), none, [3]⟩, ⟨none, .store 9 (.t 4) (.t 93), none, [4, 0, 1, 2, 3, 4]⟩])))) (.reg false [⟨(some 61), .mv (.t 11), none, []⟩, ⟨(some 62), .bin .add (.t 61) (.v (.int .i64 1)), none, [0]⟩, ⟨(some 11), .mv (.t 62), none, [1, 0, 1]⟩])))))) (.reg false [⟨(some 94), .mv (.t 3), none, []⟩, ⟨(some 95), .mv (.t 10), none, []⟩, ⟨(some 96), .call 40 [(.v (.int .u8 66)), (.t 95)], none, [1]⟩, ⟨(some 97), .bslice 31 1 [(.slice none 0 0)] 1 [(0, 1, (.t 96))], none, [2]⟩, ⟨(some 98), .append 31 1 24 (.t 94) (.t 97), none, [0, 3, 2]⟩, ⟨(some 3), .mv (.t 98), none, [4, 4, 0, 1, 2, 3, 4]⟩]))))))))) (.reg false [⟨(some 21), .mv (.t 6), none, []⟩, ⟨(some 22), .bin .add (.t 21) (.v (.int .i64 16)), none, [0]⟩, ⟨(some 6), .mv (.t 22), none, [1, 0, 1]⟩])))))) (.seq (.reg false [⟨(some 99), .fld 1 (.t 1), none, []⟩, ⟨(some 100), .load (some 2) (.t 99), none, [0]⟩, ⟨(some 101), .mv (.t 5), none, []⟩, ⟨(some 102), .fld 1 (.t 1), none, []⟩, ⟨(some 103), .fld 0 (.t 102), none, [3]⟩, ⟨(some 104), .load none (.t 103), none, [4]⟩, ⟨(some 105), .len (.t 104), none, [5]⟩, ⟨(some 106), .call 36 [(.t 100), (.t 101), (.t 105)], none, [1, 2, 6]⟩, ⟨(some 15), .mv (.t 106), none, [7, 7, 0, 1, 2, 3, 4, 5, 6, 7]⟩]) (.seq (.reg false [⟨(some 107), .mv (.t 3), none, []⟩, ⟨(some 108), .mv (.t 15), none, []⟩, ⟨(some 109), .fld 0 (.t 1), none, []⟩, ⟨(some 110), .load none (.t 109), none, [2]⟩, ⟨(some 111), .len (.t 110), none, [3]⟩, ⟨(some 112), .call 37 [(.t 111)], none, [4]⟩, ⟨(some 113), .append 5 1 1 (.t 108) (.t 112), none, [1, 5, 5]⟩, ⟨(some 114), .call 40 [(.v (.int .u8 69)), (.t 113)], none, [6, 6]⟩, ⟨(some 115), .bslice 31 1 [(.slice none 0 0)] 1 [(0, 1, (.t 114))], none, [7]⟩, ⟨(some 116), .append 31 1 24 (.t 107) (.t 115), none, [0, 8, 7]⟩, ⟨(some 2), .mv (.t 116), none, [9, 9, 0, 1, 2, 3, 4, 5, 6, 7, 8, 9]⟩]) (.ret)))))))
def pr20 : List PR := [.t 2]
abbrev ms20_0 : List Nat := [16, 17, 18, 19, 20, 23, 24, 25, 26, 27, 28, 7, 29, 8, 30, 9, 31, 32, 33, 36, 37, 38, 39, 40, 41, 42, 43, 44, 34, 35, 45, 46, 47, 48, 49, 10, 50, 5, 51, 52, 53, 54, 55, 56, 57, 11, 58, 59, 60, 63, 64, 65, 66, 67, 68, 69, 70, 12, 13, 14, 71, 72, 73, 74, 77, 78, 79, 80, 81, 82, 83, 84, 85, 86, 87, 88, 75, 76, 89, 90, 91, 92, 93, 61, 62, 94, 95, 96, 97, 98, 3, 21, 22, 6]
abbrev os20_0 : List Nat := [10, 4, 97, 3]
abbrev ms20_1 : List Nat := [31, 32, 33, 36, 37, 38, 39, 40, 41, 42, 43, 44, 8, 34, 35, 9]
abbrev os20_1 : List Nat := []
abbrev ms20_2 : List Nat := [58, 59, 60, 63, 64, 65, 66, 67, 68, 69, 70, 12, 13, 14, 71, 72, 73, 74, 77, 78, 79, 80, 81, 82, 83, 84, 85, 86, 87, 88, 10, 75, 76, 89, 90, 91, 92, 93, 61, 62, 11]
abbrev os20_2 : List Nat := [10, 4]
abbrev ms20_3 : List Nat := [71, 72, 73, 74, 77, 78, 79, 80, 81, 82, 83, 84, 85, 86, 87, 88, 10, 75, 76, 14]
abbrev os20_3 : List Nat := [10]
theorem bd20:Try.f20.body=some (Try.f20.body.getD .skip):=by kernel_rfl
theorem cp20:bN Try.prog Try.f20.ntmps eU (Try.f20.body.getD .skip)=some pc20:=by kernel_rfl
theorem sp20 [bS] {env:Env} (hE:aA Try.prog env) {R:List Pa→List Pa→Prop} (hR:∀ ps rs,R ps rs→ps.length≤117∧pwp env pc20 (fun e s=>(e=.normal∨e=.ret)∧s.res pr20=some rs) (St.init ps)):Spec Try.prog 20 R :=
 bD hE bT aX Try.func20 bd20 cp20 (by kernel_rfl) (by kernel_rfl) (by kernel_rfl) hR
def pc21 : PC := .seq (.reg false [⟨(some 0), .nilRow 5 1, none, []⟩]) (.seq (.reg false [⟨(some 1), .bslice 5 1 [(.int .u8 0), (.int .u8 0), (.int .u8 0), (.int .u8 0), (.int .u8 0), (.int .u8 0), (.int .u8 0), (.int .u8 0)] 8 [(0, 1, (.v (.int .u8 73))), (1, 1, (.v (.int .u8 84))), (2, 1, (.v (.int .u8 82))), (3, 1, (.v (.int .u8 65))), (4, 1, (.v (.int .u8 67))), (5, 1, (.v (.int .u8 69))), (6, 1, (.v (.int .u8 49))), (7, 1, (.v (.int .u8 10)))], none, []⟩, ⟨(some 2), .stm (.t 1), none, [0]⟩, ⟨(some 0), .mv (.t 2), none, [1, 0, 1]⟩]) (.ret))
def pr21 : List PR := [.t 0]
theorem bd21:Try.f21.body=some (Try.f21.body.getD .skip):=by kernel_rfl
theorem cp21:bN Try.prog Try.f21.ntmps eU (Try.f21.body.getD .skip)=some pc21:=by kernel_rfl
theorem sp21 [bS] {env:Env} (hE:aA Try.prog env) {R:List Pa→List Pa→Prop} (hR:∀ ps rs,R ps rs→ps.length≤3∧pwp env pc21 (fun e s=>(e=.normal∨e=.ret)∧s.res pr21=some rs) (St.init ps)):Spec Try.prog 21 R :=
 bD hE bT aX Try.func21 bd21 cp21 (by kernel_rfl) (by kernel_rfl) (by kernel_rfl) hR
def pc32 : PC := .seq (.reg false [⟨(some 2), .new [(.slice none 0 0), (.slice none 0 0), (.slice none 0 0), (.slice none 0 0), (.bool false)], none, []⟩, ⟨(some 3), .mv (.v (.int .i64 0)), none, []⟩, ⟨(some 4), .mv (.v (.int .i64 0)), none, [1]⟩]) (.seq (.reg false [⟨(some 5), .new [(.slice none 0 0), (.slice none 0 0), (.slice none 0 0), (.slice none 0 0), (.bool false)], none, []⟩]) (.seq (.reg false [⟨(some 13), .call 21 [], none, []⟩, ⟨(some 14), .len (.t 13), none, [0]⟩, ⟨(some 6), .mv (.t 14), none, [1, 0, 0, 1]⟩]) (.seq (.seq (.reg true [⟨(some 15), .mv (.t 0), none, []⟩, ⟨(some 16), .len (.t 15), none, [0]⟩, ⟨(some 17), .mv (.t 6), none, []⟩, ⟨(some 18), .bin .lss (.t 16) (.t 17), none, [1, 2]⟩, ⟨(some 19), .mv (.t 18), none, [3]⟩, ⟨(some 20), .mv (.t 0), (some (19, false)), [4]⟩, ⟨(some 21), .mv (.t 6), (some (19, false)), [4]⟩, ⟨(some 22), .slc 1 (.t 20) none (some (.t 21)), (some (19, false)), [5, 6, 4]⟩, ⟨(some 23), .bstr (.t 22), (some (19, false)), [7, 4]⟩, ⟨(some 24), .call 21 [], (some (19, false)), [4, 4]⟩, ⟨(some 25), .bstr (.t 24), (some (19, false)), [9, 4]⟩, ⟨(some 26), .bin .neq (.t 23) (.t 25), (some (19, false)), [8, 10, 4]⟩, ⟨(some 27), .pick (.t 19) (.v (.bool true)) (.t 26), none, [4, 11]⟩]) (.cond (.t 27) (.seq (.reg false [⟨(some 28), .load (some 5) (.t 5), none, []⟩, ⟨none, .store 5 (.t 2) (.t 28), none, [0, 0]⟩, ⟨(some 3), .mv (.v (.int .i64 0)), none, [1, 0, 1]⟩, ⟨(some 4), .mv (.v (.int .i64 8)), none, [2, 0, 1, 2]⟩]) (.ret)) (.skip))) (.seq (.block 0 (.loop (.seq (.seq (.reg false [⟨(some 29), .fld 4 (.t 5), none, []⟩, ⟨(some 30), .load none (.t 29), none, [0]⟩, ⟨(some 31), .un .not (.t 30), none, [1]⟩]) (.cond (.t 31) (.skip) (.exit 0))) (.block 1 (.seq (.seq (.reg false [⟨(some 32), .mv (.t 6), none, []⟩, ⟨(some 33), .mv (.t 0), none, []⟩, ⟨(some 34), .len (.t 33), none, [1]⟩, ⟨(some 35), .bin .eql (.t 32) (.t 34), none, [0, 2]⟩, ⟨(some 36), .mv (.t 35), none, [3]⟩, ⟨(some 37), .mv (.t 0), (some (36, false)), [4]⟩, ⟨(some 38), .mv (.t 6), (some (36, false)), [4]⟩, ⟨(some 39), .ixs 1 (.t 37) (.t 38), (some (36, false)), [5, 6, 4]⟩, ⟨(some 40), .load none (.t 39), (some (36, false)), [7, 4]⟩, ⟨(some 41), .bin .neq (.t 40) (.v (.int .u8 66)), (some (36, false)), [8, 4]⟩, ⟨(some 42), .mv (.t 41), (some (36, false)), [9, 4, 4]⟩, ⟨(some 43), .mv (.t 0), (some (42, true)), [10]⟩, ⟨(some 44), .mv (.t 6), (some (42, true)), [10]⟩, ⟨(some 45), .ixs 1 (.t 43) (.t 44), (some (42, true)), [11, 12, 10]⟩, ⟨(some 46), .load none (.t 45), (some (42, true)), [13, 10]⟩, ⟨(some 47), .bin .neq (.t 46) (.v (.int .u8 69)), (some (42, true)), [14, 10]⟩, ⟨(some 48), .pick (.t 42) (.t 47) (.v (.bool false)), (some (36, false)), [10, 15, 4]⟩, ⟨(some 49), .pick (.t 36) (.v (.bool true)) (.t 48), none, [4, 16]⟩]) (.cond (.t 49) (.seq (.reg false [⟨(some 50), .load (some 5) (.t 5), none, []⟩, ⟨(some 51), .mv (.t 6), none, []⟩, ⟨none, .store 5 (.t 2) (.t 50), none, [0, 0]⟩, ⟨(some 3), .mv (.t 51), none, [1, 2, 0, 1, 2]⟩, ⟨(some 4), .mv (.v (.int .i64 8)), none, [3, 0, 1, 2, 3]⟩]) (.ret)) (.skip))) (.seq (.reg false [⟨(some 52), .mv (.t 0), none, []⟩, ⟨(some 53), .mv (.t 6), none, []⟩, ⟨(some 54), .bin .add (.t 53) (.v (.int .i64 1)), none, [1]⟩, ⟨(some 55), .build [(.slice none 0 0), (.int .i64 0), (.bool false)] [(0, 1, (.t 52)), (1, 1, (.t 54))], none, [0, 2]⟩, ⟨(some 56), .box (.t 55), none, [3]⟩, ⟨(some 7), .mv (.t 56), none, [4, 0, 1, 2, 3, 4]⟩]) (.seq (.reg false [⟨(some 57), .mv (.t 7), none, []⟩, ⟨(some 58), .call 51 [(.t 57)], none, [0]⟩, ⟨(some 8), .mv (.t 58), none, [1, 1, 0, 1]⟩]) (.seq (.seq (.reg false [⟨(some 59), .mv (.t 7), none, []⟩, ⟨(some 60), .nilck (.t 59), none, [0]⟩, ⟨(some 61), .fld 2 (.t 60), none, [1]⟩, ⟨(some 62), .load none (.t 61), none, [2]⟩, ⟨(some 63), .mv (.t 62), none, [3]⟩, ⟨(some 64), .mv (.t 8), (some (63, false)), [4]⟩, ⟨(some 65), .bin .gtr (.t 64) (.v (.int .i64 1048576)), (some (63, false)), [5, 4]⟩, ⟨(some 66), .pick (.t 63) (.v (.bool true)) (.t 65), none, [4, 6]⟩, ⟨(some 67), .mv (.t 66), none, [7, 4]⟩, ⟨(some 68), .mv (.t 0), (some (67, false)), [8]⟩, ⟨(some 69), .len (.t 68), (some (67, false)), [9, 8]⟩, ⟨(some 70), .mv (.t 7), (some (67, false)), [8]⟩, ⟨(some 71), .nilck (.t 70), (some (67, false)), [11, 8]⟩, ⟨(some 72), .fld 1 (.t 71), (some (67, false)), [12, 8]⟩, ⟨(some 73), .load none (.t 72), (some (67, false)), [13, 8]⟩, ⟨(some 74), .bin .sub (.t 69) (.t 73), (some (67, false)), [10, 14, 8]⟩, ⟨(some 75), .mv (.t 8), (some (67, false)), [8]⟩, ⟨(some 76), .bin .add (.t 75) (.v (.int .i64 4)), (some (67, false)), [16, 8]⟩, ⟨(some 77), .bin .lss (.t 74) (.t 76), (some (67, false)), [15, 17, 8]⟩, ⟨(some 78), .pick (.t 67) (.v (.bool true)) (.t 77), none, [8, 18]⟩]) (.cond (.t 78) (.seq (.reg false [⟨(some 79), .load (some 5) (.t 5), none, []⟩, ⟨(some 80), .mv (.t 6), none, []⟩, ⟨none, .store 5 (.t 2) (.t 79), none, [0, 0]⟩, ⟨(some 3), .mv (.t 80), none, [1, 2, 0, 1, 2]⟩, ⟨(some 4), .mv (.v (.int .i64 8)), none, [3, 0, 1, 2, 3]⟩]) (.ret)) (.skip))) (.seq (.reg false [⟨(some 81), .mv (.t 7), none, []⟩, ⟨(some 82), .nilck (.t 81), none, [0]⟩, ⟨(some 83), .fld 1 (.t 82), none, [1]⟩, ⟨(some 84), .load none (.t 83), none, [2]⟩, ⟨(some 85), .mv (.t 8), none, []⟩, ⟨(some 86), .bin .add (.t 84) (.t 85), none, [3, 4]⟩, ⟨(some 9), .mv (.t 86), none, [5, 0, 1, 2, 3, 4, 5]⟩]) (.seq (.reg false [⟨(some 87), .mv (.t 0), none, []⟩, ⟨(some 88), .mv (.t 6), none, []⟩, ⟨(some 89), .mv (.t 9), none, []⟩, ⟨(some 90), .slc 1 (.t 87) (some (.t 88)) (some (.t 89)), none, [0, 1, 2]⟩, ⟨(some 91), .call 52 [(.t 90)], none, [3]⟩, ⟨(some 10), .mv (.t 91), none, [4, 4, 0, 1, 2, 3, 4]⟩]) (.seq (.seq (.reg false [⟨(some 92), .mv (.t 0), none, []⟩, ⟨(some 93), .mv (.t 9), none, []⟩, ⟨(some 94), .ixs 1 (.t 92) (.t 93), none, [0, 1]⟩, ⟨(some 95), .load none (.t 94), none, [2]⟩, ⟨(some 96), .mv (.t 10), none, []⟩, ⟨(some 97), .bin .shr (.t 96) (.v (.int .u64 24)), none, [4]⟩, ⟨(some 98), .conv .u8 (.t 97), none, [5]⟩, ⟨(some 99), .bin .neq (.t 95) (.t 98), none, [3, 6]⟩, ⟨(some 100), .mv (.t 99), none, [7]⟩, ⟨(some 101), .mv (.t 0), (some (100, false)), [8]⟩, ⟨(some 102), .mv (.t 9), (some (100, false)), [8]⟩, ⟨(some 103), .bin .add (.t 102) (.v (.int .i64 1)), (some (100, false)), [10, 8]⟩, ⟨(some 104), .ixs 1 (.t 101) (.t 103), (some (100, false)), [9, 11, 8]⟩, ⟨(some 105), .load none (.t 104), (some (100, false)), [12, 8]⟩, ⟨(some 106), .mv (.t 10), (some (100, false)), [8]⟩, ⟨(some 107), .bin .shr (.t 106) (.v (.int .u64 16)), (some (100, false)), [14, 8]⟩, ⟨(some 108), .conv .u8 (.t 107), (some (100, false)), [15, 8]⟩, ⟨(some 109), .bin .neq (.t 105) (.t 108), (some (100, false)), [13, 16, 8]⟩, ⟨(some 110), .pick (.t 100) (.v (.bool true)) (.t 109), none, [8, 17]⟩, ⟨(some 111), .mv (.t 110), none, [18, 8]⟩, ⟨(some 112), .mv (.t 0), (some (111, false)), [19]⟩, ⟨(some 113), .mv (.t 9), (some (111, false)), [19]⟩, ⟨(some 114), .bin .add (.t 113) (.v (.int .i64 2)), (some (111, false)), [21, 19]⟩, ⟨(some 115), .ixs 1 (.t 112) (.t 114), (some (111, false)), [20, 22, 19]⟩, ⟨(some 116), .load none (.t 115), (some (111, false)), [23, 19]⟩, ⟨(some 117), .mv (.t 10), (some (111, false)), [19]⟩, ⟨(some 118), .bin .shr (.t 117) (.v (.int .u64 8)), (some (111, false)), [25, 19]⟩, ⟨(some 119), .conv .u8 (.t 118), (some (111, false)), [26, 19]⟩, ⟨(some 120), .bin .neq (.t 116) (.t 119), (some (111, false)), [24, 27, 19]⟩, ⟨(some 121), .pick (.t 111) (.v (.bool true)) (.t 120), none, [19, 28]⟩, ⟨(some 122), .mv (.t 121), none, [29, 19]⟩, ⟨(some 123), .mv (.t 0), (some (122, false)), [30]⟩, ⟨(some 124), .mv (.t 9), (some (122, false)), [30]⟩, ⟨(some 125), .bin .add (.t 124) (.v (.int .i64 3)), (some (122, false)), [32, 30]⟩, ⟨(some 126), .ixs 1 (.t 123) (.t 125), (some (122, false)), [31, 33, 30]⟩, ⟨(some 127), .load none (.t 126), (some (122, false)), [34, 30]⟩, ⟨(some 128), .mv (.t 10), (some (122, false)), [30]⟩, ⟨(some 129), .conv .u8 (.t 128), (some (122, false)), [36, 30]⟩, ⟨(some 130), .bin .neq (.t 127) (.t 129), (some (122, false)), [35, 37, 30]⟩, ⟨(some 131), .pick (.t 122) (.v (.bool true)) (.t 130), none, [30, 38]⟩]) (.cond (.t 131) (.seq (.reg false [⟨(some 132), .load (some 5) (.t 5), none, []⟩, ⟨(some 133), .mv (.t 6), none, []⟩, ⟨none, .store 5 (.t 2) (.t 132), none, [0, 0]⟩, ⟨(some 3), .mv (.t 133), none, [1, 2, 0, 1, 2]⟩, ⟨(some 4), .mv (.v (.int .i64 9)), none, [3, 0, 1, 2, 3]⟩]) (.ret)) (.skip))) (.seq (.reg true [⟨(some 135), .load (some 5) (.t 5), none, []⟩, ⟨(some 136), .mv (.t 0), none, []⟩, ⟨(some 137), .mv (.t 6), none, []⟩, ⟨(some 138), .ixs 1 (.t 136) (.t 137), none, [1, 2]⟩, ⟨(some 139), .load none (.t 138), none, [3]⟩, ⟨(some 140), .mv (.t 0), none, []⟩, ⟨(some 141), .mv (.t 7), none, []⟩, ⟨(some 142), .nilck (.t 141), none, [6]⟩, ⟨(some 143), .fld 1 (.t 142), none, [7]⟩, ⟨(some 144), .load none (.t 143), none, [8]⟩, ⟨(some 145), .mv (.t 9), none, []⟩, ⟨(some 146), .slc 1 (.t 140) (some (.t 144)) (some (.t 145)), none, [5, 9, 10]⟩, ⟨(some 147), .call 53 [(.t 135), (.t 139), (.t 146)], none, [0, 4, 11]⟩, ⟨(some 134), .mv (.t 147), none, [12]⟩, ⟨(some 148), .ext (.t 134) 0, none, [13]⟩, ⟨(some 149), .ext (.t 134) 1, none, [13]⟩, ⟨(some 11), .new [(.slice none 0 0), (.slice none 0 0), (.slice none 0 0), (.slice none 0 0), (.bool false)], none, []⟩, ⟨none, .store 5 (.t 11) (.t 148), none, [16, 14, 12, 0, 1, 2, 3, 4, 5, 6, 7, 8, 9, 10, 11, 12, 13, 14, 16]⟩, ⟨(some 12), .mv (.t 149), none, [15, 17, 0, 1, 2, 3, 4, 5, 6, 7, 8, 9, 10, 11, 12, 13, 14, 15, 16, 17]⟩]) (.seq (.seq (.reg false [⟨(some 150), .mv (.t 12), none, []⟩, ⟨(some 151), .un .not (.t 150), none, [0]⟩]) (.cond (.t 151) (.seq (.reg false [⟨(some 152), .load (some 5) (.t 5), none, []⟩, ⟨(some 153), .mv (.t 6), none, []⟩, ⟨none, .store 5 (.t 2) (.t 152), none, [0, 0]⟩, ⟨(some 3), .mv (.t 153), none, [1, 2, 0, 1, 2]⟩, ⟨(some 4), .mv (.v (.int .i64 8)), none, [3, 0, 1, 2, 3]⟩]) (.ret)) (.skip))) (.seq (.reg false [⟨(some 154), .load (some 5) (.t 11), none, []⟩, ⟨none, .store 5 (.t 5) (.t 154), none, [0, 0]⟩]) (.reg false [⟨(some 155), .mv (.t 9), none, []⟩, ⟨(some 156), .bin .add (.t 155) (.v (.int .i64 4)), none, [0]⟩, ⟨(some 6), .mv (.t 156), none, [1, 0, 1]⟩]))))))))))))))) (.seq (.seq (.reg false [⟨(some 157), .mv (.t 6), none, []⟩, ⟨(some 158), .mv (.t 0), none, []⟩, ⟨(some 159), .len (.t 158), none, [1]⟩, ⟨(some 160), .bin .lss (.t 157) (.t 159), none, [0, 2]⟩]) (.cond (.t 160) (.seq (.reg false [⟨(some 161), .load (some 5) (.t 5), none, []⟩, ⟨(some 162), .mv (.t 6), none, []⟩, ⟨none, .store 5 (.t 2) (.t 161), none, [0, 0]⟩, ⟨(some 3), .mv (.t 162), none, [1, 2, 0, 1, 2]⟩, ⟨(some 4), .mv (.v (.int .i64 8)), none, [3, 0, 1, 2, 3]⟩]) (.ret)) (.skip))) (.seq (.reg false [⟨(some 163), .load (some 5) (.t 5), none, []⟩, ⟨(some 164), .mv (.t 6), none, []⟩, ⟨none, .store 5 (.t 2) (.t 163), none, [0, 0]⟩, ⟨(some 3), .mv (.t 164), none, [1, 2, 0, 1, 2]⟩, ⟨(some 4), .mv (.v (.int .i64 0)), none, [3, 0, 1, 2, 3]⟩]) (.ret)))))))
def pr32 : List PR := [.c 2 (some 5), .t 3, .t 4]
abbrev ms32_0 : List Nat := [29, 30, 31, 32, 33, 34, 35, 36, 37, 38, 39, 40, 41, 42, 43, 44, 45, 46, 47, 48, 49, 50, 51, 3, 4, 52, 53, 54, 55, 56, 7, 57, 58, 8, 59, 60, 61, 62, 63, 64, 65, 66, 67, 68, 69, 70, 71, 72, 73, 74, 75, 76, 77, 78, 79, 80, 81, 82, 83, 84, 85, 86, 9, 87, 88, 89, 90, 91, 10, 92, 93, 94, 95, 96, 97, 98, 99, 100, 101, 102, 103, 104, 105, 106, 107, 108, 109, 110, 111, 112, 113, 114, 115, 116, 117, 118, 119, 120, 121, 122, 123, 124, 125, 126, 127, 128, 129, 130, 131, 132, 133, 135, 136, 137, 138, 139, 140, 141, 142, 143, 144, 145, 146, 147, 134, 148, 149, 11, 12, 150, 151, 152, 153, 154, 155, 156, 6]
abbrev os32_0 : List Nat := [2, 56, 11, 5]
theorem bd32:Try.f32.body=some (Try.f32.body.getD .skip):=by kernel_rfl
theorem cp32:bN Try.prog Try.f32.ntmps eU (Try.f32.body.getD .skip)=some pc32:=by kernel_rfl
theorem sp32 [bS] {env:Env} (hE:aA Try.prog env) {R:List Pa→List Pa→Prop} (hR:∀ ps rs,R ps rs→ps.length≤165∧pwp env pc32 (fun e s=>(e=.normal∨e=.ret)∧s.res pr32=some rs) (St.init ps)):Spec Try.prog 32 R :=
 bD hE bT aX Try.func32 bd32 cp32 (by kernel_rfl) (by kernel_rfl) (by kernel_rfl) hR
def pc36 : PC := .seq (.reg false [⟨(some 3), .box (.t 0), none, []⟩, ⟨(some 6), .nilRow 5 1, none, []⟩]) (.seq (.reg false [⟨(some 9), .mv (.t 2), none, []⟩, ⟨(some 10), .mv (.t 1), none, []⟩, ⟨(some 11), .bin .sub (.t 9) (.t 10), none, [0, 1]⟩, ⟨(some 12), .call 37 [(.t 11)], none, [2]⟩, ⟨(some 7), .mv (.t 12), none, [3, 3, 0, 1, 2, 3]⟩]) (.seq (.seq (.reg false [⟨(some 13), .mv (.t 1), none, []⟩, ⟨(some 8), .mv (.t 13), none, [0, 0]⟩]) (.block 0 (.loop (.seq (.seq (.reg false [⟨(some 14), .mv (.t 8), none, []⟩, ⟨(some 15), .mv (.t 2), none, []⟩, ⟨(some 16), .bin .lss (.t 14) (.t 15), none, [0, 1]⟩]) (.cond (.t 16) (.skip) (.exit 0))) (.seq (.block 1 (.seq (.reg false [⟨(some 19), .mv (.t 7), none, []⟩, ⟨(some 20), .fld 1 (.t 3), none, []⟩, ⟨(some 21), .load none (.t 20), none, [1]⟩, ⟨(some 22), .mv (.t 8), none, []⟩, ⟨(some 23), .ixs 1 (.t 21) (.t 22), none, [2, 3]⟩, ⟨(some 24), .load none (.t 23), none, [4]⟩, ⟨(some 25), .bin .add (.t 24) (.v (.int .i64 1)), none, [5]⟩, ⟨(some 26), .call 37 [(.t 25)], none, [6]⟩, ⟨(some 27), .append 5 1 1 (.t 19) (.t 26), none, [0, 7, 7]⟩, ⟨(some 7), .mv (.t 27), none, [8, 8, 0, 1, 2, 3, 4, 5, 6, 7, 8]⟩]) (.seq (.reg false [⟨(some 28), .mv (.t 7), none, []⟩, ⟨(some 29), .fld 0 (.t 3), none, []⟩, ⟨(some 30), .load none (.t 29), none, [1]⟩, ⟨(some 31), .mv (.t 8), none, []⟩, ⟨(some 32), .ixs 2 (.t 30) (.t 31), none, [2, 3]⟩, ⟨(some 33), .fld 0 (.t 32), none, [4]⟩, ⟨(some 34), .load none (.t 33), none, [5]⟩, ⟨(some 35), .call 37 [(.t 34)], none, [6]⟩, ⟨(some 36), .append 5 1 1 (.t 28) (.t 35), none, [0, 7, 7]⟩, ⟨(some 7), .mv (.t 36), none, [8, 8, 0, 1, 2, 3, 4, 5, 6, 7, 8]⟩]) (.reg false [⟨(some 37), .mv (.t 7), none, []⟩, ⟨(some 38), .fld 0 (.t 3), none, []⟩, ⟨(some 39), .load none (.t 38), none, [1]⟩, ⟨(some 40), .mv (.t 8), none, []⟩, ⟨(some 41), .ixs 2 (.t 39) (.t 40), none, [2, 3]⟩, ⟨(some 42), .fld 1 (.t 41), none, [4]⟩, ⟨(some 43), .load none (.t 42), none, [5]⟩, ⟨(some 44), .call 37 [(.t 43)], none, [6]⟩, ⟨(some 45), .append 5 1 1 (.t 37) (.t 44), none, [0, 7, 7]⟩, ⟨(some 7), .mv (.t 45), none, [8, 8, 0, 1, 2, 3, 4, 5, 6, 7, 8]⟩])))) (.reg false [⟨(some 17), .mv (.t 8), none, []⟩, ⟨(some 18), .bin .add (.t 17) (.v (.int .i64 1)), none, [0]⟩, ⟨(some 8), .mv (.t 18), none, [1, 0, 1]⟩])))))) (.seq (.reg false [⟨(some 46), .mv (.t 7), none, []⟩, ⟨(some 6), .mv (.t 46), none, [0, 0]⟩]) (.ret))))
abbrev ms36_0 : List Nat := [14, 15, 16, 19, 20, 21, 22, 23, 24, 25, 26, 27, 7, 28, 29, 30, 31, 32, 33, 34, 35, 36, 37, 38, 39, 40, 41, 42, 43, 44, 45, 17, 18, 8]
abbrev os36_0 : List Nat := [7]
theorem bd36:Try.f36.body=some (Try.f36.body.getD .skip):=by kernel_rfl
theorem cp36:bN Try.prog Try.f36.ntmps eU (Try.f36.body.getD .skip)=some pc36:=by kernel_rfl
def pc37 : PC := .seq (.reg false [⟨(some 2), .nilRow 5 1, none, []⟩]) (.seq (.reg false [⟨(some 3), .nilRow 5 1, none, []⟩]) (.seq (.block 0 (.loop (.seq (.seq (.reg false [⟨(some 4), .mv (.t 0), none, []⟩, ⟨(some 5), .bin .geq (.t 4) (.v (.int .i64 128)), none, [0]⟩]) (.cond (.t 5) (.skip) (.exit 0))) (.block 1 (.seq (.reg false [⟨(some 6), .mv (.t 3), none, []⟩, ⟨(some 7), .mv (.t 0), none, []⟩, ⟨(some 8), .bin .rem (.t 7) (.v (.int .i64 128)), none, [1]⟩, ⟨(some 9), .bin .add (.t 8) (.v (.int .i64 128)), none, [2]⟩, ⟨(some 10), .conv .u8 (.t 9), none, [3]⟩, ⟨(some 11), .bslice 5 1 [(.int .u8 0)] 1 [(0, 1, (.t 10))], none, [4]⟩, ⟨(some 12), .append 5 1 1 (.t 6) (.t 11), none, [0, 5]⟩, ⟨(some 3), .mv (.t 12), none, [6, 6, 0, 1, 2, 3, 4, 5, 6]⟩]) (.reg false [⟨(some 13), .mv (.t 0), none, []⟩, ⟨(some 14), .bin .quo (.t 13) (.v (.int .i64 128)), none, [0]⟩, ⟨(some 0), .mv (.t 14), none, [1, 0, 1]⟩])))))) (.seq (.reg false [⟨(some 15), .mv (.t 3), none, []⟩, ⟨(some 16), .mv (.t 0), none, []⟩, ⟨(some 17), .conv .u8 (.t 16), none, [1]⟩, ⟨(some 18), .bslice 5 1 [(.int .u8 0)] 1 [(0, 1, (.t 17))], none, [2]⟩, ⟨(some 19), .append 5 1 1 (.t 15) (.t 18), none, [0, 3]⟩, ⟨(some 2), .mv (.t 19), none, [4, 4, 0, 1, 2, 3, 4]⟩]) (.ret))))
def pr37 : List PR := [.t 2]
abbrev ms37_0 : List Nat := [4, 5, 6, 7, 8, 9, 10, 11, 12, 3, 13, 14, 0]
abbrev os37_0 : List Nat := [11, 3]
theorem bd37:Try.f37.body=some (Try.f37.body.getD .skip):=by kernel_rfl
theorem cp37:bN Try.prog Try.f37.ntmps eU (Try.f37.body.getD .skip)=some pc37:=by kernel_rfl
theorem sp37 [bS] {env:Env} (hE:aA Try.prog env) {R:List Pa→List Pa→Prop} (hR:∀ ps rs,R ps rs→ps.length≤20∧pwp env pc37 (fun e s=>(e=.normal∨e=.ret)∧s.res pr37=some rs) (St.init ps)):Spec Try.prog 37 R :=
 bD hE bT aX Try.func37 bd37 cp37 (by kernel_rfl) (by kernel_rfl) (by kernel_rfl) hR
def pc38 : PC := .seq (.reg false [⟨(some 1), .box (.t 0), none, []⟩, ⟨(some 2), .nilRow 3 1, none, []⟩]) (.seq (.reg false [⟨(some 3), .fld 0 (.t 1), none, []⟩, ⟨(some 4), .load none (.t 3), none, [0]⟩, ⟨(some 5), .fld 1 (.t 1), none, []⟩, ⟨(some 6), .load none (.t 5), none, [2]⟩, ⟨(some 7), .fld 2 (.t 1), none, []⟩, ⟨(some 8), .load none (.t 7), none, [4]⟩, ⟨(some 9), .fld 3 (.t 1), none, []⟩, ⟨(some 10), .load none (.t 9), none, [6]⟩, ⟨(some 11), .fld 4 (.t 1), none, []⟩, ⟨(some 12), .load none (.t 11), none, [8]⟩, ⟨(some 13), .fld 5 (.t 1), none, []⟩, ⟨(some 14), .load none (.t 13), none, [10]⟩, ⟨(some 15), .fld 6 (.t 1), none, []⟩, ⟨(some 16), .load none (.t 15), none, [12]⟩, ⟨(some 17), .fld 7 (.t 1), none, []⟩, ⟨(some 18), .load none (.t 17), none, [14]⟩, ⟨(some 19), .fld 8 (.t 1), none, []⟩, ⟨(some 20), .load none (.t 19), none, [16]⟩, ⟨(some 21), .bslice 3 1 [(.int .i64 0), (.int .i64 0), (.int .i64 0), (.int .i64 0), (.int .i64 0), (.int .i64 0), (.int .i64 0), (.int .i64 0), (.int .i64 0)] 9 [(0, 1, (.t 4)), (1, 1, (.t 6)), (2, 1, (.t 8)), (3, 1, (.t 10)), (4, 1, (.t 12)), (5, 1, (.t 14)), (6, 1, (.t 16)), (7, 1, (.t 18)), (8, 1, (.t 20))], none, [1, 3, 5, 7, 9, 11, 13, 15, 17]⟩, ⟨(some 2), .mv (.t 21), none, [18, 0, 1, 2, 3, 4, 5, 6, 7, 8, 9, 10, 11, 12, 13, 14, 15, 16, 17, 18]⟩]) (.ret))
def pr38 : List PR := [.t 2]
theorem bd38:Try.f38.body=some (Try.f38.body.getD .skip):=by kernel_rfl
theorem cp38:bN Try.prog Try.f38.ntmps eU (Try.f38.body.getD .skip)=some pc38:=by kernel_rfl
theorem sp38 [bS] {env:Env} (hE:aA Try.prog env) {R:List Pa→List Pa→Prop} (hR:∀ ps rs,R ps rs→ps.length≤22∧pwp env pc38 (fun e s=>(e=.normal∨e=.ret)∧s.res pr38=some rs) (St.init ps)):Spec Try.prog 38 R :=
 bD hE bT aX Try.func38 bd38 cp38 (by kernel_rfl) (by kernel_rfl) (by kernel_rfl) hR
def pc39 : PC := .seq (.reg false [⟨(some 2), .nilRow 5 1, none, []⟩]) (.seq (.seq (.reg false [⟨(some 3), .mv (.t 0), none, []⟩, ⟨(some 4), .bin .lss (.t 3) (.v (.int .i64 0)), none, [0]⟩]) (.cond (.t 4) (.seq (.reg false [⟨(some 5), .mv (.t 0), none, []⟩, ⟨(some 6), .bin .mul (.v (.int .i64 (-2))) (.t 5), none, [0]⟩, ⟨(some 7), .bin .sub (.t 6) (.v (.int .i64 1)), none, [1]⟩, ⟨(some 8), .call 37 [(.t 7)], none, [2]⟩, ⟨(some 2), .mv (.t 8), none, [3, 3, 0, 1, 2, 3]⟩]) (.ret)) (.skip))) (.seq (.reg false [⟨(some 9), .mv (.t 0), none, []⟩, ⟨(some 10), .bin .mul (.v (.int .i64 2)) (.t 9), none, [0]⟩, ⟨(some 11), .call 37 [(.t 10)], none, [1]⟩, ⟨(some 2), .mv (.t 11), none, [2, 2, 0, 1, 2]⟩]) (.ret)))
def pr39 : List PR := [.t 2]
theorem bd39:Try.f39.body=some (Try.f39.body.getD .skip):=by kernel_rfl
theorem cp39:bN Try.prog Try.f39.ntmps eU (Try.f39.body.getD .skip)=some pc39:=by kernel_rfl
theorem sp39 [bS] {env:Env} (hE:aA Try.prog env) {R:List Pa→List Pa→Prop} (hR:∀ ps rs,R ps rs→ps.length≤12∧pwp env pc39 (fun e s=>(e=.normal∨e=.ret)∧s.res pr39=some rs) (St.init ps)):Spec Try.prog 39 R :=
 bD hE bT aX Try.func39 bd39 cp39 (by kernel_rfl) (by kernel_rfl) (by kernel_rfl) hR
def pc40 : PC := .seq (.reg false [⟨(some 4), .nilRow 5 1, none, []⟩]) (.seq (.reg false [⟨(some 7), .mv (.t 0), none, []⟩, ⟨(some 8), .bslice 5 1 [(.int .u8 0)] 1 [(0, 1, (.t 7))], none, [0]⟩, ⟨(some 9), .mv (.t 1), none, []⟩, ⟨(some 10), .len (.t 9), none, [2]⟩, ⟨(some 11), .call 37 [(.t 10)], none, [3]⟩, ⟨(some 12), .append 5 1 1 (.t 8) (.t 11), none, [1, 4, 4]⟩, ⟨(some 5), .mv (.t 12), none, [5, 5, 0, 1, 2, 3, 4, 5]⟩]) (.seq (.reg false [⟨(some 13), .mv (.t 5), none, []⟩, ⟨(some 14), .mv (.t 1), none, []⟩, ⟨(some 15), .append 5 1 1 (.t 13) (.t 14), none, [0, 1]⟩, ⟨(some 5), .mv (.t 15), none, [2, 2, 0, 1, 2]⟩]) (.seq (.reg false [⟨(some 16), .mv (.t 5), none, []⟩, ⟨(some 17), .call 52 [(.t 16)], none, [0]⟩, ⟨(some 6), .mv (.t 17), none, [1, 1, 0, 1]⟩]) (.seq (.reg false [⟨(some 18), .mv (.t 5), none, []⟩, ⟨(some 19), .mv (.t 6), none, []⟩, ⟨(some 20), .bin .shr (.t 19) (.v (.int .u64 24)), none, [1]⟩, ⟨(some 21), .conv .u8 (.t 20), none, [2]⟩, ⟨(some 22), .mv (.t 6), none, []⟩, ⟨(some 23), .bin .shr (.t 22) (.v (.int .u64 16)), none, [4]⟩, ⟨(some 24), .conv .u8 (.t 23), none, [5]⟩, ⟨(some 25), .mv (.t 6), none, []⟩, ⟨(some 26), .bin .shr (.t 25) (.v (.int .u64 8)), none, [7]⟩, ⟨(some 27), .conv .u8 (.t 26), none, [8]⟩, ⟨(some 28), .mv (.t 6), none, []⟩, ⟨(some 29), .conv .u8 (.t 28), none, [10]⟩, ⟨(some 30), .bslice 5 1 [(.int .u8 0), (.int .u8 0), (.int .u8 0), (.int .u8 0)] 4 [(0, 1, (.t 21)), (1, 1, (.t 24)), (2, 1, (.t 27)), (3, 1, (.t 29))], none, [3, 6, 9, 11]⟩, ⟨(some 31), .append 5 1 1 (.t 18) (.t 30), none, [0, 12]⟩, ⟨(some 4), .mv (.t 31), none, [13, 13, 0, 1, 2, 3, 4, 5, 6, 7, 8, 9, 10, 11, 12, 13]⟩]) (.ret)))))
def pr40 : List PR := [.t 4]
theorem bd40:Try.f40.body=some (Try.f40.body.getD .skip):=by kernel_rfl
theorem cp40:bN Try.prog Try.f40.ntmps eU (Try.f40.body.getD .skip)=some pc40:=by kernel_rfl
theorem sp40 [bS] {env:Env} (hE:aA Try.prog env) {R:List Pa→List Pa→Prop} (hR:∀ ps rs,R ps rs→ps.length≤32∧pwp env pc40 (fun e s=>(e=.normal∨e=.ret)∧s.res pr40=some rs) (St.init ps)):Spec Try.prog 40 R :=
 bD hE bT aX Try.func40 bd40 cp40 (by kernel_rfl) (by kernel_rfl) (by kernel_rfl) hR
def pc52 : PC := .seq (.reg false [⟨(some 2), .mv (.v (.int .u32 0)), none, []⟩]) (.seq (.reg false [⟨(some 3), .mv (.v (.int .u32 4294967295)), none, []⟩]) (.seq (.seq (.reg false [⟨(some 4), .mv (.v (.int .i64 0)), none, []⟩]) (.block 0 (.loop (.seq (.seq (.reg false [⟨(some 7), .mv (.t 4), none, []⟩, ⟨(some 8), .mv (.t 0), none, []⟩, ⟨(some 9), .len (.t 8), none, [1]⟩, ⟨(some 10), .bin .lss (.t 7) (.t 9), none, [0, 2]⟩]) (.cond (.t 10) (.skip) (.exit 0))) (.seq (.block 1 (.seq (.reg false [⟨(some 13), .mv (.t 3), none, []⟩, ⟨(some 14), .mv (.t 0), none, []⟩, ⟨(some 15), .mv (.t 4), none, []⟩, ⟨(some 16), .ixs 1 (.t 14) (.t 15), none, [1, 2]⟩, ⟨(some 17), .load none (.t 16), none, [3]⟩, ⟨(some 18), .conv .u32 (.t 17), none, [4]⟩, ⟨(some 19), .bin .xor (.t 13) (.t 18), none, [0, 5]⟩, ⟨(some 3), .mv (.t 19), none, [6, 0, 1, 2, 3, 4, 5, 6]⟩]) (.seq (.reg false [⟨(some 5), .mv (.v (.int .i64 0)), none, []⟩]) (.block 2 (.loop (.seq (.seq (.reg false [⟨(some 20), .mv (.t 5), none, []⟩, ⟨(some 21), .bin .lss (.t 20) (.v (.int .i64 8)), none, [0]⟩]) (.cond (.t 21) (.skip) (.exit 2))) (.seq (.block 3 (.seq (.reg false [⟨(some 24), .mv (.t 3), none, []⟩, ⟨(some 25), .bin .rem (.t 24) (.v (.int .u32 2)), none, [0]⟩, ⟨(some 6), .mv (.t 25), none, [1, 0, 1]⟩]) (.seq (.reg false [⟨(some 26), .mv (.t 3), none, []⟩, ⟨(some 27), .bin .quo (.t 26) (.v (.int .u32 2)), none, [0]⟩, ⟨(some 3), .mv (.t 27), none, [1, 0, 1]⟩]) (.seq (.reg false [⟨(some 28), .mv (.t 6), none, []⟩, ⟨(some 29), .bin .eql (.t 28) (.v (.int .u32 1)), none, [0]⟩]) (.cond (.t 29) (.reg false [⟨(some 30), .mv (.t 3), none, []⟩, ⟨(some 31), .bin .xor (.t 30) (.v (.int .u32 3988292384)), none, [0]⟩, ⟨(some 3), .mv (.t 31), none, [1, 0, 1]⟩]) (.skip)))))) (.reg false [⟨(some 22), .mv (.t 5), none, []⟩, ⟨(some 23), .bin .add (.t 22) (.v (.int .i64 1)), none, [0]⟩, ⟨(some 5), .mv (.t 23), none, [1, 0, 1]⟩])))))))) (.reg false [⟨(some 11), .mv (.t 4), none, []⟩, ⟨(some 12), .bin .add (.t 11) (.v (.int .i64 1)), none, [0]⟩, ⟨(some 4), .mv (.t 12), none, [1, 0, 1]⟩])))))) (.seq (.reg false [⟨(some 32), .mv (.t 3), none, []⟩, ⟨(some 33), .bin .xor (.t 32) (.v (.int .u32 4294967295)), none, [0]⟩, ⟨(some 2), .mv (.t 33), none, [1, 0, 1]⟩]) (.ret))))
def pr52 : List PR := [.t 2]
abbrev ms52_0 : List Nat := [7, 8, 9, 10, 13, 14, 15, 16, 17, 18, 19, 3, 5, 20, 21, 24, 25, 6, 26, 27, 28, 29, 30, 31, 22, 23, 11, 12, 4]
abbrev os52_0 : List Nat := []
abbrev ms52_1 : List Nat := [20, 21, 24, 25, 6, 26, 27, 3, 28, 29, 30, 31, 22, 23, 5]
abbrev os52_1 : List Nat := []
theorem bd52:Try.f52.body=some (Try.f52.body.getD .skip):=by kernel_rfl
theorem cp52:bN Try.prog Try.f52.ntmps eU (Try.f52.body.getD .skip)=some pc52:=by kernel_rfl
theorem sp52 [bS] {env:Env} (hE:aA Try.prog env) {R:List Pa→List Pa→Prop} (hR:∀ ps rs,R ps rs→ps.length≤34∧pwp env pc52 (fun e s=>(e=.normal∨e=.ret)∧s.res pr52=some rs) (St.init ps)):Spec Try.prog 52 R :=
 bD hE bT aX Try.func52 bd52 cp52 (by kernel_rfl) (by kernel_rfl) (by kernel_rfl) hR
def pc33 : PC := .seq (.reg false [⟨(some 2), .box (.t 0), none, []⟩, ⟨(some 3), .box (.t 1), none, []⟩, ⟨(some 4), .mv (.v (.bool false)), none, []⟩]) (.seq (.seq (.reg false [⟨(some 7), .fld 0 (.t 2), none, []⟩, ⟨(some 8), .load none (.t 7), none, [0]⟩, ⟨(some 9), .len (.t 8), none, [1]⟩, ⟨(some 10), .fld 0 (.t 3), none, []⟩, ⟨(some 11), .load none (.t 10), none, [3]⟩, ⟨(some 12), .len (.t 11), none, [4]⟩, ⟨(some 13), .bin .neq (.t 9) (.t 12), none, [2, 5]⟩, ⟨(some 14), .mv (.t 13), none, [6]⟩, ⟨(some 15), .fld 1 (.t 2), (some (14, false)), [7]⟩, ⟨(some 16), .load none (.t 15), (some (14, false)), [8, 7]⟩, ⟨(some 17), .len (.t 16), (some (14, false)), [9, 7]⟩, ⟨(some 18), .fld 1 (.t 3), (some (14, false)), [7]⟩, ⟨(some 19), .load none (.t 18), (some (14, false)), [11, 7]⟩, ⟨(some 20), .len (.t 19), (some (14, false)), [12, 7]⟩, ⟨(some 21), .bin .neq (.t 17) (.t 20), (some (14, false)), [10, 13, 7]⟩, ⟨(some 22), .pick (.t 14) (.v (.bool true)) (.t 21), none, [7, 14]⟩]) (.cond (.t 22) (.seq (.reg false [⟨(some 4), .mv (.v (.bool false)), none, []⟩]) (.ret)) (.skip))) (.seq (.seq (.reg false [⟨(some 5), .mv (.v (.int .i64 0)), none, []⟩]) (.block 0 (.loop (.seq (.seq (.reg false [⟨(some 23), .mv (.t 5), none, []⟩, ⟨(some 24), .fld 0 (.t 2), none, []⟩, ⟨(some 25), .load none (.t 24), none, [1]⟩, ⟨(some 26), .len (.t 25), none, [2]⟩, ⟨(some 27), .bin .lss (.t 23) (.t 26), none, [0, 3]⟩]) (.cond (.t 27) (.skip) (.exit 0))) (.seq (.block 1 (.seq (.reg true [⟨(some 30), .fld 0 (.t 2), none, []⟩, ⟨(some 31), .load none (.t 30), none, [0]⟩, ⟨(some 32), .mv (.t 5), none, []⟩, ⟨(some 33), .ixs 2 (.t 31) (.t 32), none, [1, 2]⟩, ⟨(some 34), .load (some 2) (.t 33), none, [3]⟩, ⟨(some 35), .fld 0 (.t 3), none, []⟩, ⟨(some 36), .load none (.t 35), none, [5]⟩, ⟨(some 37), .mv (.t 5), none, []⟩, ⟨(some 38), .ixs 2 (.t 36) (.t 37), none, [6, 7]⟩, ⟨(some 39), .load (some 2) (.t 38), none, [8]⟩, ⟨(some 40), .eqs true [false, false] (.t 34) (.t 39), none, [4, 9]⟩]) (.cond (.t 40) (.seq (.reg false [⟨(some 4), .mv (.v (.bool false)), none, []⟩]) (.ret)) (.skip)))) (.reg false [⟨(some 28), .mv (.t 5), none, []⟩, ⟨(some 29), .bin .add (.t 28) (.v (.int .i64 1)), none, [0]⟩, ⟨(some 5), .mv (.t 29), none, [1, 0, 1]⟩])))))) (.seq (.seq (.reg false [⟨(some 6), .mv (.v (.int .i64 0)), none, []⟩]) (.block 2 (.loop (.seq (.seq (.reg false [⟨(some 41), .mv (.t 6), none, []⟩, ⟨(some 42), .fld 1 (.t 2), none, []⟩, ⟨(some 43), .load none (.t 42), none, [1]⟩, ⟨(some 44), .len (.t 43), none, [2]⟩, ⟨(some 45), .bin .lss (.t 41) (.t 44), none, [0, 3]⟩]) (.cond (.t 45) (.skip) (.exit 2))) (.seq (.block 3 (.seq (.reg true [⟨(some 48), .fld 1 (.t 2), none, []⟩, ⟨(some 49), .load none (.t 48), none, [0]⟩, ⟨(some 50), .mv (.t 6), none, []⟩, ⟨(some 51), .ixs 1 (.t 49) (.t 50), none, [1, 2]⟩, ⟨(some 52), .load none (.t 51), none, [3]⟩, ⟨(some 53), .fld 1 (.t 3), none, []⟩, ⟨(some 54), .load none (.t 53), none, [5]⟩, ⟨(some 55), .mv (.t 6), none, []⟩, ⟨(some 56), .ixs 1 (.t 54) (.t 55), none, [6, 7]⟩, ⟨(some 57), .load none (.t 56), none, [8]⟩, ⟨(some 58), .bin .neq (.t 52) (.t 57), none, [4, 9]⟩]) (.cond (.t 58) (.seq (.reg false [⟨(some 4), .mv (.v (.bool false)), none, []⟩]) (.ret)) (.skip)))) (.reg false [⟨(some 46), .mv (.t 6), none, []⟩, ⟨(some 47), .bin .add (.t 46) (.v (.int .i64 1)), none, [0]⟩, ⟨(some 6), .mv (.t 47), none, [1, 0, 1]⟩])))))) (.seq (.reg false [⟨(some 4), .mv (.v (.bool true)), none, []⟩]) (.ret)))))
def pr33 : List PR := [.t 4]
abbrev ms33_0 : List Nat := [23, 24, 25, 26, 27, 30, 31, 32, 33, 34, 35, 36, 37, 38, 39, 40, 4, 28, 29, 5]
abbrev os33_0 : List Nat := []
abbrev ms33_1 : List Nat := [41, 42, 43, 44, 45, 48, 49, 50, 51, 52, 53, 54, 55, 56, 57, 58, 4, 46, 47, 6]
abbrev os33_1 : List Nat := []
theorem bd33:Try.f33.body=some (Try.f33.body.getD .skip):=by kernel_rfl
theorem cp33:bN Try.prog Try.f33.ntmps eU (Try.f33.body.getD .skip)=some pc33:=by kernel_rfl
theorem sp33 [bS] {env:Env} (hE:aA Try.prog env) {R:List Pa→List Pa→Prop} (hR:∀ ps rs,R ps rs→ps.length≤59∧pwp env pc33 (fun e s=>(e=.normal∨e=.ret)∧s.res pr33=some rs) (St.init ps)):Spec Try.prog 33 R :=
 bD hE bT aX Try.func33 bd33 cp33 (by kernel_rfl) (by kernel_rfl) (by kernel_rfl) hR
def pc34 : PC := .seq (.reg false [⟨(some 1), .box (.t 0), none, []⟩, ⟨(some 2), .mv (.v (.bool false)), none, []⟩]) (.seq (.seq (.reg false [⟨(some 5), .fld 0 (.t 1), none, []⟩, ⟨(some 6), .load none (.t 5), none, [0]⟩, ⟨(some 7), .len (.t 6), none, [1]⟩, ⟨(some 8), .fld 1 (.t 1), none, []⟩, ⟨(some 9), .load none (.t 8), none, [3]⟩, ⟨(some 10), .len (.t 9), none, [4]⟩, ⟨(some 11), .bin .neq (.t 7) (.t 10), none, [2, 5]⟩]) (.cond (.t 11) (.seq (.reg false [⟨(some 2), .mv (.v (.bool false)), none, []⟩]) (.ret)) (.skip))) (.seq (.seq (.reg false [⟨(some 3), .mv (.v (.int .i64 0)), none, []⟩]) (.block 0 (.loop (.seq (.seq (.reg false [⟨(some 12), .mv (.t 3), none, []⟩, ⟨(some 13), .fld 0 (.t 1), none, []⟩, ⟨(some 14), .load none (.t 13), none, [1]⟩, ⟨(some 15), .len (.t 14), none, [2]⟩, ⟨(some 16), .bin .lss (.t 12) (.t 15), none, [0, 3]⟩]) (.cond (.t 16) (.skip) (.exit 0))) (.seq (.block 1 (.seq (.seq (.reg false [⟨(some 19), .fld 1 (.t 1), none, []⟩, ⟨(some 20), .load none (.t 19), none, [0]⟩, ⟨(some 21), .mv (.t 3), none, []⟩, ⟨(some 22), .ixs 1 (.t 20) (.t 21), none, [1, 2]⟩, ⟨(some 23), .load none (.t 22), none, [3]⟩, ⟨(some 24), .bin .lss (.t 23) (.v (.int .i64 (-1))), none, [4]⟩, ⟨(some 25), .mv (.t 24), none, [5]⟩, ⟨(some 26), .fld 1 (.t 1), (some (25, false)), [6]⟩, ⟨(some 27), .load none (.t 26), (some (25, false)), [7, 6]⟩, ⟨(some 28), .mv (.t 3), (some (25, false)), [6]⟩, ⟨(some 29), .ixs 1 (.t 27) (.t 28), (some (25, false)), [8, 9, 6]⟩, ⟨(some 30), .load none (.t 29), (some (25, false)), [10, 6]⟩, ⟨(some 31), .mv (.t 3), (some (25, false)), [6]⟩, ⟨(some 32), .bin .geq (.t 30) (.t 31), (some (25, false)), [11, 12, 6]⟩, ⟨(some 33), .pick (.t 25) (.v (.bool true)) (.t 32), none, [6, 13]⟩, ⟨(some 34), .mv (.t 33), none, [14, 6]⟩, ⟨(some 35), .fld 0 (.t 1), (some (34, false)), [15]⟩, ⟨(some 36), .load none (.t 35), (some (34, false)), [16, 15]⟩, ⟨(some 37), .mv (.t 3), (some (34, false)), [15]⟩, ⟨(some 38), .ixs 2 (.t 36) (.t 37), (some (34, false)), [17, 18, 15]⟩, ⟨(some 39), .fld 0 (.t 38), (some (34, false)), [19, 15]⟩, ⟨(some 40), .load none (.t 39), (some (34, false)), [20, 15]⟩, ⟨(some 41), .bin .lss (.t 40) (.v (.int .i64 0)), (some (34, false)), [21, 15]⟩, ⟨(some 42), .pick (.t 34) (.v (.bool true)) (.t 41), none, [15, 22]⟩, ⟨(some 43), .mv (.t 42), none, [23, 15]⟩, ⟨(some 44), .fld 0 (.t 1), (some (43, false)), [24]⟩, ⟨(some 45), .load none (.t 44), (some (43, false)), [25, 24]⟩, ⟨(some 46), .mv (.t 3), (some (43, false)), [24]⟩, ⟨(some 47), .ixs 2 (.t 45) (.t 46), (some (43, false)), [26, 27, 24]⟩, ⟨(some 48), .fld 1 (.t 47), (some (43, false)), [28, 24]⟩, ⟨(some 49), .load none (.t 48), (some (43, false)), [29, 24]⟩, ⟨(some 50), .bin .lss (.t 49) (.v (.int .i64 0)), (some (43, false)), [30, 24]⟩, ⟨(some 51), .pick (.t 43) (.v (.bool true)) (.t 50), none, [24, 31]⟩]) (.cond (.t 51) (.seq (.reg false [⟨(some 2), .mv (.v (.bool false)), none, []⟩]) (.ret)) (.skip))) (.seq (.reg false [⟨(some 4), .mv (.v (.int .i64 0)), none, []⟩]) (.block 2 (.loop (.seq (.seq (.reg false [⟨(some 52), .mv (.t 4), none, []⟩, ⟨(some 53), .mv (.t 3), none, []⟩, ⟨(some 54), .bin .lss (.t 52) (.t 53), none, [0, 1]⟩]) (.cond (.t 54) (.skip) (.exit 2))) (.seq (.block 3 (.seq (.reg true [⟨(some 57), .fld 0 (.t 1), none, []⟩, ⟨(some 58), .load none (.t 57), none, [0]⟩, ⟨(some 59), .mv (.t 4), none, []⟩, ⟨(some 60), .ixs 2 (.t 58) (.t 59), none, [1, 2]⟩, ⟨(some 61), .load (some 2) (.t 60), none, [3]⟩, ⟨(some 62), .fld 0 (.t 1), none, []⟩, ⟨(some 63), .load none (.t 62), none, [5]⟩, ⟨(some 64), .mv (.t 3), none, []⟩, ⟨(some 65), .ixs 2 (.t 63) (.t 64), none, [6, 7]⟩, ⟨(some 66), .load (some 2) (.t 65), none, [8]⟩, ⟨(some 67), .eqs false [false, false] (.t 61) (.t 66), none, [4, 9]⟩, ⟨(some 68), .mv (.t 67), none, [10]⟩, ⟨(some 69), .fld 1 (.t 1), (some (68, true)), [11]⟩, ⟨(some 70), .load none (.t 69), (some (68, true)), [12, 11]⟩, ⟨(some 71), .mv (.t 4), (some (68, true)), [11]⟩, ⟨(some 72), .ixs 1 (.t 70) (.t 71), (some (68, true)), [13, 14, 11]⟩, ⟨(some 73), .load none (.t 72), (some (68, true)), [15, 11]⟩, ⟨(some 74), .fld 1 (.t 1), (some (68, true)), [11]⟩, ⟨(some 75), .load none (.t 74), (some (68, true)), [17, 11]⟩, ⟨(some 76), .mv (.t 3), (some (68, true)), [11]⟩, ⟨(some 77), .ixs 1 (.t 75) (.t 76), (some (68, true)), [18, 19, 11]⟩, ⟨(some 78), .load none (.t 77), (some (68, true)), [20, 11]⟩, ⟨(some 79), .bin .eql (.t 73) (.t 78), (some (68, true)), [16, 21, 11]⟩, ⟨(some 80), .pick (.t 68) (.t 79) (.v (.bool false)), none, [11, 22]⟩]) (.cond (.t 80) (.seq (.reg false [⟨(some 2), .mv (.v (.bool false)), none, []⟩]) (.ret)) (.skip)))) (.reg false [⟨(some 55), .mv (.t 4), none, []⟩, ⟨(some 56), .bin .add (.t 55) (.v (.int .i64 1)), none, [0]⟩, ⟨(some 4), .mv (.t 56), none, [1, 0, 1]⟩])))))))) (.reg false [⟨(some 17), .mv (.t 3), none, []⟩, ⟨(some 18), .bin .add (.t 17) (.v (.int .i64 1)), none, [0]⟩, ⟨(some 3), .mv (.t 18), none, [1, 0, 1]⟩])))))) (.seq (.reg false [⟨(some 2), .mv (.v (.bool true)), none, []⟩]) (.ret))))
def pr34 : List PR := [.t 2]
abbrev ms34_0 : List Nat := [12, 13, 14, 15, 16, 19, 20, 21, 22, 23, 24, 25, 26, 27, 28, 29, 30, 31, 32, 33, 34, 35, 36, 37, 38, 39, 40, 41, 42, 43, 44, 45, 46, 47, 48, 49, 50, 51, 2, 4, 52, 53, 54, 57, 58, 59, 60, 61, 62, 63, 64, 65, 66, 67, 68, 69, 70, 71, 72, 73, 74, 75, 76, 77, 78, 79, 80, 55, 56, 17, 18, 3]
abbrev os34_0 : List Nat := []
abbrev ms34_1 : List Nat := [52, 53, 54, 57, 58, 59, 60, 61, 62, 63, 64, 65, 66, 67, 68, 69, 70, 71, 72, 73, 74, 75, 76, 77, 78, 79, 80, 2, 55, 56, 4]
abbrev os34_1 : List Nat := []
theorem bd34:Try.f34.body=some (Try.f34.body.getD .skip):=by kernel_rfl
theorem cp34:bN Try.prog Try.f34.ntmps eU (Try.f34.body.getD .skip)=some pc34:=by kernel_rfl
theorem sp34 [bS] {env:Env} (hE:aA Try.prog env) {R:List Pa→List Pa→Prop} (hR:∀ ps rs,R ps rs→ps.length≤81∧pwp env pc34 (fun e s=>(e=.normal∨e=.ret)∧s.res pr34=some rs) (St.init ps)):Spec Try.prog 34 R :=
 bD hE bT aX Try.func34 bd34 cp34 (by kernel_rfl) (by kernel_rfl) (by kernel_rfl) hR
def pc64 : PC := .seq (.reg false [⟨(some 3), .box (.t 0), none, []⟩, ⟨(some 5), .box (.t 2), none, []⟩, ⟨(some 6), .new [(.slice none 0 0), (.slice none 0 0)], none, []⟩, ⟨(some 7), .mv (.v (.int .i64 0)), none, []⟩]) (.seq (.seq (.reg false [⟨(some 8), .load (some 2) (.t 3), none, []⟩, ⟨(some 9), .call 34 [(.t 8)], none, [0]⟩, ⟨(some 10), .un .not (.t 9), none, [1]⟩, ⟨(some 11), .mv (.t 10), none, [2, 1]⟩, ⟨(some 12), .mv (.t 1), (some (11, false)), [3]⟩, ⟨(some 13), .bin .lss (.t 12) (.v (.int .i64 (-1))), (some (11, false)), [4, 3]⟩, ⟨(some 14), .pick (.t 11) (.v (.bool true)) (.t 13), none, [3, 5]⟩, ⟨(some 15), .mv (.t 14), none, [6, 3]⟩, ⟨(some 16), .mv (.t 1), (some (15, false)), [7]⟩, ⟨(some 17), .fld 0 (.t 3), (some (15, false)), [7]⟩, ⟨(some 18), .load none (.t 17), (some (15, false)), [9, 7]⟩, ⟨(some 19), .len (.t 18), (some (15, false)), [10, 7]⟩, ⟨(some 20), .bin .geq (.t 16) (.t 19), (some (15, false)), [8, 11, 7]⟩, ⟨(some 21), .pick (.t 15) (.v (.bool true)) (.t 20), none, [7, 12]⟩, ⟨(some 22), .mv (.t 21), none, [13, 7]⟩, ⟨(some 23), .fld 0 (.t 5), (some (22, false)), [14]⟩, ⟨(some 24), .load none (.t 23), (some (22, false)), [15, 14]⟩, ⟨(some 25), .bin .lss (.t 24) (.v (.int .i64 0)), (some (22, false)), [16, 14]⟩, ⟨(some 26), .pick (.t 22) (.v (.bool true)) (.t 25), none, [14, 17]⟩, ⟨(some 27), .mv (.t 26), none, [18, 14]⟩, ⟨(some 28), .fld 1 (.t 5), (some (27, false)), [19]⟩, ⟨(some 29), .load none (.t 28), (some (27, false)), [20, 19]⟩, ⟨(some 30), .bin .lss (.t 29) (.v (.int .i64 0)), (some (27, false)), [21, 19]⟩, ⟨(some 31), .pick (.t 27) (.v (.bool true)) (.t 30), none, [19, 22]⟩]) (.cond (.t 31) (.seq (.reg false [⟨(some 32), .build [(.slice none 0 0), (.slice none 0 0)] [], none, []⟩, ⟨none, .store 2 (.t 6) (.t 32), none, [0, 0]⟩, ⟨(some 7), .mv (.v (.int .i64 (-1))), none, [1, 0, 1]⟩]) (.ret)) (.skip))) (.seq (.reg false [⟨(some 33), .load (some 2) (.t 3), none, []⟩, ⟨(some 34), .mv (.t 1), none, []⟩, ⟨(some 35), .load (some 2) (.t 5), none, []⟩, ⟨(some 36), .call 65 [(.t 33), (.t 34), (.t 35)], none, [0, 1, 2]⟩, ⟨(some 37), .ext (.t 36) 0, none, [3]⟩, ⟨(some 38), .ext (.t 36) 1, none, [3]⟩, ⟨none, .store 2 (.t 6) (.t 37), none, [4, 3, 0, 1, 2, 3, 4, 5]⟩, ⟨(some 7), .mv (.t 38), none, [5, 6, 0, 1, 2, 3, 4, 5, 6]⟩]) (.ret)))
def pr64 : List PR := [.c 6 (some 2), .t 7]
theorem bd64:Try.f64.body=some (Try.f64.body.getD .skip):=by kernel_rfl
theorem cp64:bN Try.prog Try.f64.ntmps eU (Try.f64.body.getD .skip)=some pc64:=by kernel_rfl
theorem sp64 [bS] {env:Env} (hE:aA Try.prog env) {R:List Pa→List Pa→Prop} (hR:∀ ps rs,R ps rs→ps.length≤39∧pwp env pc64 (fun e s=>(e=.normal∨e=.ret)∧s.res pr64=some rs) (St.init ps)):Spec Try.prog 64 R :=
 bD hE bT aX Try.func64 bd64 cp64 (by kernel_rfl) (by kernel_rfl) (by kernel_rfl) hR
def pc65 : PC := .seq (.reg false [⟨(some 3), .box (.t 0), none, []⟩, ⟨(some 5), .box (.t 2), none, []⟩, ⟨(some 6), .new [(.slice none 0 0), (.slice none 0 0)], none, []⟩, ⟨(some 7), .mv (.v (.int .i64 0)), none, []⟩]) (.seq (.seq (.reg false [⟨(some 8), .mv (.v (.int .i64 0)), none, []⟩]) (.block 0 (.loop (.seq (.seq (.reg false [⟨(some 10), .mv (.t 8), none, []⟩, ⟨(some 11), .fld 0 (.t 3), none, []⟩, ⟨(some 12), .load none (.t 11), none, [1]⟩, ⟨(some 13), .len (.t 12), none, [2]⟩, ⟨(some 14), .bin .lss (.t 10) (.t 13), none, [0, 3]⟩]) (.cond (.t 14) (.skip) (.exit 0))) (.seq (.block 1 (.seq (.reg true [⟨(some 17), .fld 0 (.t 3), none, []⟩, ⟨(some 18), .load none (.t 17), none, [0]⟩, ⟨(some 19), .mv (.t 8), none, []⟩, ⟨(some 20), .ixs 2 (.t 18) (.t 19), none, [1, 2]⟩, ⟨(some 21), .load (some 2) (.t 20), none, [3]⟩, ⟨(some 22), .load (some 2) (.t 5), none, []⟩, ⟨(some 23), .eqs false [false, false] (.t 21) (.t 22), none, [4, 5]⟩, ⟨(some 24), .mv (.t 23), none, [6]⟩, ⟨(some 25), .fld 1 (.t 3), (some (24, true)), [7]⟩, ⟨(some 26), .load none (.t 25), (some (24, true)), [8, 7]⟩, ⟨(some 27), .mv (.t 8), (some (24, true)), [7]⟩, ⟨(some 28), .ixs 1 (.t 26) (.t 27), (some (24, true)), [9, 10, 7]⟩, ⟨(some 29), .load none (.t 28), (some (24, true)), [11, 7]⟩, ⟨(some 30), .mv (.t 1), (some (24, true)), [7]⟩, ⟨(some 31), .bin .eql (.t 29) (.t 30), (some (24, true)), [12, 13, 7]⟩, ⟨(some 32), .pick (.t 24) (.t 31) (.v (.bool false)), none, [7, 14]⟩]) (.cond (.t 32) (.seq (.reg false [⟨(some 33), .load (some 2) (.t 3), none, []⟩, ⟨(some 34), .mv (.t 8), none, []⟩, ⟨none, .store 2 (.t 6) (.t 33), none, [0, 0]⟩, ⟨(some 7), .mv (.t 34), none, [1, 2, 0, 1, 2]⟩]) (.ret)) (.skip)))) (.reg false [⟨(some 15), .mv (.t 8), none, []⟩, ⟨(some 16), .bin .add (.t 15) (.v (.int .i64 1)), none, [0]⟩, ⟨(some 8), .mv (.t 16), none, [1, 0, 1]⟩])))))) (.seq (.reg false [⟨(some 9), .new [(.slice none 0 0), (.slice none 0 0)], none, []⟩]) (.seq (.reg true [⟨(some 35), .fld 0 (.t 9), none, []⟩, ⟨(some 36), .load none (.t 35), none, [0]⟩, ⟨(some 37), .fld 0 (.t 3), none, []⟩, ⟨(some 38), .load none (.t 37), none, [2]⟩, ⟨(some 39), .append 50 2 16 (.t 36) (.t 38), none, [1, 3]⟩, ⟨(some 40), .load (some 2) (.t 5), none, []⟩, ⟨(some 41), .bslice 50 2 [(.int .i64 0), (.int .i64 0)] 1 [(0, 2, (.t 40))], none, [5]⟩, ⟨(some 42), .append 50 2 16 (.t 39) (.t 41), none, [4, 6, 4]⟩, ⟨(some 43), .fld 0 (.t 9), none, [0, 1, 2, 3, 4, 5, 6, 7]⟩, ⟨none, .store 1 (.t 43) (.t 42), none, [8, 7, 7, 0, 1, 2, 3, 4, 5, 6, 7]⟩]) (.seq (.reg false [⟨(some 44), .fld 1 (.t 9), none, []⟩, ⟨(some 45), .load none (.t 44), none, [0]⟩, ⟨(some 46), .fld 1 (.t 3), none, []⟩, ⟨(some 47), .load none (.t 46), none, [2]⟩, ⟨(some 48), .append 3 1 8 (.t 45) (.t 47), none, [1, 3]⟩, ⟨(some 49), .mv (.t 1), none, []⟩, ⟨(some 50), .bslice 3 1 [(.int .i64 0)] 1 [(0, 1, (.t 49))], none, [5]⟩, ⟨(some 51), .append 3 1 8 (.t 48) (.t 50), none, [4, 6, 4]⟩, ⟨(some 52), .fld 1 (.t 9), none, [0, 1, 2, 3, 4, 5, 6, 7]⟩, ⟨none, .store 1 (.t 52) (.t 51), none, [8, 7, 7, 0, 1, 2, 3, 4, 5, 6, 7]⟩]) (.seq (.reg true [⟨(some 53), .load (some 2) (.t 9), none, []⟩, ⟨(some 54), .fld 0 (.t 3), none, []⟩, ⟨(some 55), .load none (.t 54), none, [1]⟩, ⟨(some 56), .len (.t 55), none, [2]⟩, ⟨none, .store 2 (.t 6) (.t 53), none, [0, 0]⟩, ⟨(some 7), .mv (.t 56), none, [3, 4, 0, 1, 2, 3, 4]⟩]) (.ret))))))
def pr65 : List PR := [.c 6 (some 2), .t 7]
abbrev ms65_0 : List Nat := [10, 11, 12, 13, 14, 17, 18, 19, 20, 21, 22, 23, 24, 25, 26, 27, 28, 29, 30, 31, 32, 33, 34, 7, 15, 16, 8]
abbrev os65_0 : List Nat := [6]
theorem bd65:Try.f65.body=some (Try.f65.body.getD .skip):=by kernel_rfl
theorem cp65:bN Try.prog Try.f65.ntmps eU (Try.f65.body.getD .skip)=some pc65:=by kernel_rfl
theorem sp65 [bS] {env:Env} (hE:aA Try.prog env) {R:List Pa→List Pa→Prop} (hR:∀ ps rs,R ps rs→ps.length≤57∧pwp env pc65 (fun e s=>(e=.normal∨e=.ret)∧s.res pr65=some rs) (St.init ps)):Spec Try.prog 65 R :=
 bD hE bT aX Try.func65 bd65 cp65 (by kernel_rfl) (by kernel_rfl) (by kernel_rfl) hR
def pc35c0 : PC := .seq (.reg false [⟨(some 108), .fld 4 (.t 1), none, []⟩, ⟨(some 109), .load none (.t 108), none, [0]⟩, ⟨(some 110), .bin .eql (.t 109) (.v (.int .i64 0)), none, [1]⟩, ⟨(some 111), .mv (.t 110), none, [2]⟩, ⟨(some 112), .fld 5 (.t 1), (some (111, true)), [3]⟩, ⟨(some 113), .load none (.t 112), (some (111, true)), [4, 3]⟩, ⟨(some 114), .bin .eql (.t 113) (.v (.int .i64 0)), (some (111, true)), [5, 3]⟩, ⟨(some 115), .pick (.t 111) (.t 114) (.v (.bool false)), none, [3, 6]⟩, ⟨(some 2), .mv (.t 115), none, [7, 3, 0, 1, 2, 3, 4, 5, 6, 7]⟩]) (.ret)
def pc35c1 : PC := .seq (.reg false [⟨(some 56), .fld 2 (.t 1), none, []⟩, ⟨(some 57), .load none (.t 56), none, [0]⟩, ⟨(some 58), .bin .eql (.t 57) (.v (.int .i64 0)), none, [1]⟩, ⟨(some 59), .mv (.t 58), none, [2]⟩, ⟨(some 60), .fld 3 (.t 1), (some (59, true)), [3]⟩, ⟨(some 61), .load none (.t 60), (some (59, true)), [4, 3]⟩, ⟨(some 62), .bin .eql (.t 61) (.v (.int .i64 0)), (some (59, true)), [5, 3]⟩, ⟨(some 63), .pick (.t 59) (.t 62) (.v (.bool false)), none, [3, 6]⟩, ⟨(some 64), .mv (.t 63), none, [7, 3]⟩, ⟨(some 65), .fld 5 (.t 1), (some (64, true)), [8]⟩, ⟨(some 66), .load none (.t 65), (some (64, true)), [9, 8]⟩, ⟨(some 67), .bin .eql (.t 66) (.v (.int .i64 0)), (some (64, true)), [10, 8]⟩, ⟨(some 68), .pick (.t 64) (.t 67) (.v (.bool false)), none, [8, 11]⟩, ⟨(some 69), .mv (.t 68), none, [12, 8]⟩, ⟨(some 70), .fld 4 (.t 1), (some (69, true)), [13]⟩, ⟨(some 71), .load none (.t 70), (some (69, true)), [14, 13]⟩, ⟨(some 72), .bin .gtr (.t 71) (.v (.int .i64 0)), (some (69, true)), [15, 13]⟩, ⟨(some 73), .pick (.t 69) (.t 72) (.v (.bool false)), none, [13, 16]⟩, ⟨(some 74), .mv (.t 73), none, [17, 13]⟩, ⟨(some 75), .fld 4 (.t 1), (some (74, true)), [18]⟩, ⟨(some 76), .load none (.t 75), (some (74, true)), [19, 18]⟩, ⟨(some 77), .bin .lss (.t 76) (.v (.int .i64 8)), (some (74, true)), [20, 18]⟩, ⟨(some 78), .pick (.t 74) (.t 77) (.v (.bool false)), none, [18, 21]⟩, ⟨(some 2), .mv (.t 78), none, [22, 18, 0, 1, 2, 3, 4, 5, 6, 7, 8, 9, 10, 11, 12, 13, 14, 15, 16, 17, 18, 19, 20, 21, 22]⟩]) (.ret)
def pc35c2 : PC := .seq (.reg false [⟨(some 84), .fld 3 (.t 1), none, []⟩, ⟨(some 85), .load none (.t 84), none, [0]⟩, ⟨(some 86), .bin .eql (.t 85) (.v (.int .i64 0)), none, [1]⟩, ⟨(some 87), .mv (.t 86), none, [2]⟩, ⟨(some 88), .fld 5 (.t 1), (some (87, true)), [3]⟩, ⟨(some 89), .load none (.t 88), (some (87, true)), [4, 3]⟩, ⟨(some 90), .bin .leq (.t 89) (.v (.int .i64 64)), (some (87, true)), [5, 3]⟩, ⟨(some 91), .pick (.t 87) (.t 90) (.v (.bool false)), none, [3, 6]⟩, ⟨(some 2), .mv (.t 91), none, [7, 3, 0, 1, 2, 3, 4, 5, 6, 7]⟩]) (.ret)
def pc35c3 : PC := .seq (.reg false [⟨(some 95), .fld 3 (.t 1), none, []⟩, ⟨(some 96), .load none (.t 95), none, [0]⟩, ⟨(some 97), .bin .eql (.t 96) (.v (.int .i64 0)), none, [1]⟩, ⟨(some 98), .mv (.t 97), none, [2]⟩, ⟨(some 99), .fld 4 (.t 1), (some (98, true)), [3]⟩, ⟨(some 100), .load none (.t 99), (some (98, true)), [4, 3]⟩, ⟨(some 101), .bin .eql (.t 100) (.v (.int .i64 0)), (some (98, true)), [5, 3]⟩, ⟨(some 102), .pick (.t 98) (.t 101) (.v (.bool false)), none, [3, 6]⟩, ⟨(some 103), .mv (.t 102), none, [7, 3]⟩, ⟨(some 104), .fld 5 (.t 1), (some (103, true)), [8]⟩, ⟨(some 105), .load none (.t 104), (some (103, true)), [9, 8]⟩, ⟨(some 106), .bin .leq (.t 105) (.v (.int .i64 64)), (some (103, true)), [10, 8]⟩, ⟨(some 107), .pick (.t 103) (.t 106) (.v (.bool false)), none, [8, 11]⟩, ⟨(some 2), .mv (.t 107), none, [12, 8, 0, 1, 2, 3, 4, 5, 6, 7, 8, 9, 10, 11, 12]⟩]) (.ret)
def pc35c4 : PC := .seq (.seq (.reg false [⟨(some 93), .bin .eql (.t 53) (.v (.int .i64 19)), none, []⟩, ⟨(some 92), .mv (.t 93), none, [0]⟩]) (.cond (.t 92) (.skip) (.reg false [⟨(some 94), .bin .eql (.t 53) (.v (.int .i64 20)), none, []⟩, ⟨(some 92), .mv (.t 94), none, [0]⟩]))) (.cond (.t 92) (pc35c3) (.skip))
def pc35c5 : PC := .seq (.seq (.reg false [⟨(some 80), .bin .eql (.t 53) (.v (.int .i64 15)), none, []⟩, ⟨(some 79), .mv (.t 80), none, [0]⟩]) (.cond (.t 79) (.skip) (.seq (.reg false [⟨(some 81), .bin .eql (.t 53) (.v (.int .i64 16)), none, []⟩, ⟨(some 79), .mv (.t 81), none, [0]⟩]) (.cond (.t 79) (.skip) (.seq (.reg false [⟨(some 82), .bin .eql (.t 53) (.v (.int .i64 17)), none, []⟩, ⟨(some 79), .mv (.t 82), none, [0]⟩]) (.cond (.t 79) (.skip) (.reg false [⟨(some 83), .bin .eql (.t 53) (.v (.int .i64 18)), none, []⟩, ⟨(some 79), .mv (.t 83), none, [0]⟩]))))))) (.cond (.t 79) (pc35c2) (pc35c4))
def pc35c6 : PC := .seq (.reg false [⟨(some 52), .fld 1 (.t 1), none, []⟩, ⟨(some 53), .load none (.t 52), none, [0]⟩]) (.block 2 (.seq (.reg false [⟨(some 55), .bin .eql (.t 53) (.v (.int .i64 14)), none, []⟩, ⟨(some 54), .mv (.t 55), none, [0]⟩]) (.cond (.t 54) (pc35c1) (pc35c5))))
def pc35c7 : PC := .seq (pc35c6) (pc35c0)
def pc35c8 : PC := .seq (.seq (.reg false [⟨(some 4), .mv (.v (.int .i64 0)), none, []⟩]) (.block 0 (.loop (.seq (.seq (.reg false [⟨(some 34), .mv (.t 4), none, []⟩, ⟨(some 35), .mv (.t 3), none, []⟩, ⟨(some 36), .len (.t 35), none, [1]⟩, ⟨(some 37), .bin .lss (.t 34) (.t 36), none, [0, 2]⟩]) (.cond (.t 37) (.skip) (.exit 0))) (.seq (.block 1 (.seq (.reg false [⟨(some 40), .mv (.t 3), none, []⟩, ⟨(some 41), .mv (.t 4), none, []⟩, ⟨(some 42), .ixs 1 (.t 40) (.t 41), none, [0, 1]⟩, ⟨(some 43), .load none (.t 42), none, [2]⟩, ⟨(some 44), .bin .lss (.t 43) (.v (.int .i64 0)), none, [3]⟩, ⟨(some 45), .mv (.t 44), none, [4]⟩, ⟨(some 46), .mv (.t 3), (some (45, false)), [5]⟩, ⟨(some 47), .mv (.t 4), (some (45, false)), [5]⟩, ⟨(some 48), .ixs 1 (.t 46) (.t 47), (some (45, false)), [6, 7, 5]⟩, ⟨(some 49), .load none (.t 48), (some (45, false)), [8, 5]⟩, ⟨(some 50), .bin .gtr (.t 49) (.v (.int .i64 2147483647)), (some (45, false)), [9, 5]⟩, ⟨(some 51), .pick (.t 45) (.v (.bool true)) (.t 50), none, [5, 10]⟩]) (.cond (.t 51) (.seq (.reg false [⟨(some 2), .mv (.v (.bool false)), none, []⟩]) (.ret)) (.skip)))) (.reg false [⟨(some 38), .mv (.t 4), none, []⟩, ⟨(some 39), .bin .add (.t 38) (.v (.int .i64 1)), none, [0]⟩, ⟨(some 4), .mv (.t 39), none, [1, 0, 1]⟩])))))) (pc35c7)
def pc35c9 : PC := .seq (.reg false [⟨(some 19), .fld 2 (.t 1), none, []⟩, ⟨(some 20), .load none (.t 19), none, [0]⟩, ⟨(some 21), .fld 3 (.t 1), none, []⟩, ⟨(some 22), .load none (.t 21), none, [2]⟩, ⟨(some 23), .fld 4 (.t 1), none, []⟩, ⟨(some 24), .load none (.t 23), none, [4]⟩, ⟨(some 25), .fld 5 (.t 1), none, []⟩, ⟨(some 26), .load none (.t 25), none, [6]⟩, ⟨(some 27), .fld 6 (.t 1), none, []⟩, ⟨(some 28), .load none (.t 27), none, [8]⟩, ⟨(some 29), .fld 7 (.t 1), none, []⟩, ⟨(some 30), .load none (.t 29), none, [10]⟩, ⟨(some 31), .fld 8 (.t 1), none, []⟩, ⟨(some 32), .load none (.t 31), none, [12]⟩, ⟨(some 33), .bslice 3 1 [(.int .i64 0), (.int .i64 0), (.int .i64 0), (.int .i64 0), (.int .i64 0), (.int .i64 0), (.int .i64 0)] 7 [(0, 1, (.t 20)), (1, 1, (.t 22)), (2, 1, (.t 24)), (3, 1, (.t 26)), (4, 1, (.t 28)), (5, 1, (.t 30)), (6, 1, (.t 32))], none, [1, 3, 5, 7, 9, 11, 13]⟩, ⟨(some 3), .mv (.t 33), none, [14, 0, 1, 2, 3, 4, 5, 6, 7, 8, 9, 10, 11, 12, 13, 14]⟩]) (pc35c8)
def pc35 : PC := .seq (.reg false [⟨(some 1), .box (.t 0), none, []⟩, ⟨(some 2), .mv (.v (.bool false)), none, []⟩]) (.seq (.seq (.reg false [⟨(some 5), .fld 0 (.t 1), none, []⟩, ⟨(some 6), .load none (.t 5), none, [0]⟩, ⟨(some 7), .bin .lss (.t 6) (.v (.int .i64 0)), none, [1]⟩, ⟨(some 8), .mv (.t 7), none, [2]⟩, ⟨(some 9), .fld 0 (.t 1), (some (8, false)), [3]⟩, ⟨(some 10), .load none (.t 9), (some (8, false)), [4, 3]⟩, ⟨(some 11), .bin .geq (.t 10) (.v (.int .i64 8)), (some (8, false)), [5, 3]⟩, ⟨(some 12), .pick (.t 8) (.v (.bool true)) (.t 11), none, [3, 6]⟩, ⟨(some 13), .mv (.t 12), none, [7, 3]⟩, ⟨(some 14), .fld 1 (.t 1), (some (13, false)), [8]⟩, ⟨(some 15), .load none (.t 14), (some (13, false)), [9, 8]⟩, ⟨(some 16), .call 54 [(.t 15)], (some (13, false)), [10, 8, 8]⟩, ⟨(some 17), .bin .eql (.t 16) (.v (.string ⟨#[]⟩)), (some (13, false)), [11, 8]⟩, ⟨(some 18), .pick (.t 13) (.v (.bool true)) (.t 17), none, [8, 12]⟩]) (.cond (.t 18) (.seq (.reg false [⟨(some 2), .mv (.v (.bool false)), none, []⟩]) (.ret)) (.skip))) (pc35c9))
def pr35 : List PR := [.t 2]
abbrev ms35_0 : List Nat := [34, 35, 36, 37, 40, 41, 42, 43, 44, 45, 46, 47, 48, 49, 50, 51, 2, 38, 39, 4]
abbrev os35_0 : List Nat := []
theorem bd35:Try.f35.body=some (Try.f35.body.getD .skip):=by kernel_rfl
theorem cp35:bN Try.prog Try.f35.ntmps eU (Try.f35.body.getD .skip)=some pc35:=by kernel_rfl
theorem sp35 [bS] {env:Env} (hE:aA Try.prog env) {R:List Pa→List Pa→Prop} (hR:∀ ps rs,R ps rs→ps.length≤116∧pwp env pc35 (fun e s=>(e=.normal∨e=.ret)∧s.res pr35=some rs) (St.init ps)):Spec Try.prog 35 R :=
 bD hE bT aX Try.func35 bd35 cp35 (by kernel_rfl) (by kernel_rfl) (by kernel_rfl) hR
def pc54 : PC := .seq (.reg false [⟨(some 2), .mv (.v (.string ⟨#[]⟩)), none, []⟩]) (.seq (.reg false [⟨(some 4), .bslice 9 1 [(.string ⟨#[]⟩), (.string ⟨#[]⟩), (.string ⟨#[]⟩), (.string ⟨#[]⟩), (.string ⟨#[]⟩), (.string ⟨#[]⟩), (.string ⟨#[]⟩), (.string ⟨#[]⟩), (.string ⟨#[]⟩), (.string ⟨#[]⟩), (.string ⟨#[]⟩), (.string ⟨#[]⟩), (.string ⟨#[]⟩), (.string ⟨#[]⟩), (.string ⟨#[]⟩), (.string ⟨#[]⟩), (.string ⟨#[]⟩), (.string ⟨#[]⟩), (.string ⟨#[]⟩), (.string ⟨#[]⟩), (.string ⟨#[]⟩)] 21 [(0, 1, (.v (.string ⟨#[]⟩))), (1, 1, (.v (.string ⟨#[114, 101, 97, 100]⟩))), (2, 1, (.v (.string ⟨#[119, 114, 105, 116, 101]⟩))), (3, 1, (.v (.string ⟨#[97, 116, 111, 109, 105, 99, 45, 114, 101, 97, 100]⟩))), (4, 1, (.v (.string ⟨#[97, 116, 111, 109, 105, 99, 45, 119, 114, 105, 116, 101]⟩))), (5, 1, (.v (.string ⟨#[97, 116, 111, 109, 105, 99, 45, 98, 111, 116, 104]⟩))), (6, 1, (.v (.string ⟨#[108, 111, 99, 107]⟩))), (7, 1, (.v (.string ⟨#[117, 110, 108, 111, 99, 107]⟩))), (8, 1, (.v (.string ⟨#[114, 108, 111, 99, 107]⟩))), (9, 1, (.v (.string ⟨#[114, 117, 110, 108, 111, 99, 107]⟩))), (10, 1, (.v (.string ⟨#[100, 111, 110, 101]⟩))), (11, 1, (.v (.string ⟨#[119, 97, 105, 116]⟩))), (12, 1, (.v (.string ⟨#[111, 110, 99, 101, 45, 101, 110, 100]⟩))), (13, 1, (.v (.string ⟨#[111, 110, 99, 101, 45, 115, 101, 101, 110]⟩))), (14, 1, (.v (.string ⟨#[103, 111]⟩))), (15, 1, (.v (.string ⟨#[115, 101, 110, 100, 45, 115, 116, 97, 114, 116]⟩))), (16, 1, (.v (.string ⟨#[115, 101, 110, 100, 45, 101, 110, 100]⟩))), (17, 1, (.v (.string ⟨#[114, 101, 99, 118, 45, 115, 116, 97, 114, 116]⟩))), (18, 1, (.v (.string ⟨#[114, 101, 99, 118, 45, 101, 110, 100]⟩))), (19, 1, (.v (.string ⟨#[99, 108, 111, 115, 101]⟩))), (20, 1, (.v (.string ⟨#[114, 101, 99, 118, 45, 99, 108, 111, 115, 101, 100]⟩)))], none, []⟩, ⟨(some 3), .mv (.t 4), none, [0, 0]⟩]) (.seq (.seq (.reg false [⟨(some 5), .mv (.t 0), none, []⟩, ⟨(some 6), .bin .lss (.t 5) (.v (.int .i64 1)), none, [0]⟩, ⟨(some 7), .mv (.t 6), none, [1]⟩, ⟨(some 8), .mv (.t 0), (some (7, false)), [2]⟩, ⟨(some 9), .bin .gtr (.t 8) (.v (.int .i64 20)), (some (7, false)), [3, 2]⟩, ⟨(some 10), .pick (.t 7) (.v (.bool true)) (.t 9), none, [2, 4]⟩]) (.cond (.t 10) (.seq (.reg false [⟨(some 2), .mv (.v (.string ⟨#[]⟩)), none, []⟩]) (.ret)) (.skip))) (.seq (.reg false [⟨(some 11), .mv (.t 3), none, []⟩, ⟨(some 12), .mv (.t 0), none, []⟩, ⟨(some 13), .ixs 1 (.t 11) (.t 12), none, [0, 1]⟩, ⟨(some 14), .load none (.t 13), none, [2]⟩, ⟨(some 2), .mv (.t 14), none, [3, 0, 1, 2, 3]⟩]) (.ret))))
def pr54 : List PR := [.t 2]
theorem bd54:Try.f54.body=some (Try.f54.body.getD .skip):=by kernel_rfl
theorem cp54:bN Try.prog Try.f54.ntmps eU (Try.f54.body.getD .skip)=some pc54:=by kernel_rfl
theorem sp54 [bS] {env:Env} (hE:aA Try.prog env) {R:List Pa→List Pa→Prop} (hR:∀ ps rs,R ps rs→ps.length≤15∧pwp env pc54 (fun e s=>(e=.normal∨e=.ret)∧s.res pr54=some rs) (St.init ps)):Spec Try.prog 54 R :=
 bD hE bT aX Try.func54 bd54 cp54 (by kernel_rfl) (by kernel_rfl) (by kernel_rfl) hR
theorem bd3:Try.f3.body=some (Try.f3.body.getD .skip):=by kernel_rfl
def pc4 : PC := .seq (.reg false [⟨(some 2), .mv (.v (.bool false)), none, []⟩]) (.seq (.seq (.reg false [⟨(some 7), .call 10 [], none, []⟩, ⟨(some 8), .un .not (.t 7), none, [0]⟩]) (.cond (.t 8) (.seq (.reg false [⟨(some 2), .mv (.v (.bool false)), none, []⟩]) (.ret)) (.skip))) (.seq (.seq (.reg false [⟨(some 9), .mv (.t 0), none, []⟩, ⟨(some 10), .len (.t 9), none, [0]⟩, ⟨(some 11), .bin .gtr (.t 10) (.v (.int .i64 2000)), none, [1]⟩]) (.cond (.t 11) (.seq (.reg false [⟨(some 2), .mv (.v (.bool true)), none, []⟩]) (.ret)) (.skip))) (.seq (.reg false [⟨(some 13), .mv (.t 0), none, []⟩, ⟨(some 14), .call 14 [(.t 13)], none, [0]⟩, ⟨(some 12), .mv (.t 14), none, [1]⟩, ⟨(some 15), .ext (.t 12) 0, none, [2]⟩, ⟨(some 16), .ext (.t 12) 1, none, [2]⟩, ⟨(some 3), .new [(.slice none 0 0), (.slice none 0 0), (.slice none 0 0)], none, []⟩, ⟨none, .store 3 (.t 3) (.t 15), none, [5, 3, 1, 0, 1, 2, 3, 5]⟩, ⟨(some 4), .mv (.t 16), none, [4, 6, 0, 1, 2, 3, 4, 5, 6]⟩]) (.seq (.reg false [⟨(some 18), .mv (.t 0), none, []⟩, ⟨(some 19), .call 15 [(.t 18)], none, [0]⟩, ⟨(some 17), .mv (.t 19), none, [1]⟩, ⟨(some 20), .ext (.t 17) 0, none, [2]⟩, ⟨(some 21), .ext (.t 17) 1, none, [2]⟩, ⟨(some 5), .new [(.slice none 0 0), (.slice none 0 0), (.slice none 0 0)], none, []⟩, ⟨none, .store 3 (.t 5) (.t 20), none, [5, 3, 1, 0, 1, 2, 3, 5]⟩, ⟨(some 6), .mv (.t 21), none, [4, 6, 0, 1, 2, 3, 4, 5, 6]⟩]) (.seq (.reg false [⟨(some 22), .mv (.t 4), none, []⟩, ⟨(some 23), .mv (.t 6), none, []⟩, ⟨(some 24), .bin .eql (.t 22) (.t 23), none, [0, 1]⟩, ⟨(some 25), .mv (.t 24), none, [2]⟩, ⟨(some 26), .load (some 3) (.t 3), (some (25, true)), [3]⟩, ⟨(some 27), .load (some 3) (.t 5), (some (25, true)), [3]⟩, ⟨(some 28), .call 16 [(.t 26), (.t 27)], (some (25, true)), [4, 5, 3, 3]⟩, ⟨(some 29), .pick (.t 25) (.t 28) (.v (.bool false)), none, [3, 6]⟩, ⟨(some 30), .mv (.t 29), none, [7, 6]⟩, ⟨(some 31), .load (some 3) (.t 3), (some (30, true)), [8]⟩, ⟨(some 32), .call 17 [(.t 31)], (some (30, true)), [9, 8, 8]⟩, ⟨(some 33), .pick (.t 30) (.t 32) (.v (.bool false)), none, [8, 10]⟩, ⟨(some 2), .mv (.t 33), none, [11, 10, 0, 1, 2, 3, 4, 5, 6, 7, 8, 9, 10, 11]⟩]) (.ret))))))
def pr4 : List PR := [.t 2]
theorem bd4:Try.f4.body=some (Try.f4.body.getD .skip):=by kernel_rfl
theorem cp4:bN Try.prog Try.f4.ntmps eU (Try.f4.body.getD .skip)=some pc4:=by kernel_rfl
theorem sp4 [bS] {env:Env} (hE:aA Try.prog env) {R:List Pa→List Pa→Prop} (hR:∀ ps rs,R ps rs→ps.length≤34∧pwp env pc4 (fun e s=>(e=.normal∨e=.ret)∧s.res pr4=some rs) (St.init ps)):Spec Try.prog 4 R :=
 bD hE bT aX Try.func4 bd4 cp4 (by kernel_rfl) (by kernel_rfl) (by kernel_rfl) hR
def pc5 : PC := .seq (.reg false [⟨(some 2), .mv (.v (.bool false)), none, []⟩]) (.seq (.seq (.reg false [⟨(some 7), .call 10 [], none, []⟩, ⟨(some 8), .un .not (.t 7), none, [0]⟩]) (.cond (.t 8) (.seq (.reg false [⟨(some 2), .mv (.v (.bool false)), none, []⟩]) (.ret)) (.skip))) (.seq (.seq (.reg false [⟨(some 9), .mv (.t 0), none, []⟩, ⟨(some 10), .len (.t 9), none, [0]⟩, ⟨(some 11), .bin .gtr (.t 10) (.v (.int .i64 2000)), none, [1]⟩]) (.cond (.t 11) (.seq (.reg false [⟨(some 2), .mv (.v (.bool true)), none, []⟩]) (.ret)) (.skip))) (.seq (.reg false [⟨(some 13), .mv (.t 0), none, []⟩, ⟨(some 14), .call 18 [(.t 13)], none, [0]⟩, ⟨(some 12), .mv (.t 14), none, [1]⟩, ⟨(some 15), .ext (.t 12) 0, none, [2]⟩, ⟨(some 16), .ext (.t 12) 1, none, [2]⟩, ⟨(some 3), .new [(.slice none 0 0), (.slice none 0 0), (.slice none 0 0)], none, []⟩, ⟨none, .store 3 (.t 3) (.t 15), none, [5, 3, 1, 0, 1, 2, 3, 5]⟩, ⟨(some 4), .mv (.t 16), none, [4, 6, 0, 1, 2, 3, 4, 5, 6]⟩]) (.seq (.reg false [⟨(some 18), .mv (.t 0), none, []⟩, ⟨(some 19), .call 19 [(.t 18)], none, [0]⟩, ⟨(some 17), .mv (.t 19), none, [1]⟩, ⟨(some 20), .ext (.t 17) 0, none, [2]⟩, ⟨(some 21), .ext (.t 17) 1, none, [2]⟩, ⟨(some 5), .new [(.slice none 0 0), (.slice none 0 0), (.slice none 0 0)], none, []⟩, ⟨none, .store 3 (.t 5) (.t 20), none, [5, 3, 1, 0, 1, 2, 3, 5]⟩, ⟨(some 6), .mv (.t 21), none, [4, 6, 0, 1, 2, 3, 4, 5, 6]⟩]) (.seq (.reg false [⟨(some 22), .mv (.t 4), none, []⟩, ⟨(some 23), .mv (.t 6), none, []⟩, ⟨(some 24), .bin .eql (.t 22) (.t 23), none, [0, 1]⟩, ⟨(some 25), .mv (.t 24), none, [2]⟩, ⟨(some 26), .load (some 3) (.t 3), (some (25, true)), [3]⟩, ⟨(some 27), .load (some 3) (.t 5), (some (25, true)), [3]⟩, ⟨(some 28), .call 16 [(.t 26), (.t 27)], (some (25, true)), [4, 5, 3, 3]⟩, ⟨(some 29), .pick (.t 25) (.t 28) (.v (.bool false)), none, [3, 6]⟩, ⟨(some 2), .mv (.t 29), none, [7, 6, 0, 1, 2, 3, 4, 5, 6, 7]⟩]) (.ret))))))
def pr5 : List PR := [.t 2]
theorem bd5:Try.f5.body=some (Try.f5.body.getD .skip):=by kernel_rfl
theorem cp5:bN Try.prog Try.f5.ntmps eU (Try.f5.body.getD .skip)=some pc5:=by kernel_rfl
theorem sp5 [bS] {env:Env} (hE:aA Try.prog env) {R:List Pa→List Pa→Prop} (hR:∀ ps rs,R ps rs→ps.length≤30∧pwp env pc5 (fun e s=>(e=.normal∨e=.ret)∧s.res pr5=some rs) (St.init ps)):Spec Try.prog 5 R :=
 bD hE bT aX Try.func5 bd5 cp5 (by kernel_rfl) (by kernel_rfl) (by kernel_rfl) hR
def pc6 : PC := .seq (.reg false [⟨(some 2), .mv (.v (.bool false)), none, []⟩]) (.seq (.seq (.reg false [⟨(some 7), .call 10 [], none, []⟩, ⟨(some 8), .un .not (.t 7), none, [0]⟩]) (.cond (.t 8) (.seq (.reg false [⟨(some 2), .mv (.v (.bool false)), none, []⟩]) (.ret)) (.skip))) (.seq (.seq (.reg false [⟨(some 9), .mv (.t 0), none, []⟩, ⟨(some 10), .len (.t 9), none, [0]⟩, ⟨(some 11), .bin .gtr (.t 10) (.v (.int .i64 2000)), none, [1]⟩]) (.cond (.t 11) (.seq (.reg false [⟨(some 2), .mv (.v (.bool true)), none, []⟩]) (.ret)) (.skip))) (.seq (.reg false [⟨(some 13), .mv (.t 0), none, []⟩, ⟨(some 14), .call 18 [(.t 13)], none, [0]⟩, ⟨(some 12), .mv (.t 14), none, [1]⟩, ⟨(some 15), .ext (.t 12) 0, none, [2]⟩, ⟨(some 16), .ext (.t 12) 1, none, [2]⟩, ⟨(some 3), .new [(.slice none 0 0), (.slice none 0 0), (.slice none 0 0)], none, []⟩, ⟨none, .store 3 (.t 3) (.t 15), none, [5, 3, 1, 0, 1, 2, 3, 5]⟩, ⟨(some 4), .mv (.t 16), none, [4, 6, 0, 1, 2, 3, 4, 5, 6]⟩]) (.seq (.seq (.reg false [⟨(some 17), .mv (.t 4), none, []⟩, ⟨(some 18), .bin .neq (.t 17) (.v (.int .i64 0)), none, [0]⟩]) (.cond (.t 18) (.seq (.reg false [⟨(some 19), .mv (.t 4), none, []⟩, ⟨(some 20), .bin .eql (.t 19) (.v (.int .i64 8)), none, [0]⟩, ⟨(some 21), .mv (.t 20), none, [1]⟩, ⟨(some 22), .mv (.t 4), (some (21, false)), [2]⟩, ⟨(some 23), .bin .eql (.t 22) (.v (.int .i64 9)), (some (21, false)), [3, 2]⟩, ⟨(some 24), .pick (.t 21) (.v (.bool true)) (.t 23), none, [2, 4]⟩, ⟨(some 25), .mv (.t 24), none, [5, 2]⟩, ⟨(some 26), .load (some 3) (.t 3), (some (25, true)), [6]⟩, ⟨(some 27), .build [(.slice none 0 0), (.slice none 0 0), (.slice none 0 0)] [], (some (25, true)), [6]⟩, ⟨(some 28), .call 16 [(.t 26), (.t 27)], (some (25, true)), [7, 8, 6, 6]⟩, ⟨(some 29), .pick (.t 25) (.t 28) (.v (.bool false)), none, [6, 9]⟩, ⟨(some 2), .mv (.t 29), none, [10, 9, 0, 1, 2, 3, 4, 5, 6, 7, 8, 9, 10]⟩]) (.ret)) (.skip))) (.seq (.reg false [⟨(some 31), .load (some 3) (.t 3), none, []⟩, ⟨(some 32), .call 13 [(.t 31)], none, [0]⟩, ⟨(some 30), .mv (.t 32), none, [1]⟩, ⟨(some 33), .ext (.t 30) 0, none, [2]⟩, ⟨(some 34), .ext (.t 30) 1, none, [2]⟩, ⟨(some 5), .mv (.t 33), none, [3, 1, 0, 1, 2, 3]⟩, ⟨(some 6), .mv (.t 34), none, [4, 5, 0, 1, 2, 3, 4, 5]⟩]) (.seq (.reg false [⟨(some 35), .mv (.t 6), none, []⟩, ⟨(some 36), .bin .eql (.t 35) (.v (.int .i64 0)), none, [0]⟩, ⟨(some 37), .mv (.t 36), none, [1]⟩, ⟨(some 38), .mv (.t 5), (some (37, true)), [2]⟩, ⟨(some 39), .bstr (.t 38), (some (37, true)), [3, 2]⟩, ⟨(some 40), .mv (.t 0), (some (37, true)), [2]⟩, ⟨(some 41), .bstr (.t 40), (some (37, true)), [5, 2]⟩, ⟨(some 42), .bin .eql (.t 39) (.t 41), (some (37, true)), [4, 6, 2]⟩, ⟨(some 43), .pick (.t 37) (.t 42) (.v (.bool false)), none, [2, 7]⟩, ⟨(some 2), .mv (.t 43), none, [8, 2, 0, 1, 2, 3, 4, 5, 6, 7, 8]⟩]) (.ret)))))))
def pr6 : List PR := [.t 2]
theorem bd6:Try.f6.body=some (Try.f6.body.getD .skip):=by kernel_rfl
theorem cp6:bN Try.prog Try.f6.ntmps eU (Try.f6.body.getD .skip)=some pc6:=by kernel_rfl
theorem sp6 [bS] {env:Env} (hE:aA Try.prog env) {R:List Pa→List Pa→Prop} (hR:∀ ps rs,R ps rs→ps.length≤44∧pwp env pc6 (fun e s=>(e=.normal∨e=.ret)∧s.res pr6=some rs) (St.init ps)):Spec Try.prog 6 R :=
 bD hE bT aX Try.func6 bd6 cp6 (by kernel_rfl) (by kernel_rfl) (by kernel_rfl) hR
def pc7 : PC := .seq (.reg false [⟨(some 1), .box (.t 0), none, []⟩, ⟨(some 2), .mv (.v (.bool false)), none, []⟩]) (.seq (.seq (.reg false [⟨(some 9), .call 10 [], none, []⟩, ⟨(some 10), .un .not (.t 9), none, [0]⟩]) (.cond (.t 10) (.seq (.reg false [⟨(some 2), .mv (.v (.bool false)), none, []⟩]) (.ret)) (.skip))) (.seq (.seq (.reg false [⟨(some 11), .load (some 3) (.t 1), none, []⟩, ⟨(some 12), .call 11 [(.t 11)], none, [0]⟩]) (.cond (.t 12) (.seq (.reg false [⟨(some 2), .mv (.v (.bool true)), none, []⟩]) (.ret)) (.skip))) (.seq (.reg false [⟨(some 14), .load (some 3) (.t 1), none, []⟩, ⟨(some 15), .call 12 [(.t 14)], none, [0]⟩, ⟨(some 13), .mv (.t 15), none, [1]⟩, ⟨(some 16), .ext (.t 13) 0, none, [2]⟩, ⟨(some 17), .ext (.t 13) 1, none, [2]⟩, ⟨(some 3), .mv (.t 16), none, [3, 1, 0, 1, 2, 3]⟩, ⟨(some 4), .mv (.t 17), none, [4, 5, 0, 1, 2, 3, 4, 5]⟩]) (.seq (.seq (.reg false [⟨(some 18), .mv (.t 4), none, []⟩, ⟨(some 19), .bin .neq (.t 18) (.v (.int .i64 0)), none, [0]⟩]) (.cond (.t 19) (.seq (.reg false [⟨(some 20), .mv (.t 4), none, []⟩, ⟨(some 21), .bin .eql (.t 20) (.v (.int .i64 1)), none, [0]⟩, ⟨(some 22), .mv (.t 21), none, [1]⟩, ⟨(some 23), .mv (.t 3), (some (22, true)), [2]⟩, ⟨(some 24), .len (.t 23), (some (22, true)), [3, 2]⟩, ⟨(some 25), .bin .eql (.t 24) (.v (.int .i64 0)), (some (22, true)), [4, 2]⟩, ⟨(some 26), .pick (.t 22) (.t 25) (.v (.bool false)), none, [2, 5]⟩, ⟨(some 2), .mv (.t 26), none, [6, 2, 0, 1, 2, 3, 4, 5, 6]⟩]) (.ret)) (.skip))) (.seq (.reg false [⟨(some 28), .mv (.t 3), none, []⟩, ⟨(some 29), .call 18 [(.t 28)], none, [0]⟩, ⟨(some 27), .mv (.t 29), none, [1]⟩, ⟨(some 30), .ext (.t 27) 0, none, [2]⟩, ⟨(some 31), .ext (.t 27) 1, none, [2]⟩, ⟨(some 5), .new [(.slice none 0 0), (.slice none 0 0), (.slice none 0 0)], none, []⟩, ⟨none, .store 3 (.t 5) (.t 30), none, [5, 3, 1, 0, 1, 2, 3, 5]⟩, ⟨(some 6), .mv (.t 31), none, [4, 6, 0, 1, 2, 3, 4, 5, 6]⟩]) (.seq (.reg false [⟨(some 33), .mv (.t 3), none, []⟩, ⟨(some 34), .call 14 [(.t 33)], none, [0]⟩, ⟨(some 32), .mv (.t 34), none, [1]⟩, ⟨(some 35), .ext (.t 32) 0, none, [2]⟩, ⟨(some 36), .ext (.t 32) 1, none, [2]⟩, ⟨(some 7), .new [(.slice none 0 0), (.slice none 0 0), (.slice none 0 0)], none, []⟩, ⟨none, .store 3 (.t 7) (.t 35), none, [5, 3, 1, 0, 1, 2, 3, 5]⟩, ⟨(some 8), .mv (.t 36), none, [4, 6, 0, 1, 2, 3, 4, 5, 6]⟩]) (.seq (.reg false [⟨(some 37), .mv (.t 6), none, []⟩, ⟨(some 38), .bin .eql (.t 37) (.v (.int .i64 0)), none, [0]⟩, ⟨(some 39), .mv (.t 38), none, [1]⟩, ⟨(some 40), .mv (.t 8), (some (39, true)), [2]⟩, ⟨(some 41), .mv (.t 3), (some (39, true)), [2]⟩, ⟨(some 42), .len (.t 41), (some (39, true)), [4, 2]⟩, ⟨(some 43), .bin .eql (.t 40) (.t 42), (some (39, true)), [3, 5, 2]⟩, ⟨(some 44), .pick (.t 39) (.t 43) (.v (.bool false)), none, [2, 6]⟩, ⟨(some 45), .mv (.t 44), none, [7, 2]⟩, ⟨(some 46), .load (some 3) (.t 5), (some (45, true)), [8]⟩, ⟨(some 47), .load (some 3) (.t 1), (some (45, true)), [8]⟩, ⟨(some 48), .call 16 [(.t 46), (.t 47)], (some (45, true)), [9, 10, 8, 8]⟩, ⟨(some 49), .pick (.t 45) (.t 48) (.v (.bool false)), none, [8, 11]⟩, ⟨(some 50), .mv (.t 49), none, [12, 11]⟩, ⟨(some 51), .load (some 3) (.t 7), (some (50, true)), [13]⟩, ⟨(some 52), .load (some 3) (.t 1), (some (50, true)), [13]⟩, ⟨(some 53), .call 16 [(.t 51), (.t 52)], (some (50, true)), [14, 15, 13, 13]⟩, ⟨(some 54), .pick (.t 50) (.t 53) (.v (.bool false)), none, [13, 16]⟩, ⟨(some 2), .mv (.t 54), none, [17, 16, 0, 1, 2, 3, 4, 5, 6, 7, 8, 9, 10, 11, 12, 13, 14, 15, 16, 17]⟩]) (.ret))))))))
def pr7 : List PR := [.t 2]
theorem bd7:Try.f7.body=some (Try.f7.body.getD .skip):=by kernel_rfl
theorem cp7:bN Try.prog Try.f7.ntmps eU (Try.f7.body.getD .skip)=some pc7:=by kernel_rfl
theorem sp7 [bS] {env:Env} (hE:aA Try.prog env) {R:List Pa→List Pa→Prop} (hR:∀ ps rs,R ps rs→ps.length≤55∧pwp env pc7 (fun e s=>(e=.normal∨e=.ret)∧s.res pr7=some rs) (St.init ps)):Spec Try.prog 7 R :=
 bD hE bT aX Try.func7 bd7 cp7 (by kernel_rfl) (by kernel_rfl) (by kernel_rfl) hR
def pc10 : PC := .seq (.reg false [⟨(some 0), .mv (.v (.bool false)), none, []⟩]) (.seq (.reg false [⟨(some 7), .build [(.slice none 0 0), (.slice none 0 0), (.slice none 0 0)] [], none, []⟩, ⟨(some 8), .call 12 [(.t 7)], none, [0]⟩, ⟨(some 6), .mv (.t 8), none, [1]⟩, ⟨(some 9), .ext (.t 6) 0, none, [2]⟩, ⟨(some 10), .ext (.t 6) 1, none, [2]⟩, ⟨(some 1), .mv (.t 9), none, [3, 1, 0, 1, 2, 3]⟩, ⟨(some 2), .mv (.t 10), none, [4, 5, 0, 1, 2, 3, 4, 5]⟩]) (.seq (.reg false [⟨(some 11), .build [(.int .i64 0), (.int .i64 0), (.int .i64 0), (.int .i64 0), (.int .i64 0), (.int .i64 0), (.int .i64 0), (.int .i64 0), (.int .i64 0)] [(1, 1, (.v (.int .i64 1)))], none, []⟩, ⟨(some 12), .bslice 42 9 [(.int .i64 0), (.int .i64 0), (.int .i64 0), (.int .i64 0), (.int .i64 0), (.int .i64 0), (.int .i64 0), (.int .i64 0), (.int .i64 0)] 1 [(0, 9, (.t 11))], none, [0]⟩, ⟨(some 13), .build [(.int .i64 0), (.int .i64 0)] [], none, []⟩, ⟨(some 14), .bslice 50 2 [(.int .i64 0), (.int .i64 0)] 1 [(0, 2, (.t 13))], none, [2]⟩, ⟨(some 15), .bslice 3 1 [(.int .i64 0)] 1 [(0, 1, (.v (.int .i64 (-1))))], none, []⟩, ⟨(some 16), .build [(.slice none 0 0), (.slice none 0 0)] [(0, 1, (.t 14)), (1, 1, (.t 15))], none, [3, 4]⟩, ⟨(some 17), .build [(.slice none 0 0), (.slice none 0 0), (.slice none 0 0)] [(0, 1, (.t 12)), (1, 2, (.t 16))], none, [1, 5]⟩, ⟨(some 3), .new [(.slice none 0 0), (.slice none 0 0), (.slice none 0 0)], none, []⟩, ⟨none, .store 3 (.t 3) (.t 17), none, [7, 6, 0, 1, 2, 3, 4, 5, 6, 7]⟩]) (.seq (.reg false [⟨(some 19), .load (some 3) (.t 3), none, []⟩, ⟨(some 20), .call 12 [(.t 19)], none, [0]⟩, ⟨(some 18), .mv (.t 20), none, [1]⟩, ⟨(some 21), .ext (.t 18) 0, none, [2]⟩, ⟨(some 22), .ext (.t 18) 1, none, [2]⟩, ⟨(some 4), .mv (.t 21), none, [3, 1, 0, 1, 2, 3]⟩, ⟨(some 5), .mv (.t 22), none, [4, 5, 0, 1, 2, 3, 4, 5]⟩]) (.seq (.reg false [⟨(some 23), .mv (.t 2), none, []⟩, ⟨(some 24), .bin .eql (.t 23) (.v (.int .i64 0)), none, [0]⟩, ⟨(some 25), .mv (.t 24), none, [1]⟩, ⟨(some 26), .mv (.t 1), (some (25, true)), [2]⟩, ⟨(some 27), .len (.t 26), (some (25, true)), [3, 2]⟩, ⟨(some 28), .bin .eql (.t 27) (.v (.int .i64 16)), (some (25, true)), [4, 2]⟩, ⟨(some 29), .pick (.t 25) (.t 28) (.v (.bool false)), none, [2, 5]⟩, ⟨(some 30), .mv (.t 29), none, [6, 2]⟩, ⟨(some 31), .mv (.t 1), (some (30, true)), [7]⟩, ⟨(some 32), .slc 1 (.t 31) none (some (.v (.int .i64 12))), (some (30, true)), [8, 7]⟩, ⟨(some 33), .bstr (.t 32), (some (30, true)), [9, 7]⟩, ⟨(some 34), .bin .eql (.t 33) (.v (.string ⟨#[73, 84, 82, 65, 67, 69, 49, 10, 69, 2, 0, 0]⟩)), (some (30, true)), [10, 7]⟩, ⟨(some 35), .pick (.t 30) (.t 34) (.v (.bool false)), none, [7, 11]⟩, ⟨(some 36), .mv (.t 35), none, [12, 7]⟩, ⟨(some 37), .mv (.t 5), (some (36, true)), [13]⟩, ⟨(some 38), .bin .eql (.t 37) (.v (.int .i64 0)), (some (36, true)), [14, 13]⟩, ⟨(some 39), .pick (.t 36) (.t 38) (.v (.bool false)), none, [13, 15]⟩, ⟨(some 40), .mv (.t 39), none, [16, 13]⟩, ⟨(some 41), .mv (.t 4), (some (40, true)), [17]⟩, ⟨(some 42), .len (.t 41), (some (40, true)), [18, 17]⟩, ⟨(some 43), .bin .gtr (.t 42) (.v (.int .i64 24)), (some (40, true)), [19, 17]⟩, ⟨(some 44), .pick (.t 40) (.t 43) (.v (.bool false)), none, [17, 20]⟩, ⟨(some 45), .mv (.t 44), none, [21, 17]⟩, ⟨(some 46), .mv (.t 4), (some (45, true)), [22]⟩, ⟨(some 47), .slc 1 (.t 46) (some (.v (.int .i64 8))) (some (.v (.int .i64 24))), (some (45, true)), [23, 22]⟩, ⟨(some 48), .bstr (.t 47), (some (45, true)), [24, 22]⟩, ⟨(some 49), .bin .eql (.t 48) (.v (.string ⟨#[66, 14, 1, 0, 0, 0, 1, 0, 2, 0, 0, 0, 0, 0, 0, 0]⟩)), (some (45, true)), [25, 22]⟩, ⟨(some 50), .pick (.t 45) (.t 49) (.v (.bool false)), none, [22, 26]⟩, ⟨(some 0), .mv (.t 50), none, [27, 22, 0, 1, 2, 3, 4, 5, 6, 7, 8, 9, 10, 11, 12, 13, 14, 15, 16, 17, 18, 19, 20, 21, 22, 23, 24, 25, 26, 27]⟩]) (.ret)))))
def pr10 : List PR := [.t 0]
theorem bd10:Try.f10.body=some (Try.f10.body.getD .skip):=by kernel_rfl
theorem cp10:bN Try.prog Try.f10.ntmps eU (Try.f10.body.getD .skip)=some pc10:=by kernel_rfl
theorem sp10 [bS] {env:Env} (hE:aA Try.prog env) {R:List Pa→List Pa→Prop} (hR:∀ ps rs,R ps rs→ps.length≤51∧pwp env pc10 (fun e s=>(e=.normal∨e=.ret)∧s.res pr10=some rs) (St.init ps)):Spec Try.prog 10 R :=
 bD hE bT aX Try.func10 bd10 cp10 (by kernel_rfl) (by kernel_rfl) (by kernel_rfl) hR
def pc11 : PC := .seq (.reg false [⟨(some 1), .box (.t 0), none, []⟩, ⟨(some 2), .mv (.v (.bool false)), none, []⟩]) (.seq (.reg false [⟨(some 3), .fld 0 (.t 1), none, []⟩, ⟨(some 4), .load none (.t 3), none, [0]⟩, ⟨(some 5), .len (.t 4), none, [1]⟩, ⟨(some 6), .bin .gtr (.t 5) (.v (.int .i64 80)), none, [2]⟩, ⟨(some 7), .mv (.t 6), none, [3]⟩, ⟨(some 8), .fld 1 (.t 1), (some (7, false)), [4]⟩, ⟨(some 9), .fld 0 (.t 8), (some (7, false)), [5, 4]⟩, ⟨(some 10), .load none (.t 9), (some (7, false)), [6, 4]⟩, ⟨(some 11), .len (.t 10), (some (7, false)), [7, 4]⟩, ⟨(some 12), .bin .gtr (.t 11) (.v (.int .i64 60)), (some (7, false)), [8, 4]⟩, ⟨(some 13), .pick (.t 7) (.v (.bool true)) (.t 12), none, [4, 9]⟩, ⟨(some 14), .mv (.t 13), none, [10, 4]⟩, ⟨(some 15), .fld 1 (.t 1), (some (14, false)), [11]⟩, ⟨(some 16), .fld 1 (.t 15), (some (14, false)), [12, 11]⟩, ⟨(some 17), .load none (.t 16), (some (14, false)), [13, 11]⟩, ⟨(some 18), .len (.t 17), (some (14, false)), [14, 11]⟩, ⟨(some 19), .bin .gtr (.t 18) (.v (.int .i64 60)), (some (14, false)), [15, 11]⟩, ⟨(some 20), .pick (.t 14) (.v (.bool true)) (.t 19), none, [11, 16]⟩, ⟨(some 2), .mv (.t 20), none, [17, 11, 0, 1, 2, 3, 4, 5, 6, 7, 8, 9, 10, 11, 12, 13, 14, 15, 16, 17]⟩]) (.ret))
def pr11 : List PR := [.t 2]
theorem bd11:Try.f11.body=some (Try.f11.body.getD .skip):=by kernel_rfl
theorem cp11:bN Try.prog Try.f11.ntmps eU (Try.f11.body.getD .skip)=some pc11:=by kernel_rfl
theorem sp11 [bS] {env:Env} (hE:aA Try.prog env) {R:List Pa→List Pa→Prop} (hR:∀ ps rs,R ps rs→ps.length≤21∧pwp env pc11 (fun e s=>(e=.normal∨e=.ret)∧s.res pr11=some rs) (St.init ps)):Spec Try.prog 11 R :=
 bD hE bT aX Try.func11 bd11 cp11 (by kernel_rfl) (by kernel_rfl) (by kernel_rfl) hR
def pc55 : PC := .seq (.reg false [⟨(some 1), .box (.t 0), none, []⟩, ⟨(some 2), .mv (.v (.bool false)), none, []⟩]) (.seq (.reg false [⟨(some 3), .fld 0 (.t 1), none, []⟩, ⟨(some 4), .load none (.t 3), none, [0]⟩, ⟨(some 5), .bin .geq (.t 4) (.v (.int .i64 0)), none, [1]⟩, ⟨(some 6), .mv (.t 5), none, [2]⟩, ⟨(some 7), .fld 1 (.t 1), (some (6, true)), [3]⟩, ⟨(some 8), .load none (.t 7), (some (6, true)), [4, 3]⟩, ⟨(some 9), .bin .geq (.t 8) (.v (.int .i64 0)), (some (6, true)), [5, 3]⟩, ⟨(some 10), .pick (.t 6) (.t 9) (.v (.bool false)), none, [3, 6]⟩, ⟨(some 2), .mv (.t 10), none, [7, 3, 0, 1, 2, 3, 4, 5, 6, 7]⟩]) (.ret))
def pr55 : List PR := [.t 2]
theorem bd55:Try.f55.body=some (Try.f55.body.getD .skip):=by kernel_rfl
theorem cp55:bN Try.prog Try.f55.ntmps eU (Try.f55.body.getD .skip)=some pc55:=by kernel_rfl
theorem sp55 [bS] {env:Env} (hE:aA Try.prog env) {R:List Pa→List Pa→Prop} (hR:∀ ps rs,R ps rs→ps.length≤11∧pwp env pc55 (fun e s=>(e=.normal∨e=.ret)∧s.res pr55=some rs) (St.init ps)):Spec Try.prog 55 R :=
 bD hE bT aX Try.func55 bd55 cp55 (by kernel_rfl) (by kernel_rfl) (by kernel_rfl) hR
def pc23 : PC := .seq (.reg false [⟨(some 1), .box (.t 0), none, []⟩, ⟨(some 2), .mv (.v (.bool false)), none, []⟩]) (.seq (.reg false [⟨(some 3), .fld 0 (.t 1), none, []⟩, ⟨(some 4), .load none (.t 3), none, [0]⟩, ⟨(some 5), .bin .leq (.t 4) (.v (.int .i64 2147483647)), none, [1]⟩, ⟨(some 6), .mv (.t 5), none, [2]⟩, ⟨(some 7), .fld 1 (.t 1), (some (6, true)), [3]⟩, ⟨(some 8), .load none (.t 7), (some (6, true)), [4, 3]⟩, ⟨(some 9), .bin .leq (.t 8) (.v (.int .i64 2147483647)), (some (6, true)), [5, 3]⟩, ⟨(some 10), .pick (.t 6) (.t 9) (.v (.bool false)), none, [3, 6]⟩, ⟨(some 2), .mv (.t 10), none, [7, 3, 0, 1, 2, 3, 4, 5, 6, 7]⟩]) (.ret))
def pr23 : List PR := [.t 2]
theorem bd23:Try.f23.body=some (Try.f23.body.getD .skip):=by kernel_rfl
theorem cp23:bN Try.prog Try.f23.ntmps eU (Try.f23.body.getD .skip)=some pc23:=by kernel_rfl
theorem sp23 [bS] {env:Env} (hE:aA Try.prog env) {R:List Pa→List Pa→Prop} (hR:∀ ps rs,R ps rs→ps.length≤11∧pwp env pc23 (fun e s=>(e=.normal∨e=.ret)∧s.res pr23=some rs) (St.init ps)):Spec Try.prog 23 R :=
 bD hE bT aX Try.func23 bd23 cp23 (by kernel_rfl) (by kernel_rfl) (by kernel_rfl) hR
def pc27 : PC := .seq (.reg false [⟨(some 4), .mv (.v (.int .i64 0)), none, []⟩]) (.seq (.seq (.reg false [⟨(some 7), .mv (.t 1), none, []⟩, ⟨(some 8), .len (.t 7), none, [0]⟩, ⟨(some 9), .mv (.v (.int .i64 0)), none, []⟩]) (.block 0 (.loop (.seq (.reg false [⟨(some 10), .bin .lss (.t 9) (.t 8), none, []⟩]) (.seq (.cond (.t 10) (.skip) (.exit 0)) (.seq (.block 1 (.seq (.reg false [⟨(some 11), .ixs 9 (.t 7) (.t 9), none, []⟩, ⟨(some 12), .load (some 9) (.t 11), none, [0]⟩, ⟨(some 6), .new [(.int .i64 0), (.int .i64 0), (.int .i64 0), (.int .i64 0), (.int .i64 0), (.int .i64 0), (.int .i64 0), (.int .i64 0), (.int .i64 0)], none, []⟩, ⟨none, .store 9 (.t 6) (.t 12), none, [2, 1, 0, 1, 2]⟩]) (.reg false [⟨(some 13), .mv (.t 0), none, []⟩, ⟨(some 14), .fld 8 (.t 6), none, []⟩, ⟨(some 15), .load none (.t 14), none, [1]⟩, ⟨(some 16), .bin .add (.t 15) (.v (.int .i64 1)), none, [2]⟩, ⟨(some 17), .mm true [(.t 13), (.t 16)], none, [0, 3]⟩, ⟨(some 0), .mv (.t 17), none, [4, 0, 1, 2, 3, 4]⟩]))) (.reg false [⟨(some 18), .bin .add (.t 9) (.v (.int .i64 1)), none, []⟩, ⟨(some 9), .mv (.t 18), none, [0]⟩]))))))) (.seq (.reg false [⟨(some 19), .mv (.t 0), none, []⟩, ⟨(some 4), .mv (.t 19), none, [0, 0]⟩]) (.ret)))
def pr27 : List PR := [.t 4]
abbrev ms27_0 : List Nat := [10, 11, 12, 6, 13, 14, 15, 16, 17, 0, 18, 9]
abbrev os27_0 : List Nat := [6]
theorem bd27:Try.f27.body=some (Try.f27.body.getD .skip):=by kernel_rfl
theorem cp27:bN Try.prog Try.f27.ntmps eU (Try.f27.body.getD .skip)=some pc27:=by kernel_rfl
theorem sp27 [bS] {env:Env} (hE:aA Try.prog env) {R:List Pa→List Pa→Prop} (hR:∀ ps rs,R ps rs→ps.length≤20∧pwp env pc27 (fun e s=>(e=.normal∨e=.ret)∧s.res pr27=some rs) (St.init ps)):Spec Try.prog 27 R :=
 bD hE bT aX Try.func27 bd27 cp27 (by kernel_rfl) (by kernel_rfl) (by kernel_rfl) hR
def pc56 : PC := .seq (.reg false [⟨(some 2), .mv (.v (.int .u32 0)), none, []⟩]) (.seq (.reg false [⟨(some 3), .mv (.v (.int .u32 4294967295)), none, []⟩]) (.seq (.seq (.reg false [⟨(some 7), .mv (.t 0), none, []⟩, ⟨(some 8), .len (.t 7), none, [0]⟩, ⟨(some 9), .mv (.v (.int .i64 0)), none, []⟩]) (.block 0 (.loop (.seq (.reg false [⟨(some 10), .bin .lss (.t 9) (.t 8), none, []⟩]) (.seq (.cond (.t 10) (.skip) (.exit 0)) (.seq (.block 1 (.seq (.reg false [⟨(some 11), .ixs 1 (.t 7) (.t 9), none, []⟩, ⟨(some 12), .load none (.t 11), none, [0]⟩, ⟨(some 5), .mv (.t 12), none, [1, 0, 1]⟩]) (.seq (.reg false [⟨(some 13), .mv (.t 3), none, []⟩, ⟨(some 14), .mv (.t 5), none, []⟩, ⟨(some 15), .conv .u32 (.t 14), none, [1]⟩, ⟨(some 16), .bin .xor (.t 13) (.t 15), none, [0, 2]⟩, ⟨(some 3), .mv (.t 16), none, [3, 0, 1, 2, 3]⟩]) (.seq (.reg false [⟨(some 17), .mv (.v (.int .i64 0)), none, []⟩]) (.block 2 (.loop (.seq (.reg false [⟨(some 18), .bin .lss (.t 17) (.v (.int .i64 8)), none, []⟩]) (.seq (.cond (.t 18) (.skip) (.exit 2)) (.seq (.block 3 (.seq (.reg false [⟨(some 19), .mv (.t 3), none, []⟩, ⟨(some 20), .bin .and (.t 19) (.v (.int .u32 1)), none, [0]⟩, ⟨(some 6), .mv (.t 20), none, [1, 0, 1]⟩]) (.seq (.reg false [⟨(some 21), .mv (.t 3), none, []⟩, ⟨(some 22), .bin .shr (.t 21) (.v (.int .u64 1)), none, [0]⟩, ⟨(some 3), .mv (.t 22), none, [1, 0, 1]⟩]) (.seq (.reg false [⟨(some 23), .mv (.t 6), none, []⟩, ⟨(some 24), .bin .eql (.t 23) (.v (.int .u32 1)), none, [0]⟩]) (.cond (.t 24) (.reg false [⟨(some 25), .mv (.t 3), none, []⟩, ⟨(some 26), .bin .xor (.t 25) (.v (.int .u32 3988292384)), none, [0]⟩, ⟨(some 3), .mv (.t 26), none, [1, 0, 1]⟩]) (.skip)))))) (.reg false [⟨(some 27), .bin .add (.t 17) (.v (.int .i64 1)), none, []⟩, ⟨(some 17), .mv (.t 27), none, [0]⟩])))))))))) (.reg false [⟨(some 28), .bin .add (.t 9) (.v (.int .i64 1)), none, []⟩, ⟨(some 9), .mv (.t 28), none, [0]⟩]))))))) (.seq (.reg false [⟨(some 29), .mv (.t 3), none, []⟩, ⟨(some 30), .un .xor (.t 29), none, [0]⟩, ⟨(some 2), .mv (.t 30), none, [1, 0, 1]⟩]) (.ret))))
def pr56 : List PR := [.t 2]
abbrev ms56_0 : List Nat := [10, 11, 12, 5, 13, 14, 15, 16, 3, 17, 18, 19, 20, 6, 21, 22, 23, 24, 25, 26, 27, 28, 9]
abbrev os56_0 : List Nat := []
abbrev ms56_1 : List Nat := [18, 19, 20, 6, 21, 22, 3, 23, 24, 25, 26, 27, 17]
abbrev os56_1 : List Nat := []
theorem bd56:Try.f56.body=some (Try.f56.body.getD .skip):=by kernel_rfl
theorem cp56:bN Try.prog Try.f56.ntmps eU (Try.f56.body.getD .skip)=some pc56:=by kernel_rfl
theorem sp56 [bS] {env:Env} (hE:aA Try.prog env) {R:List Pa→List Pa→Prop} (hR:∀ ps rs,R ps rs→ps.length≤31∧pwp env pc56 (fun e s=>(e=.normal∨e=.ret)∧s.res pr56=some rs) (St.init ps)):Spec Try.prog 56 R :=
 bD hE bT aX Try.func56 bd56 cp56 (by kernel_rfl) (by kernel_rfl) (by kernel_rfl) hR
def pc58 : PC := .seq (.reg false [⟨(some 2), .mv (.v (.int .i64 0)), none, []⟩, ⟨(some 3), .mv (.v (.int .i64 0)), none, [0]⟩]) (.seq (.reg false [⟨(some 4), .mv (.v (.int .i64 0)), none, []⟩]) (.seq (.seq (.reg false [⟨(some 7), .mv (.t 0), none, []⟩, ⟨(some 8), .mv (.t 0), none, []⟩, ⟨(some 9), .len (.t 8), none, [1]⟩, ⟨(some 10), .mm false [(.t 9), (.v (.int .i64 5))], none, [2]⟩, ⟨(some 11), .slc 1 (.t 7) none (some (.t 10)), none, [0, 3]⟩, ⟨(some 12), .len (.t 11), none, [4]⟩, ⟨(some 13), .mv (.v (.int .i64 0)), none, []⟩]) (.block 0 (.loop (.seq (.reg false [⟨(some 14), .bin .lss (.t 13) (.t 12), none, []⟩]) (.seq (.cond (.t 14) (.skip) (.exit 0)) (.seq (.block 1 (.seq (.reg false [⟨(some 15), .mv (.t 13), none, []⟩, ⟨(some 16), .ixs 1 (.t 11) (.t 13), none, []⟩, ⟨(some 17), .load none (.t 16), none, [1]⟩, ⟨(some 5), .mv (.t 15), none, [0, 0, 1, 2]⟩, ⟨(some 6), .mv (.t 17), none, [2, 3, 0, 1, 2, 3]⟩]) (.seq (.reg false [⟨(some 18), .mv (.t 4), none, []⟩, ⟨(some 19), .mv (.t 6), none, []⟩, ⟨(some 20), .bin .and (.t 19) (.v (.int .u8 127)), none, [1]⟩, ⟨(some 21), .conv .i64 (.t 20), none, [2]⟩, ⟨(some 22), .mv (.t 5), none, []⟩, ⟨(some 23), .bin .mul (.v (.int .i64 7)) (.t 22), none, [4]⟩, ⟨(some 24), .bin .shl (.t 21) (.t 23), none, [3, 5]⟩, ⟨(some 25), .bin .add (.t 18) (.t 24), none, [0, 6]⟩, ⟨(some 4), .mv (.t 25), none, [7, 0, 1, 2, 3, 4, 5, 6, 7]⟩]) (.seq (.seq (.reg false [⟨(some 26), .mv (.t 6), none, []⟩, ⟨(some 27), .bin .geq (.t 26) (.v (.int .u8 128)), none, [0]⟩]) (.cond (.t 27) (.exit 1) (.skip))) (.seq (.seq (.reg false [⟨(some 28), .mv (.t 4), none, []⟩, ⟨(some 29), .bin .gtr (.t 28) (.v (.int .i64 4294967295)), none, [0]⟩, ⟨(some 30), .mv (.t 29), none, [1]⟩, ⟨(some 31), .mv (.t 5), (some (30, false)), [2]⟩, ⟨(some 32), .bin .gtr (.t 31) (.v (.int .i64 0)), (some (30, false)), [3, 2]⟩, ⟨(some 33), .mv (.t 32), (some (30, false)), [4, 2, 2]⟩, ⟨(some 34), .mv (.t 6), (some (33, true)), [5]⟩, ⟨(some 35), .bin .eql (.t 34) (.v (.int .u8 0)), (some (33, true)), [6, 5]⟩, ⟨(some 36), .pick (.t 33) (.t 35) (.v (.bool false)), (some (30, false)), [5, 7, 2]⟩, ⟨(some 37), .pick (.t 30) (.v (.bool true)) (.t 36), none, [2, 8]⟩]) (.cond (.t 37) (.exit 0) (.skip))) (.seq (.reg false [⟨(some 38), .mv (.t 4), none, []⟩, ⟨(some 39), .mv (.t 5), none, []⟩, ⟨(some 40), .bin .add (.t 39) (.v (.int .i64 1)), none, [1]⟩, ⟨(some 2), .mv (.t 38), none, [0, 0]⟩, ⟨(some 3), .mv (.t 40), none, [2, 3, 0, 1, 2, 3]⟩]) (.ret))))))) (.reg false [⟨(some 41), .bin .add (.t 13) (.v (.int .i64 1)), none, []⟩, ⟨(some 13), .mv (.t 41), none, [0]⟩]))))))) (.seq (.reg false [⟨(some 2), .mv (.v (.int .i64 0)), none, []⟩, ⟨(some 3), .mv (.v (.int .i64 0)), none, [0, 0]⟩]) (.ret))))
def pr58 : List PR := [.t 2, .t 3]
abbrev ms58_0 : List Nat := [14, 15, 16, 17, 5, 6, 18, 19, 20, 21, 22, 23, 24, 25, 4, 26, 27, 28, 29, 30, 31, 32, 33, 34, 35, 36, 37, 38, 39, 40, 2, 3, 41, 13]
abbrev os58_0 : List Nat := []
theorem bd58:Try.f58.body=some (Try.f58.body.getD .skip):=by kernel_rfl
theorem cp58:bN Try.prog Try.f58.ntmps eU (Try.f58.body.getD .skip)=some pc58:=by kernel_rfl
theorem sp58 [bS] {env:Env} (hE:aA Try.prog env) {R:List Pa→List Pa→Prop} (hR:∀ ps rs,R ps rs→ps.length≤42∧pwp env pc58 (fun e s=>(e=.normal∨e=.ret)∧s.res pr58=some rs) (St.init ps)):Spec Try.prog 58 R :=
 bD hE bT aX Try.func58 bd58 cp58 (by kernel_rfl) (by kernel_rfl) (by kernel_rfl) hR
def pc49 : PC := .seq (.reg false [⟨(some 4), .mv (.v (.bool false)), none, []⟩]) (.seq (.reg false [⟨(some 5), .mv (.t 0), none, []⟩, ⟨(some 6), .len (.t 5), none, [0]⟩, ⟨(some 7), .mv (.t 1), none, []⟩, ⟨(some 8), .len (.t 7), none, [2]⟩, ⟨(some 9), .bin .geq (.t 6) (.t 8), none, [1, 3]⟩, ⟨(some 10), .mv (.t 9), none, [4]⟩, ⟨(some 11), .mv (.t 0), (some (10, true)), [5]⟩, ⟨(some 12), .mv (.t 1), (some (10, true)), [5]⟩, ⟨(some 13), .len (.t 12), (some (10, true)), [7, 5]⟩, ⟨(some 14), .slc 1 (.t 11) none (some (.t 13)), (some (10, true)), [6, 8, 5]⟩, ⟨(some 15), .mv (.t 1), (some (10, true)), [5]⟩, ⟨(some 16), .call 57 [(.t 14), (.t 15)], (some (10, true)), [9, 10, 5, 5]⟩, ⟨(some 17), .pick (.t 10) (.t 16) (.v (.bool false)), none, [5, 11]⟩, ⟨(some 4), .mv (.t 17), none, [12, 11, 0, 1, 2, 3, 4, 5, 6, 7, 8, 9, 10, 11, 12]⟩]) (.ret))
def pr49 : List PR := [.t 4]
theorem bd49:Try.f49.body=some (Try.f49.body.getD .skip):=by kernel_rfl
theorem cp49:bN Try.prog Try.f49.ntmps eU (Try.f49.body.getD .skip)=some pc49:=by kernel_rfl
theorem sp49 [bS] {env:Env} (hE:aA Try.prog env) {R:List Pa→List Pa→Prop} (hR:∀ ps rs,R ps rs→ps.length≤18∧pwp env pc49 (fun e s=>(e=.normal∨e=.ret)∧s.res pr49=some rs) (St.init ps)):Spec Try.prog 49 R :=
 bD hE bT aX Try.func49 bd49 cp49 (by kernel_rfl) (by kernel_rfl) (by kernel_rfl) hR
def pc57 : PC := .seq (.reg false [⟨(some 4), .mv (.v (.bool false)), none, []⟩]) (.seq (.reg false [⟨(some 5), .mv (.t 0), none, []⟩, ⟨(some 6), .bstr (.t 5), none, [0]⟩, ⟨(some 7), .mv (.t 1), none, []⟩, ⟨(some 8), .bstr (.t 7), none, [2]⟩, ⟨(some 9), .bin .eql (.t 6) (.t 8), none, [1, 3]⟩, ⟨(some 4), .mv (.t 9), none, [4, 0, 1, 2, 3, 4]⟩]) (.ret))
def pr57 : List PR := [.t 4]
theorem bd57:Try.f57.body=some (Try.f57.body.getD .skip):=by kernel_rfl
theorem cp57:bN Try.prog Try.f57.ntmps eU (Try.f57.body.getD .skip)=some pc57:=by kernel_rfl
theorem sp57 [bS] {env:Env} (hE:aA Try.prog env) {R:List Pa→List Pa→Prop} (hR:∀ ps rs,R ps rs→ps.length≤10∧pwp env pc57 (fun e s=>(e=.normal∨e=.ret)∧s.res pr57=some rs) (St.init ps)):Spec Try.prog 57 R :=
 bD hE bT aX Try.func57 bd57 cp57 (by kernel_rfl) (by kernel_rfl) (by kernel_rfl) hR
abbrev ms51_0 : List Nat := [7, 8, 9, 10, 11, 12, 13, 14, 15, 16, 17, 18, 19, 20, 21, 22, 23, 24, 25, 26, 27, 30, 31, 32, 33, 34, 35, 36, 37, 38, 39, 40, 6, 41, 42, 43, 44, 45, 46, 47, 48, 49, 50, 51, 52, 53, 3, 54, 55, 4, 56, 57, 58, 59, 60, 61, 62, 63, 64, 65, 66, 67, 68, 69, 70, 2, 71, 28, 29, 5]
abbrev os51_0 : List Nat := [0]
abbrev ms62_0 : List Nat := [13, 14, 15, 16, 17, 18, 19, 20, 21, 22, 25, 26, 27, 7, 28, 29, 30, 31, 32, 8, 34, 35, 36, 37, 33, 38, 39, 9, 10, 40, 41, 42, 43, 44, 45, 46, 47, 48, 49, 50, 51, 52, 53, 54, 55, 56, 57, 58, 59, 60, 61, 62, 63, 64, 65, 23, 24, 6]
abbrev os62_0 : List Nat := [8, 9, 0, 4, 3]
end Go.Proofs.Ytkafcpnahpfbfaa
end
section
namespace Go.Proofs.Ytkafcpnahpfbfaa
open Go Go.RowKit
set_option maxRecDepth 100000
set_option maxHeartbeats 4000000
theorem jq {ms os ms' os':List Nat} {s0 b j:St} (h:Within ms os s0 b) (hm:ms'.all (fun x=>ms.contains x)=true) (ho:os'.all (fun x=>os.contains x)=true):Within ms os s0 (over ms' os' b j):=by
 have sub:∀ {l l':List Nat},l'.all (fun x=>l.contains x)=true→∀ x,l.contains x=false→l'.contains x=false:=fun {l l'} hl x hx=>by
  cases h2:l'.contains x with
  | false=>rfl
  | true =>
    have:=List.all_eq_true.1 hl x (by simpa using h2);rw [hx] at this;cases this
 have k:Within ms' os' b (over ms' os' b j):=aV.mpr trivial;exact ⟨fun x hx=>(k.1 x (sub hm x hx)).trans (h.1 x hx),fun o ho2=>⟨(k.2 o (sub ho o ho2)).1.trans (h.2 o ho2).1,(k.2 o (sub ho o ho2)).2.trans (h.2 o ho2).2⟩⟩
def byR (l:List Nat):List (List Dt):=l.map fun (x:Nat)=>[.sc (.int .u8 (x:Int))]
def cu (l:List Nat):Pa:=.one (.im (byR l))
theorem aY (l:List Nat):(byR l).length=l.length:=List.length_map ..
theorem iM (l l':List Nat):byR l ++ byR l'=byR (l ++ l'):=(List.map_append ..).symm
theorem dZ (l:List Nat):(∀ r,r ∈ byR l→r.length=1)=True:=by
 apply propext
 refine ⟨fun _=>trivial,fun _ r hr=>?_⟩;obtain ⟨x,_,rfl⟩:=List.mem_map.1 hr;rfl
theorem Gs {l:List Nat} {i:Nat} {x:Nat} (h:l[i]? = some x):(byR l)[i]? = some [.sc (.int .u8 (x:Int))]:=by
 unfold byR;rw [List.getElem?_map,h];rfl
theorem w8 {x:Nat} (h:x≤255):IntKind.u8.wrap (x:Int)=(x:Int):=IntWalk.u8_in _ ⟨by omega,by omega⟩
theorem w32 {x:Nat} (h:x≤4294967295):IntKind.u32.wrap (x:Int)=(x:Int):=IntWalk.u32_in _ ⟨by omega,by omega⟩
def kM:Nat→Nat→List Nat
 | 0,n=>[n]
 | f+1,n=>if 128≤n then (n % 128+128) :: kM f (n / 128) else [n]
def bq (n:Nat):List Nat:=kM 8 n
theorem CQ:∀ f n,(kM f n).length≤f+1
 | 0,_=>Nat.le_refl _
 | f+1,n=>by
   unfold kM;split
   ·have:=CQ f (n / 128);rw [List.length_cons];omega
   ·simp
theorem bU (n:Nat):(bq n).length≤9:=CQ 8 n
theorem yO:∀ f n,n < 128 * 128 ^ f→∀ x ∈ kM f n,x≤255
 | 0,n,h,x,hx=>by
   unfold kM at hx;rw [List.mem_singleton.1 hx];omega
 | f+1,n,h,x,hx=>by
   unfold kM at hx;split at hx
   ·rcases List.mem_cons.1 hx with q | q
    ·omega
    ·exact yO f (n / 128) (by rw [Nat.pow_succ] at h;omega) x q
   ·rw [List.mem_singleton.1 hx];omega
def rV (ps rs:List Pa):Prop:=∃ n:Nat,ps=[pI n]∧n≤9223372036854775807∧rs=[cu (bq n)]
theorem CU {n:Nat} (hn:n≤9223372036854775807) {Q:Exit→St→Prop} (hQ:∀ st:St,st.sl 2=.b (.one (.own 3 1 (byR (bq n))))→st.gen 3=1→st.ob 3=.row 5 1 (bq n).length→Q .ret st):pwp e0 pc37 Q (St.init [pI n]):=by
 unfold pc37
 with_reducible refine aJ ?_
 simp only [↓evP,evB,stB,Nat.reduceEqDiff,pI];refine bH ms37_0 os37_0 (fun f st=>∃ (m:Nat) (acc:List Nat),m≤n∧m < 128 * 128 ^ f∧acc.length+f=8∧bq n=acc ++ kM f m∧st.sl 0=aI m∧st.sl 3=.b (.one (.own 3 1 (byR acc)))∧st.gen 3=1∧st.ob 3=.row 5 1 acc.length) 8 ?_ ?_
 ·exact ⟨n,[],Nat.le_refl _,by omega,rfl,rfl,by simp only [stB,reduceCtorEq];first | done | rfl,by simp only [stB,Nat.reduceEqDiff];first | done | rfl,by simp only [stB,Nat.reduceEqDiff],by simp only [stB,Nat.reduceEqDiff];first | done | rfl⟩
 rintro f j ⟨m,acc,hmn,hmf,hal,hnum,h0,h3,g3,o3⟩;simp only [stB,reduceCtorEq,Nat.reduceEqDiff,Nat.reduceBEq] at h0 h3 g3 o3
 by_cases hm:128≤m
 ·cases f with
  | zero=>omega
  | succ f =>
    unfold kM at hnum;rw [if_pos hm] at hnum;have hge:(m:Int)≥128:=by omega
    have i0:((128:Int)=0)=False:=by simp
    have h1:(m:Int).tmod 128=((m % 128:Nat):Int):=by rw [Int.tmod_eq_emod_of_nonneg (by omega)];omega
    have h2:(m:Int).tdiv 128=((m / 128:Nat):Int):=by rw [Int.tdiv_eq_ediv_of_nonneg (by omega)];omega
    have h4:IntKind.i64.wrap (((m % 128:Nat):Int)+128)=((m % 128+128:Nat):Int):=by rw [bY (by omega) (by omega)];omega
    have h5:IntKind.u8.wrap ((m % 128+128:Nat):Int)=((m % 128+128:Nat):Int):=w8 (by omega);have h6:IntKind.i64.wrap ((m / 128:Nat):Int)=((m / 128:Nat):Int):=bY (by omega) (by omega);have hb:byR (acc ++ [m % 128+128])=byR acc ++ [[.sc (.int .u8 ((m % 128+128:Nat):Int))]]:=(iM _ _).symm;have hl:=aY acc;have hl2:acc.length≤999999:=by omega
    simp only [↓evP,evB,stB,reduceCtorEq,Nat.reduceEqDiff,Nat.reduceLeDiff,Nat.reduceBEq,h0,h3,g3,o3,hge,i0,h1,h2,h4,h5,h6,hl,hl2,decide_true]
    exact ⟨f,by omega,(by repeat' (first | assumption | exact aV.mpr trivial | exact Within.refl _ _ _ | (refine bg ?_ rfl rfl) | (refine aW ?_ rfl))),m / 128,acc ++ [m % 128+128],by omega,by rw [Nat.pow_succ] at hmf;omega,by rw [List.length_append];show acc.length+1+f=8;omega,by rw [hnum,List.append_assoc];rfl,by simp only [stB,reduceCtorEq,Nat.reduceBEq],by simp only [stB,reduceCtorEq,Nat.reduceEqDiff,Nat.reduceBEq];rw [hb],by simp only [stB,Nat.reduceEqDiff,Nat.reduceBEq,g3],by simp only [stB,Nat.reduceEqDiff,Nat.reduceBEq,o3];rw [List.length_append];first | done | rfl⟩
 ·have hge:¬ (m:Int)≥128:=by omega
  have hf:kM f m=[m]:=by cases f <;> simp [kM,hm]
  have h5:IntKind.u8.wrap (m:Int)=(m:Int):=w8 (by omega);have hb:byR (acc ++ [m])=byR acc ++ [[.sc (.int .u8 (m:Int))]]:=(iM _ _).symm;have hl:=aY acc;have hl2:acc.length≤999999:=by omega
  rw [hf] at hnum;simp only [↓evP,evB,stB,reduceCtorEq,Nat.reduceEqDiff,Nat.reduceLeDiff,Nat.reduceBEq,h0,h3,g3,o3,hge,h5,hl,hl2,decide_false];refine hQ _ ?_ ?_ ?_
  ·simp only [stB,Nat.reduceEqDiff,Nat.reduceBEq];rw [hnum,hb]
  ·simp only [stB,Nat.reduceEqDiff,Nat.reduceBEq,g3]
  ·simp only [stB,Nat.reduceEqDiff,Nat.reduceBEq,o3];rw [hnum,List.length_append];first | done | rfl
theorem wB:Spec Try.prog 37 rV:=by
 refine sp37 aA.e0 ?_;rintro ps rs ⟨n,rfl,hn,rfl⟩;refine ⟨by simp,CU hn fun st h1 h2 h3=>⟨.inr rfl,?_⟩⟩;simp only [pr37,St.res,List.map_cons,List.map_nil,St.res1,h1];rfl
def N8 (ps:List Pa) (E sz:Nat) (rows:List (List Dt)):Prop:=∃ n:Nat,ps=[pI n]∧n≤9223372036854775807∧(E=5∧sz=1∧rows=byR (bq n))
theorem Uy:zY Try.prog 37 N8:=by
 refine qw aA.e0 bT aX Try.func37 bd37 cp37 (by kernel_rfl) (by kernel_rfl) (t:=2) (by kernel_rfl) ?_;rintro ps E sz rows ⟨n,rfl,hn,rfl,rfl,rfl⟩;refine ⟨by simp [Try.ntmps37],CU hn fun st h1 h2 h3=>⟨.inr rfl,?_⟩⟩;unfold St.QM;simp only [h1,h2,h3,aY,if_true]
def jC (d:Int):Nat:=if d < 0 then (-2 * d - 1).toNat else (2 * d).toNat
def eG (d:Int):List Nat:=bq (jC d)
def BG (ps rs:List Pa):Prop:=∃ d:Int,ps=[pI d]∧(-1000000000000≤d∧d≤1000000000000)∧rs=[cu (eG d)]
theorem Nv:Spec Try.prog 39 BG:=by
 refine sp39 (show aA Try.prog (e1 37 rV e0) from aA.e1 wB aA.e0) ?_;rintro ps rs ⟨d,rfl,⟨h1,h2⟩,rfl⟩;refine ⟨by simp,?_⟩;unfold pc39
 with_reducible refine aJ ?_
 simp only [↓evP,evB,stB,reduceCtorEq,Nat.reduceEqDiff,pI];unfold eG jC
 by_cases hd:d < 0
 ·have w1:IntKind.i64.wrap (-2 * d)=-2 * d:=bY (by omega) (by omega);have w2:IntKind.i64.wrap (-2 * d - 1)=((-2 * d - 1).toNat:Int):=by rw [bY (by omega) (by omega)];omega
  rw [if_pos hd];simp only [stB,hd,w1,w2,decide_true];refine aC [cu (bq (-2 * d - 1).toNat)] ⟨_,rfl,by omega,rfl⟩ ?_;simp only [↓evP,evB,stB,reduceCtorEq,Nat.reduceEqDiff,cu,pr39]
 ·have w1:IntKind.i64.wrap (2 * d)=((2 * d).toNat:Int):=by rw [bY (by omega) (by omega)];omega
  rw [if_neg hd];simp only [stB,hd,w1,decide_false];refine aC [cu (bq (2 * d).toNat)] ⟨_,rfl,by omega,rfl⟩ ?_;simp only [↓evP,evB,stB,reduceCtorEq,Nat.reduceEqDiff,cu,pr39]
def DV (c:Nat):Nat:=if c % 2=1 then (c / 2) ^^^ 3988292384 else c / 2
def qG (c:Nat):Nat→Nat
 | 0=>c
 | k+1=>DV (qG c k)
def mW (c:Nat):List Nat→Nat
 | []=>c
 | x :: l=>mW (qG (c ^^^ x) 8) l
def crc (l:List Nat):Nat:=mW 4294967295 l ^^^ 4294967295
theorem wM (c:Nat) (l l':List Nat):mW c (l ++ l')=mW (mW c l) l':=by
 induction l generalizing c with
 | nil=>rfl
 | cons x l ih=>exact ih _
theorem Pm {c:Nat} (h:c≤4294967295):DV c≤4294967295:=by
 unfold DV;split
 ·have:=Nat.xor_lt_two_pow (x:=c / 2) (y:=3988292384) (n:=32) (by omega) (by decide);omega
 ·omega
theorem rY {c:Nat} (h:c≤4294967295):∀ k,qG c k≤4294967295
 | 0=>h
 | k+1=>Pm (rY h k)
theorem xO {c x:Nat} (h:c≤4294967295) (h2:x≤4294967295):c ^^^ x≤4294967295:=by
 have:=Nat.xor_lt_two_pow (x:=c) (y:=x) (n:=32) (by omega) (by omega);omega
theorem zD {c:Nat} (h:c≤4294967295) {l:List Nat} (hl:∀ x ∈ l,x≤255):mW c l≤4294967295:=by
 induction l generalizing c with
 | nil=>exact h
 | cons x l ih=>exact ih (rY (xO h (by have:=hl x (List.mem_cons_self ..);omega)) 8) fun y hy=>hl y (List.mem_cons_of_mem _ hy)
theorem x32 {m n:Nat} (hm:m≤4294967295) (hn:n≤4294967295):IntKind.u32.wrap ((BitVec.ofInt IntKind.u32.bits (m:Int) ^^^ BitVec.ofInt IntKind.u32.bits (n:Int)).toNat:Int)=((m ^^^ n:Nat):Int):=by
 have e:(BitVec.ofInt IntKind.u32.bits (m:Int) ^^^ BitVec.ofInt IntKind.u32.bits (n:Int)).toNat=m ^^^ n:=by
  rw [BitVec.toNat_xor,BitVec.toNat_ofInt,BitVec.toNat_ofInt];have hb:(2:Int) ^ IntKind.u32.bits=4294967296:=by decide
  congr 1
  ·show ((m:Int) % ((2 ^ IntKind.u32.bits:Nat):Int)).toNat=m
   rw [show ((2 ^ IntKind.u32.bits:Nat):Int)=4294967296 from by decide];omega
  ·show ((n:Int) % ((2 ^ IntKind.u32.bits:Nat):Int)).toNat=n
   rw [show ((2 ^ IntKind.u32.bits:Nat):Int)=4294967296 from by decide];omega
 rw [e];exact w32 (xO hm hn)
abbrev aU (n:Nat):Av:=.b (.one (.d (.sc (.int .u32 (n:Int)))))
def zx (ps rs:List Pa):Prop:=∃ l:List Nat,ps=[cu l]∧(l.length≤1000000∧∀ x ∈ l,x≤255)∧rs=[.one (.sc (.int .u32 (crc l:Int)))]
theorem G6:Spec Try.prog 52 zx:=by
 refine sp52 aA.e0 ?_;rintro ps rs ⟨l,rfl,⟨hl,hb⟩,rfl⟩;refine ⟨by simp,?_⟩;unfold pc52
 with_reducible refine aJ ?_
 have hbl:=aY l;simp only [↓evP,evB,stB,cu];refine dP [0,3,4] [] (fun S hs ho=>?_);simp only [stB,reduceCtorEq,Nat.reduceEqDiff] at hs;obtain ⟨q0,q3,q4⟩:=hs;refine bH ms52_0 os52_0 (fun m st=>∃ k:Nat,m=l.length - k∧k≤l.length∧st.sl 4=aI k∧st.sl 3=aU (mW 4294967295 (l.take k))) l.length ?_ ?_
 ·exact ⟨0,rfl,Nat.zero_le _,q4,q3⟩
 rintro m z ⟨k,rfl,hk,h4,h3⟩;simp only [stB,Nat.reduceBEq] at h4 h3;have hc0:mW 4294967295 (l.take k)≤4294967295:=zD (by decide) fun x hx=>hb x (List.mem_of_mem_take hx)
 rcases Nat.lt_or_ge k l.length with hlt | hge
 ·obtain ⟨x,hx⟩:∃ x,l[k]? = some x:=⟨_,List.getElem?_eq_getElem hlt⟩
  have hx8:=hb x (List.mem_of_getElem? hx);have hgx:=Gs hx;have klt:(k:Int) < (l.length:Int):=by omega
  have k0:(0:Int)≤(k:Int):=by omega
  have wx:IntKind.u32.wrap (x:Int)=(x:Int):=w32 (by omega);have wc:=x32 hc0 (show x≤4294967295 by omega)
  have hsu:mW 4294967295 (l.take (k+1))=qG (mW 4294967295 (l.take k) ^^^ x) 8:=by
   rw [List.take_add_one,hx,wM];rfl
  have hc1:=xO hc0 (show x≤4294967295 by omega);generalize mW 4294967295 (l.take k)=c at *;simp only [↓evP,evB,stB,reduceCtorEq,Nat.reduceEqDiff,Nat.reduceBEq,q0,h4,h3,hbl,klt,k0,hgx,wx,wc,decide_true]
  refine jm (fun st=>Within ms52_0 os52_0 S st) (by repeat' (first | assumption | exact aV.mpr trivial | exact Within.refl _ _ _ | (refine bg ?_ rfl rfl) | (refine aW ?_ rfl))) [0,3,4,5] [] (fun T hwT hs2 ho2=>?_);simp only [stB,reduceCtorEq,Nat.reduceEqDiff,Nat.reduceBEq,q0,h4] at hs2;obtain ⟨p0,p3,p4,p5⟩:=hs2;obtain ⟨d,hd⟩:∃ d,c ^^^ x=d:=⟨_,rfl⟩
  rw [hd] at p3 hsu hc1;refine bH ms52_1 os52_1 (fun m st=>∃ i:Nat,m=8 - i∧i≤8∧st.sl 5=aI i∧st.sl 3=aU (qG d i)) 8 ?_ ?_
  ·exact ⟨0,rfl,Nat.zero_le _,p5,p3⟩
  rintro m2 z2 ⟨i,rfl,hi,h5,h3'⟩;simp only [stB,Nat.reduceBEq] at h5 h3'
  rcases Nat.lt_or_ge i 8 with hi8 | hi8
  ·have hcb:=rY hc1 i;have hcs:qG d (i+1)=DV (qG d i):=rfl;generalize qG d i=b at *;have ilt:(i:Int) < 8:=by omega
   have n2:((2:Int)=0)=False:=by simp
   have t1:(b:Int).tmod 2=((b % 2:Nat):Int):=by rw [Int.tmod_eq_emod_of_nonneg (by omega)];omega
   have t2:(b:Int).tdiv 2=((b / 2:Nat):Int):=by rw [Int.tdiv_eq_ediv_of_nonneg (by omega)];omega
   have t3:IntKind.u32.wrap ((b / 2:Nat):Int)=((b / 2:Nat):Int):=w32 (by omega);have t4:=x32 (m:=b / 2) (n:=3988292384) (by omega) (by decide);unfold DV at hcs
   by_cases hb1:b % 2=1
   ·have e1:(((b % 2:Nat):Int) == 1)=true:=by rw [hb1];rfl
    rw [if_pos hb1] at hcs;simp only [↓evP,evB,stB,reduceCtorEq,Nat.reduceEqDiff,Nat.reduceBEq,h5,h3',ilt,n2,t1,t2,t3,e1,decide_true];rw [show (3988292384:Int)=((3988292384:Nat):Int) from rfl,t4]
    exact ⟨_,by omega,(by repeat' (first | assumption | exact aV.mpr trivial | exact Within.refl _ _ _ | (refine bg ?_ rfl rfl) | (refine aW ?_ rfl))),i+1,rfl,hi8,by simp only [stB,Nat.reduceEqDiff,Nat.reduceBEq,h5];rw [wrN (by omega)],by simp only [stB,Nat.reduceEqDiff,Nat.reduceBEq];rw [hcs]⟩
   ·have e1:(((b % 2:Nat):Int) == 1)=false:=by
     rw [beq_eq_false_iff_ne];omega
    rw [if_neg hb1] at hcs;simp only [↓evP,evB,stB,reduceCtorEq,Nat.reduceEqDiff,Nat.reduceBEq,h5,h3',ilt,n2,t1,t2,t3,e1,decide_true]
    exact ⟨_,by omega,(by repeat' (first | assumption | exact aV.mpr trivial | exact Within.refl _ _ _ | (refine bg ?_ rfl rfl) | (refine aW ?_ rfl))),i+1,rfl,hi8,by simp only [stB,Nat.reduceEqDiff,Nat.reduceBEq,h5];rw [wrN (by omega)],by simp only [stB,Nat.reduceEqDiff,Nat.reduceBEq];rw [hcs]⟩
  ·have hie:i=8:=by omega
   subst hie;have ilt:¬ ((8:Nat):Int) < 8:=by omega
   simp only [↓evP,evB,stB,reduceCtorEq,Nat.reduceEqDiff,Nat.reduceSub,Nat.reduceBEq,p4,h5,h3',ilt,decide_false]
   exact ⟨_,by omega,(by repeat' (first | exact jq hwT rfl rfl | (refine bg ?_ rfl rfl) | (refine aW ?_ rfl))),k+1,rfl,hlt,by simp only [stB,Nat.reduceEqDiff,Nat.reduceBEq,p4];rw [wrN (by omega)],by simp only [stB,Nat.reduceEqDiff,Nat.reduceBEq,h3'];rw [hsu]⟩
 ·have hke:k=l.length:=by omega
  have klt:¬ (k:Int) < (l.length:Int):=by omega
  rw [hke,List.take_length] at h3 hc0;have wc:=x32 hc0 (show 4294967295≤4294967295 by decide);simp only [↓evP,evB,stB,reduceCtorEq,Nat.reduceEqDiff,Nat.reduceBEq,q0,h4,h3,hbl,klt,decide_false];rw [show (4294967295:Int)=((4294967295:Nat):Int) from rfl,wc];simp only [stB,Nat.reduceEqDiff,Nat.reduceBEq,pr52];rfl
def fT (l:List Nat):List Nat:=[crc l / 16777216 % 256,crc l / 65536 % 256,crc l / 256 % 256,crc l % 256]
def bB (kind:Nat) (c:List Nat):List Nat:=kind :: (bq c.length ++ c)
def bM (kind:Nat) (c:List Nat):List Nat:=bB kind c ++ fT (bB kind c)
theorem w8m (n:Nat):IntKind.u8.wrap (n:Int)=((n % 256:Nat):Int):=by
 have hb:(2:Int) ^ IntKind.u8.bits=256:=by decide
 have hs:IntKind.u8.signed=false:=rfl;unfold IntKind.wrap;dsimp only;rw [hb,if_neg (by rw [hs];simp)]
 omega
theorem R3 (n:Nat):Int.fdiv (n:Int) (2 ^ (min (Int.toNat 24) IntKind.u32.bits))=((n / 16777216:Nat):Int):=by
 show Int.fdiv (n:Int) 16777216=_
 rw [Int.fdiv_eq_ediv_of_nonneg _ (by decide)];omega
theorem RZ (n:Nat):Int.fdiv (n:Int) (2 ^ (min (Int.toNat 16) IntKind.u32.bits))=((n / 65536:Nat):Int):=by
 show Int.fdiv (n:Int) 65536=_
 rw [Int.fdiv_eq_ediv_of_nonneg _ (by decide)];omega
theorem fd8 (n:Nat):Int.fdiv (n:Int) (2 ^ (min (Int.toNat 8) IntKind.u32.bits))=((n / 256:Nat):Int):=by
 show Int.fdiv (n:Int) 256=_
 rw [Int.fdiv_eq_ediv_of_nonneg _ (by decide)];omega
theorem iB {n:Nat} (h:n≤9223372036854775807):∀ x ∈ bq n,x≤255:=yO 8 n (by omega)
theorem nH {k:Nat} {c:List Nat} (hk:k≤255) (hc:∀ x ∈ c,x≤255) (hl:c.length≤1000000):∀ x ∈ bB k c,x≤255:=fun x hx=>by
 rcases List.mem_cons.1 hx with q | q
 ·omega
 ·rcases List.mem_append.1 q with q | q
  ·exact iB (by omega) x q
  ·exact hc x q
def xU (ps rs:List Pa):Prop:=∃ (k:Nat) (c:List Nat),ps=[.one (.sc (.int .u8 (k:Int))),cu c]∧(k≤255∧c.length≤900000∧∀ x ∈ c,x≤255)∧rs=[cu (bM k c)]
theorem JF:Spec Try.prog 40 xU:=by
 refine sp40 (show aA Try.prog (e1 37 rV (e1 52 zx e0)) from aA.e1 wB (aA.e1 G6 aA.e0)) ?_;rintro ps rs ⟨k,c,rfl,⟨hk,hl,hc⟩,rfl⟩;refine ⟨by simp,?_⟩;unfold pc40
 with_reducible refine aJ ?_
 have hcl:=aY c;have hca:=dZ c;have hnl:=bU c.length;have hnl2:=aY (bq c.length);have hna:=dZ (bq c.length);simp only [↓evP,evB,stB,reduceCtorEq,Nat.reduceEqDiff,Nat.reduceLeDiff,cu,hcl];refine aC [cu (bq c.length)] ⟨_,rfl,by omega,rfl⟩ ?_;have g1:1+(bq c.length).length≤1000000:=by omega
 have g2:(bq c.length).length+1+c.length≤1000000:=by omega
 have g3:(1+(bq c.length).length=(bq c.length).length+1)=True:=by simp;omega
 have e1:[Dt.sc (.int .u8 (k:Int))] :: (byR (bq c.length) ++ byR c)=byR (bB k c):=by
  rw [iM];rfl
 have hbl:(bB k c).length=(bq c.length).length+1+c.length:=by
  unfold bB;rw [List.length_cons,List.length_append];omega
 have hbl2:=aY (bB k c);rw [←hbl] at g2;simp only [↓evP,evB,stB,Nat.reduceEqDiff,Nat.reduceLeDiff,cu,hcl,hca,hnl2,hna,g1,←hbl,g2,g3,e1];refine aC [.one (.sc (.int .u32 (crc (bB k c):Int)))] ⟨bB k c,rfl,⟨by omega,nH hk hc (by omega)⟩,rfl⟩ ?_;have n1:¬ ((24:Int) < 0):=by decide
 have n2:¬ ((16:Int) < 0):=by decide
 have n3:¬ ((8:Int) < 0):=by decide
 have g4:(bB k c).length+4≤1000000:=by omega
 have hblk:byR (bM k c)=byR (bB k c) ++ [[.sc (.int .u8 ((crc (bB k c) / 16777216 % 256:Nat):Int))],[.sc (.int .u8 ((crc (bB k c) / 65536 % 256:Nat):Int))],[.sc (.int .u8 ((crc (bB k c) / 256 % 256:Nat):Int))],[.sc (.int .u8 ((crc (bB k c) % 256:Nat):Int))]]:=(iM _ _).symm;rw [hblk];generalize bB k c=B at *;simp only [↓evP,evB,stB,reduceCtorEq,Nat.reduceEqDiff,Nat.reduceAdd,Nat.reduceLeDiff,n1,n2,n3,R3,RZ,fd8,w8m,hbl2,g4,pr40]
structure Dep where
 st:List (Int×Int)
 pr:List Int
def aQ (p:Int×Int):List Dt:=[dI p.1,dI p.2]
def Dep.row (d:Dep):List Dt:=[.im (d.st.map aQ),.im (d.pr.map fun x=>[dI x])]
def Dep.pa (d:Dep):Pa:=.agg d.row
def dS (d:Dep) (i:Nat):Int×Int:=d.st.getD i (0,0)
def fH (d:Dep) (i:Nat):Int:=d.pr.getD i 0
def jg (d:Dep) (i:Nat):List Nat:=bq (fH d i+1).toNat ++ (bq (dS d i).1.toNat ++ bq (dS d i).2.toNat)
def lu (d:Dep) (a k:Nat):List Nat:=(List.range k).flatMap fun i=>jg d (a+i)
def mH (d:Dep) (a b:Nat):List Nat:=bq (b - a) ++ lu d a (b - a)
theorem oL (d:Dep) (a k:Nat):lu d a (k+1)=lu d a k ++ jg d (a+k):=by
 unfold lu;rw [List.range_succ,List.flatMap_append];simp
theorem vI (d:Dep) (i:Nat):(jg d i).length≤27:=by
 unfold jg;rw [List.length_append,List.length_append];have:=bU (fH d i+1).toNat;have:=bU (dS d i).1.toNat;have:=bU (dS d i).2.toNat;omega
theorem wP (d:Dep) (a k:Nat):(lu d a k).length≤27 * k:=by
 induction k with
 | zero=>exact Nat.zero_le _
 | succ k ih =>
   rw [oL,List.length_append];have:=vI d (a+k);omega
structure Dep.ok (d:Dep):Prop where
 len:d.st.length=d.pr.length
 le:d.st.length≤10000
 pr:∀ x ∈ d.pr, -1≤x∧x≤1000000000000
 st:∀ p ∈ d.st,(0≤p.1∧p.1≤1000000000000)∧(0≤p.2∧p.2≤1000000000000)
def NY (ps:List Pa) (E sz:Nat) (rows:List (List Dt)):Prop:=∃ (d:Dep) (a b:Nat),ps=[d.pa,pI a,pI b]∧(d.ok∧a≤b∧b≤d.st.length)∧(E=5∧sz=1∧rows=byR (mH d a b))
theorem KW {d:Dep} {a b:Nat} (hd:d.ok) (hab:a≤b) (hb:b≤d.st.length) {Q:Exit→St→Prop} (hQ:∀ st:St,st.sl 6=.b (.one (.own 12 1 (byR (mH d a b))))→st.gen 12=1→st.ob 12=.row 5 1 (mH d a b).length→Q .ret st) :
 pwp (f1 37 N8 (e1 37 rV e0)) pc36 Q (St.init [d.pa,pI a,pI b]):=by
 have hle:=hd.le;unfold pc36
 with_reducible refine aJ ?_
 have w0:IntKind.i64.wrap ((b:Int) - (a:Int))=((b - a:Nat):Int):=by rw [bY (by omega) (by omega)];omega
 simp only [↓evP,evB,stB,Nat.reduceEqDiff,Dep.pa,Dep.row,pI,w0];refine kN (byR (bq (b - a))) (E:=5) (sz:=1) (by exact ⟨b - a,rfl,by omega,rfl,rfl,rfl⟩) ?_;have hnl:=bU (b - a);have hnl2:=aY (bq (b - a));simp only [↓evP,evB,stB,Nat.reduceEqDiff,hnl2];refine bH ms36_0 (12 :: os36_0) (fun m st=>∃ k:Nat,m=(b - a) - k∧k≤b - a∧st.sl 8=aI ((a+k:Nat):Int)∧st.sl 7=.b (.one (.own 12 1 (byR (bq (b - a) ++ lu d a k))))∧st.gen 12=1∧st.ob 12=.row 5 1 (bq (b - a) ++ lu d a k).length) (b - a) ?_ ?_
 ·refine ⟨0,rfl,Nat.zero_le _,by simp only [stB,Nat.reduceEqDiff];first | done | rfl,?_,by simp only [stB,Nat.reduceEqDiff],?_⟩
  ·simp only [stB,Nat.reduceEqDiff];rw [show lu d a 0=[] from rfl,List.append_nil]
  ·simp only [stB,Nat.reduceEqDiff];rw [show lu d a 0=[] from rfl,List.append_nil]
 rintro m j ⟨k,rfl,hk,h8,h7,g12,o12⟩;simp only [stB,Nat.reduceEqDiff,Nat.reduceBEq] at h8 h7 g12 o12
 rcases Nat.lt_or_ge k (b - a) with hlt | hge
 ·have hi:a+k < d.st.length:=by omega
  have hi2:a+k < d.pr.length:=by have:=hd.len;omega
  have klt:((a+k:Nat):Int) < (b:Int):=by omega
  have k0:(0:Int)≤((a+k:Nat):Int):=by omega
  have gp:d.pr[a+k]? = some (fH d (a+k)):=by unfold fH;rw [List.getD_eq_getElem?_getD,List.getElem?_eq_getElem hi2];rfl
  have gs:d.st[a+k]? = some (dS d (a+k)):=by unfold dS;rw [List.getD_eq_getElem?_getD,List.getElem?_eq_getElem hi];rfl
  have bp:=hd.pr _ (List.mem_of_getElem? gp);have bs:=hd.st _ (List.mem_of_getElem? gs);have hsu:=oL d a k;have hfl:=wP d a k;have hol:=vI d (a+k);unfold jg at hsu hol;generalize fH d (a+k)=p at *;generalize dS d (a+k)=s at *;obtain ⟨s1,s2⟩:=s;dsimp only at hsu hol bs;have w1:IntKind.i64.wrap (p+1)=((p+1).toNat:Int):=by rw [bY (by omega) (by omega)];omega
  have e1:s1=(s1.toNat:Int):=by omega
  have e2:s2=(s2.toNat:Int):=by omega
  have w2:IntKind.i64.wrap (((a+k:Nat):Int)+1)=((a+(k+1):Nat):Int):=by rw [bY (by omega) (by omega)];omega
  obtain ⟨B,hB⟩:∃ B,bq (b - a) ++ lu d a k=B:=⟨_,rfl⟩
  have hBl:B.length≤9+27 * k:=by rw [←hB,List.length_append];omega
  rw [hB] at h7 o12;have l1:=bU (p+1).toNat;have l2:=bU s1.toNat;have l3:=bU s2.toNat;have c1:=aY (bq (p+1).toNat);have c2:=aY (bq s1.toNat);have c3:=aY (bq s2.toNat);have a1:=dZ (bq (p+1).toNat);have a2:=dZ (bq s1.toNat);have a3:=dZ (bq s2.toNat);have cB:=aY B
  have hfin:byR B ++ byR (bq (p+1).toNat) ++ byR (bq s1.toNat) ++ byR (bq s2.toNat)=byR (bq (b - a) ++ lu d a (k+1)):=by
   rw [iM,iM,iM,hsu,←hB];simp only [List.append_assoc]
  have hfin2:(bq (b - a) ++ lu d a (k+1)).length=B.length+(bq (p+1).toNat).length+(bq s1.toNat).length+(bq s2.toNat).length:=by
   rw [hsu,←List.append_assoc,hB];simp only [List.length_append];omega
  have g1:B.length+(bq (p+1).toNat).length≤1000000:=by omega
  have g2:B.length+(bq (p+1).toNat).length+(bq s1.toNat).length≤1000000:=by omega
  have g3:B.length+(bq (p+1).toNat).length+(bq s1.toNat).length+(bq s2.toNat).length≤1000000:=by omega
  have rB:(byR B ++ byR (bq (p+1).toNat)).length=B.length+(bq (p+1).toNat).length:=by rw [List.length_append,cB,c1]
  have rB2:(byR B ++ byR (bq (p+1).toNat) ++ byR (bq s1.toNat)).length=B.length+(bq (p+1).toNat).length+(bq s1.toNat).length:=by rw [List.length_append,rB,c2]
  simp only [↓evP,evB,stB,reduceCtorEq,Nat.reduceEqDiff,Nat.reduceBEq,h8,h7,klt,k0,gp,w1,decide_true];refine aC [cu (bq (p+1).toNat)] (by exact ⟨_,rfl,by omega,rfl⟩) ?_;simp only [↓evP,evB,stB,Nat.reduceEqDiff,Nat.reduceAdd,Nat.reduceLeDiff,Nat.reduceBEq,h8,h7,g12,o12,k0,gs,cu,c1,a1,cB,g1,aQ];refine aC [cu (bq s1.toNat)] (by rw [e1];exact ⟨_,rfl,by omega,by rw [←e1]⟩) ?_
  simp only [↓evP,evB,stB,Nat.reduceEqDiff,Nat.reduceAdd,Nat.reduceLeDiff,Nat.reduceBEq,h8,h7,g12,o12,k0,gs,cu,c2,a2,rB,g2,aQ];refine aC [cu (bq s2.toNat)] (by rw [e2];exact ⟨_,rfl,by omega,by rw [←e2]⟩) ?_
  simp only [↓evP,evB,stB,Nat.reduceEqDiff,Nat.reduceLeDiff,Nat.reduceBEq,h8,g12,o12,cu,c3,a3,rB2,g3]
  exact ⟨_,by omega,(by repeat' (first | assumption | exact aV.mpr trivial | exact Within.refl _ _ _ | (refine bg ?_ rfl rfl) | (refine aW ?_ rfl))),k+1,rfl,hlt,by simp only [stB,Nat.reduceEqDiff,Nat.reduceBEq,h8,w2],by simp only [stB,Nat.reduceEqDiff,Nat.reduceBEq];rw [←hfin];(first | done | simp only [List.append_assoc]),by simp only [stB,Nat.reduceEqDiff,Nat.reduceBEq,g12],by simp only [stB,Nat.reduceEqDiff,Nat.reduceBEq,o12];first | done | rw [hfin2]⟩
 ·have hke:k=b - a:=by omega
  have klt:¬ ((a+k:Nat):Int) < (b:Int):=by omega
  rw [hke] at h7 o12;simp only [↓evP,evB,stB,reduceCtorEq,Nat.reduceEqDiff,Nat.reduceBEq,h8,h7,klt,decide_false];refine hQ _ ?_ ?_ ?_
  ·simp only [stB,Nat.reduceEqDiff,Nat.reduceBEq];first | done | rfl
  ·simp only [stB,Nat.reduceEqDiff,Nat.reduceBEq,g12]
  ·simp only [stB,Nat.reduceEqDiff,Nat.reduceBEq,o12];first | done | rfl
theorem Uu:zY Try.prog 36 NY:=by
 refine qw (aA.f1 Uy (aA.e1 wB aA.e0)) bT aX Try.func36 bd36 cp36 (by kernel_rfl) (by kernel_rfl) (t:=6) (by kernel_rfl) ?_;rintro ps E sz rows ⟨d,a,b,rfl,⟨hd,hab,hb⟩,rfl,rfl,rfl⟩;refine ⟨by simp [Try.ntmps36],KW hd hab hb fun st h1 h2 h3=>⟨.inr rfl,?_⟩⟩;unfold St.QM;simp only [h1,h2,h3,aY,if_true]
def Ev.fl (e:Ev):List Int:=[e.g,e.kind,e.obj,e.off,e.k,e.n,e.fn,e.pc,e.stack]
def inR (l:List Int):List (List Dt):=l.map fun x=>[dI x]
def BH (ps rs:List Pa):Prop:=∃ e:Ev,ps=[e.pa]∧rs=[.one (.im (inR e.fl))]
theorem Nw:Spec Try.prog 38 BH:=by
 refine sp38 aA.e0 ?_;rintro ps rs ⟨e,rfl,rfl⟩;refine ⟨by simp,?_⟩;unfold pc38
 with_reducible refine aJ ?_
 simp only [↓evP,evB,stB,reduceCtorEq,Nat.reduceEqDiff,Nat.reduceAdd,Nat.reduceLeDiff,Ev.pa,Ev.row,pr38]
 first | done | rfl
end Go.Proofs.Ytkafcpnahpfbfaa
end
section
namespace Go.Proofs.Ytkafcpnahpfbfaa
open Go Go.RowKit
set_option maxRecDepth 1000000
set_option maxHeartbeats 4000000
def bA (es:List Ev) (n:Nat):Nat:=es.foldl (fun m e=>max m (e.stack+1).toNat) n
def ev0:Ev:=⟨0,0,0,0,0,0,0,0,0⟩
def lst (l:Ev) (es:List Ev):Ev:=es.foldl (fun _ e=>e) l
def pK (l e:Ev):List Nat:=(List.zipWith (fun x y=>x - y) e.fl l.fl).flatMap eG
def fC:Ev→List Ev→List Nat
 | _,[]=>[]
 | l,e :: es=>pK l e ++ fC e es
theorem iA (a b:List Ev) (n:Nat):bA (a ++ b) n=bA b (bA a n):=List.foldl_append ..
theorem pQ (a b:List Ev) (l:Ev):lst l (a ++ b)=lst (lst l a) b:=List.foldl_append ..
theorem Qf (l e:Ev):lst l [e]=e:=rfl
theorem sJ:∀ (a b:List Ev) (l:Ev),fC l (a ++ b)=fC l a ++ fC (lst l a) b
 | [],_,_=>rfl
 | e :: a,b,l=>by
   show pK l e ++ fC e (a ++ b)=pK l e ++ fC e a ++ fC (lst e a) b
   rw [sJ a b e,List.append_assoc]
theorem yx (l e:Ev):fC l [e]=pK l e:=List.append_nil _
theorem take_at {α:Type} {l:List α} {i:Nat} {x:α} (h:l[i]? = some x):l.take (i+1)=l.take i ++ [x]:=by
 obtain ⟨h1,rfl⟩:=List.getElem?_eq_some_iff.1 h;exact List.take_succ_eq_append_getElem h1
theorem LC (l e:Ev):(pK l e).length≤81:=by
 have h:∀ (xs:List Int),(xs.flatMap eG).length≤9 * xs.length:=fun xs=>by
  induction xs with
  | nil=>exact Nat.le_refl _
  | cons x xs ih =>
    rw [List.flatMap_cons,List.length_append,List.length_cons];have:(eG x).length≤9:=bU _;omega
 exact Nat.le_trans (h _) (by unfold Ev.fl;simp)
theorem lG:∀ (es:List Ev) (l:Ev),(fC l es).length≤81 * es.length
 | [],_=>Nat.le_refl _
 | e :: es,l=>by
   show (pK l e ++ fC e es).length≤_
   rw [List.length_append,List.length_cons];have:=LC l e;have:=lG es e;omega
def bV (es:List Ev) (i n:Nat):List Ev:=(es.drop i).take n
def jZ (d:Dep) (es:List Ev) (k:Nat):List Nat :=
 mH d (bA (es.take (16 * k)) 0) (bA (es.take (16 * k+16)) 0) ++ (bq (bV es (16 * k) 16).length ++ fC (lst ev0 (es.take (16 * k))) (bV es (16 * k) 16))
def jM (d:Dep) (es:List Ev):List Nat:=mH d (bA es 0) d.st.length ++ bq es.length
def dL (es:List Ev):Nat:=(es.length+15) / 16
def fV (d:Dep) (es:List Ev) (k:Nat):List Nat:=bM 66 (jZ d es k)
def bX (d:Dep) (es:List Ev):List (List Nat):=(List.range (dL es)).map (fV d es) ++ [bM 69 (jM d es)]
structure tu (d:Dep) (es:List Ev):Prop where
 dk:d.ok
 len:d.st.length≤1000
 el:es.length≤1000
 ev:∀ e ∈ es,e.valid=true∧e.stack < d.st.length
def dA (es:List Ev) (d:Dep):List Dt:=[.im (es.map Ev.row),.im (d.st.map aQ),.im (d.pr.map fun x=>[dI x])]
def eH (es:List Ev) (d:Dep):Pa:=.agg (dA es d)
def uT (l:List (List Nat)):List (List Dt):=l.map fun b=>[.im (byR b)]
theorem qZ (l:List (List Nat)):(uT l).length=l.length:=List.length_map ..
theorem CJ {es:List Ev} {m:Nat} (h:∀ e ∈ es,e.valid=true∧e.stack < (m:Int)):∀ {n:Nat},n≤m→bA es n≤m:=by
 induction es with
 | nil=>exact fun h=>h
 | cons e es ih =>
   intro n hn;refine ih (fun x hx=>h x (List.mem_cons_of_mem _ hx)) ?_;have:=(h e (List.mem_cons_self ..)).2
   show max n (e.stack+1).toNat≤m
   omega
theorem nX (es:List Ev):∀ n:Nat,n≤bA es n:=by
 induction es with
 | nil=>exact fun n=>Nat.le_refl _
 | cons e es ih=>exact fun n=>Nat.le_trans (Nat.le_max_left n _) (ih _)
theorem lS {α:Type} {l:List α} {n:Nat} {x:α} (h:x ∈ l.take n):x ∈ l:=List.mem_of_mem_take h
theorem gV (es:List Ev) (i n:Nat):es.take i ++ bV es i n=es.take (i+n):=by
 unfold bV;rw [List.take_add]
theorem iy (es:List Ev) (i n:Nat):(bV es i n).length=min n (es.length - i):=by
 unfold bV;rw [List.length_take,List.length_drop]
theorem tu.need {d:Dep} {es:List Ev} (h:tu d es) (i:Nat):bA (es.take i) 0≤d.st.length:=CJ (fun e he=>h.ev e (lS he)) (Nat.zero_le _)
theorem jF (d:Dep) (a b:Nat):(mH d a b).length≤9+27 * (b - a):=by
 unfold mH;rw [List.length_append];have:=bU (b - a);have:=wP d a (b - a);omega
theorem oK {d:Dep} {es:List Ev} (h:tu d es) (k:Nat):(jZ d es k).length≤30000:=by
 unfold jZ;rw [List.length_append,List.length_append];have h1:=jF d (bA (es.take (16 * k)) 0) (bA (es.take (16 * k+16)) 0);have h2:=h.need (16 * k+16);have h3:=h.len;have h4:=bU (bV es (16 * k) 16).length;have h5:=lG (bV es (16 * k) 16) (lst ev0 (es.take (16 * k)));have h6:=iy es (16 * k) 16;omega
theorem nM {d:Dep} {es:List Ev} (h:tu d es):(jM d es).length≤30000:=by
 unfold jM;rw [List.length_append];have h1:=jF d (bA es 0) d.st.length;have h3:=h.len;have h4:=bU es.length;omega
theorem jQ {a b:List Nat} (ha:∀ x ∈ a,x≤255) (hb:∀ x ∈ b,x≤255):∀ x ∈ a ++ b,x≤255:=fun x hx=>by
 rcases List.mem_append.1 hx with q | q
 ·exact ha x q
 ·exact hb x q
theorem yu {d:Dep} (hd:d.ok) (a:Nat):∀ (k:Nat),a+k≤d.st.length→∀ x ∈ lu d a k,x≤255
 | 0,_=>fun x hx=>by cases hx
 | k+1,h=>by
   rw [oL];refine jQ (yu hd a k (by omega)) ?_;have hi:a+k < d.st.length:=by omega
   have hi2:a+k < d.pr.length:=by have:=hd.len;omega
   have gp:d.pr[a+k]? = some (fH d (a+k)):=by unfold fH;rw [List.getD_eq_getElem?_getD,List.getElem?_eq_getElem hi2];rfl
   have gs:d.st[a+k]? = some (dS d (a+k)):=by unfold dS;rw [List.getD_eq_getElem?_getD,List.getElem?_eq_getElem hi];rfl
   have bp:=hd.pr _ (List.mem_of_getElem? gp);have bs:=hd.st _ (List.mem_of_getElem? gs);exact jQ (iB (by omega)) (jQ (iB (by omega)) (iB (by omega)))
theorem sH {d:Dep} (hd:d.ok) {a b:Nat} (hab:a≤b) (h:b≤d.st.length):∀ x ∈ mH d a b,x≤255:=by
 have:=hd.le;exact jQ (iB (by omega)) (yu hd a (b - a) (by omega))
theorem uF {e:Ev} (h:e.valid=true):∀ x ∈ e.fl,0≤x∧x≤2147483647:=by
 simp only [Ev.valid,gG,iW,Bool.and_eq_true,decide_eq_true_eq] at h;intro x hx;simp only [Ev.fl,List.mem_cons,List.not_mem_nil,or_false] at hx;omega
def evG (e:Ev):Prop:=∀ x ∈ e.fl,0≤x∧x≤2147483647
theorem Ag:evG ev0:=by
 intro x hx;simp only [Ev.fl,ev0,List.mem_cons,List.not_mem_nil,or_false,or_self] at hx;omega
theorem vV:∀ {es:List Ev} {l:Ev},evG l→(∀ e ∈ es,e.valid=true)→evG (lst l es)
 | [],_,h,_=>h
 | e :: es,_,_,h=>vV (es:=es) (l:=e) (uF (h e (List.mem_cons_self ..))) fun x hx=>h x (List.mem_cons_of_mem _ hx)
theorem Ir {l e:Ev} (hl:evG l) (he:evG e):∀ x ∈ pK l e,x≤255:=by
 intro x hx;unfold pK at hx;obtain ⟨v,hv,hx⟩:=List.mem_flatMap.1 hx
 have hb:-2147483647≤v∧v≤2147483647:=by
  obtain ⟨i,hi,rfl⟩:=List.getElem_of_mem hv;rw [List.getElem_zipWith];have h1:=he (e.fl[i]'(by simp at hi;omega)) (List.getElem_mem _)
  have h2:=hl (l.fl[i]'(by simp at hi;omega)) (List.getElem_mem _)
  omega
 refine iB ?_ x hx;unfold jC;split <;> omega
theorem qp:∀ {es:List Ev} {l:Ev},evG l→(∀ e ∈ es,e.valid=true)→∀ x ∈ fC l es,x≤255
 | [],_,_,_=>fun x hx=>by cases hx
 | e :: es,_,hl,h=>by
   have h1:evG e:=uF (h e (List.mem_cons_self ..));exact jQ (Ir hl h1) (qp h1 fun x hx=>h x (List.mem_cons_of_mem _ hx))
theorem oO {es:List Ev} {i n:Nat} {e:Ev} (h:e ∈ bV es i n):e ∈ es:=List.mem_of_mem_drop (List.mem_of_mem_take h)
theorem vH {d:Dep} {es:List Ev} (h:tu d es) (k:Nat):∀ x ∈ jZ d es k,x≤255:=by
 have h2:=h.need (16 * k+16);have h6:=iy es (16 * k) 16;refine jQ (sH h.dk ?_ h2) (jQ (iB (by omega)) (qp (vV Ag fun e he=>(h.ev e (lS he)).1) fun e he=>(h.ev e (oO he)).1));rw [←gV es (16 * k) 16,iA];exact nX _ _
theorem sG {d:Dep} {es:List Ev} (h:tu d es):∀ x ∈ jM d es,x≤255:=by
 have h2:=h.need es.length;rw [List.take_length] at h2;have:=h.el;exact jQ (sH h.dk h2 (Nat.le_refl _)) (iB (by omega))
end Go.Proofs.Ytkafcpnahpfbfaa
end
section
namespace Go.Proofs.Ytkafcpnahpfbfaa
open Go Go.RowKit
set_option maxRecDepth 100000
def pcm51 : PC := .seq (.reg false [⟨(some 2), .mv (.v (.int .i64 0)), none, []⟩]) (.seq (.reg false [⟨(some 3), .mv (.v (.int .i64 0)), none, []⟩, ⟨(some 4), .mv (.v (.int .i64 1)), none, [0, 0]⟩]) (.seq (.seq (.reg false [⟨(some 5), .mv (.v (.int .i64 0)), none, []⟩]) (.block 0 (.loop (.seq (.seq (.reg true [⟨(some 7), .mv (.t 5), none, []⟩, ⟨(some 8), .bin .lss (.t 7) (.v (.int .i64 5)), none, [0]⟩, ⟨(some 9), .mv (.t 8), none, [1]⟩, ⟨(some 10), .mv (.t 0), (some (9, true)), [2]⟩, ⟨(some 11), .nilck (.t 10), (some (9, true)), [3, 2]⟩, ⟨(some 12), .fld 1 (.t 11), (some (9, true)), [4, 2]⟩, ⟨(some 13), .load none (.t 12), (some (9, true)), [5, 2]⟩, ⟨(some 14), .mv (.t 0), (some (9, true)), [2]⟩, ⟨(some 15), .nilck (.t 14), (some (9, true)), [7, 2]⟩, ⟨(some 16), .fld 0 (.t 15), (some (9, true)), [8, 2]⟩, ⟨(some 17), .load none (.t 16), (some (9, true)), [9, 2]⟩, ⟨(some 18), .len (.t 17), (some (9, true)), [10, 2]⟩, ⟨(some 19), .bin .lss (.t 13) (.t 18), (some (9, true)), [6, 11, 2]⟩, ⟨(some 20), .pick (.t 9) (.t 19) (.v (.bool false)), none, [2, 12]⟩, ⟨(some 21), .mv (.t 20), none, [13, 2]⟩, ⟨(some 22), .mv (.t 0), (some (21, true)), [14]⟩, ⟨(some 23), .nilck (.t 22), (some (21, true)), [15, 14]⟩, ⟨(some 24), .fld 2 (.t 23), (some (21, true)), [16, 14]⟩, ⟨(some 25), .load none (.t 24), (some (21, true)), [17, 14]⟩, ⟨(some 26), .un .not (.t 25), (some (21, true)), [18, 14]⟩, ⟨(some 27), .pick (.t 21) (.t 26) (.v (.bool false)), none, [14, 19]⟩]) (.cond (.t 27) (.skip) (.exit 0))) (.seq (.block 1 (.seq (.reg true [⟨(some 30), .mv (.t 0), none, []⟩, ⟨(some 31), .nilck (.t 30), none, [0]⟩, ⟨(some 32), .fld 0 (.t 31), none, [1]⟩, ⟨(some 33), .load none (.t 32), none, [2]⟩, ⟨(some 34), .mv (.t 0), none, []⟩, ⟨(some 35), .nilck (.t 34), none, [4]⟩, ⟨(some 36), .fld 1 (.t 35), none, [5]⟩, ⟨(some 37), .load none (.t 36), none, [6]⟩, ⟨(some 38), .ixs 1 (.t 33) (.t 37), none, [3, 7]⟩, ⟨(some 39), .load none (.t 38), none, [8]⟩, ⟨(some 40), .conv .i64 (.t 39), none, [9]⟩, ⟨(some 6), .mv (.t 40), none, [10, 0, 1, 2, 3, 4, 5, 6, 7, 8, 9, 10]⟩]) (.seq (.reg false [⟨(some 41), .mv (.t 0), none, []⟩, ⟨(some 42), .nilck (.t 41), none, [0]⟩, ⟨(some 43), .fld 1 (.t 42), none, [1]⟩, ⟨(some 44), .load none (.t 43), none, [2]⟩, ⟨(some 45), .bin .add (.t 44) (.v (.int .i64 1)), none, [3]⟩, ⟨(some 46), .nilck (.t 41), none, [0, 0, 1, 2, 3, 4]⟩, ⟨(some 47), .fld 1 (.t 46), none, [5, 0, 1, 2, 3, 4]⟩, ⟨none, .store 1 (.t 47) (.t 45), none, [6, 4, 0, 1, 2, 3, 4]⟩]) (.seq (.reg false [⟨(some 48), .mv (.t 3), none, []⟩, ⟨(some 49), .mv (.t 6), none, []⟩, ⟨(some 50), .bin .rem (.t 49) (.v (.int .i64 128)), none, [1]⟩, ⟨(some 51), .mv (.t 4), none, []⟩, ⟨(some 52), .bin .mul (.t 50) (.t 51), none, [2, 3]⟩, ⟨(some 53), .bin .add (.t 48) (.t 52), none, [0, 4]⟩, ⟨(some 3), .mv (.t 53), none, [5, 0, 1, 2, 3, 4, 5]⟩]) (.seq (.reg false [⟨(some 54), .mv (.t 4), none, []⟩, ⟨(some 55), .bin .mul (.t 54) (.v (.int .i64 128)), none, [0]⟩, ⟨(some 4), .mv (.t 55), none, [1, 0, 1]⟩]) (.seq (.reg false [⟨(some 56), .mv (.t 6), none, []⟩, ⟨(some 57), .bin .lss (.t 56) (.v (.int .i64 128)), none, [0]⟩]) (.cond (.t 57) (.seq (.seq (.reg false [⟨(some 58), .mv (.t 6), none, []⟩, ⟨(some 59), .bin .eql (.t 58) (.v (.int .i64 0)), none, [0]⟩, ⟨(some 60), .mv (.t 59), none, [1]⟩, ⟨(some 61), .mv (.t 5), (some (60, true)), [2]⟩, ⟨(some 62), .bin .gtr (.t 61) (.v (.int .i64 0)), (some (60, true)), [3, 2]⟩, ⟨(some 63), .pick (.t 60) (.t 62) (.v (.bool false)), none, [2, 4]⟩, ⟨(some 64), .mv (.t 63), none, [5, 2]⟩, ⟨(some 65), .mv (.t 3), (some (64, false)), [6]⟩, ⟨(some 66), .bin .gtr (.t 65) (.v (.int .i64 4294967295)), (some (64, false)), [7, 6]⟩, ⟨(some 67), .pick (.t 64) (.v (.bool true)) (.t 66), none, [6, 8]⟩]) (.cond (.t 67) (.seq (.reg false [⟨(some 68), .mv (.t 0), none, []⟩, ⟨(some 69), .nilck (.t 68), none, [0, 0]⟩, ⟨(some 70), .fld 2 (.t 69), none, [1, 0]⟩, ⟨none, .store 1 (.t 70) (.v (.bool true)), none, [2, 0]⟩]) (.seq (.reg false [⟨(some 2), .mv (.v (.int .i64 0)), none, []⟩]) (.ret))) (.skip))) (.seq (.reg false [⟨(some 71), .mv (.t 3), none, []⟩, ⟨(some 2), .mv (.t 71), none, [0, 0]⟩]) (.ret))) (.skip)))))))) (.reg false [⟨(some 28), .mv (.t 5), none, []⟩, ⟨(some 29), .bin .add (.t 28) (.v (.int .i64 1)), none, [0]⟩, ⟨(some 5), .mv (.t 29), none, [1, 0, 1]⟩])))))) (.seq (.reg false [⟨(some 72), .mv (.t 0), none, []⟩, ⟨(some 73), .nilck (.t 72), none, [0, 0]⟩, ⟨(some 74), .fld 2 (.t 73), none, [1, 0]⟩, ⟨none, .store 1 (.t 74) (.v (.bool true)), none, [2, 0]⟩]) (.seq (.reg false [⟨(some 2), .mv (.v (.int .i64 0)), none, []⟩]) (.ret)))))
def prm51 : List PR := [.t 2]
theorem bdm51:Try.f51.body=some (Try.f51.body.getD .skip):=by kernel_rfl
theorem cpm51:bN Try.prog Try.f51.ntmps eU (Try.f51.body.getD .skip)=some pcm51:=by kernel_rfl
theorem spm51 [bS] {env:Env} (hE:aA Try.prog env) {R:List Dt→List Pa→List Dt→List Pa→Prop} (hR:∀ ds ps ds2 rs,R ds ps ds2 rs→ps.length+1≤75∧pwp env pcm51 (fun e s=>(e=.normal∨e=.ret)∧s.res prm51=some rs∧prm51.all (Fb s)=true∧s.gen 0=0∧s.fQ 0 0=some ds2) (St.mK ds ps)):uy Try.prog 51 R :=
 qx hE bT aX Try.func51 bdm51 cpm51 (by kernel_rfl) (by kernel_rfl) (by kernel_rfl) hR
def pcm62 : PC := .seq (.reg false [⟨(some 3), .box (.t 1), none, []⟩, ⟨(some 4), .new [(.slice none 0 0), (.slice none 0 0)], none, []⟩]) (.seq (.reg false [⟨(some 11), .mv (.t 0), none, []⟩, ⟨(some 12), .call 51 [(.t 11)], none, [0]⟩, ⟨(some 5), .mv (.t 12), none, [1, 1, 0, 1]⟩]) (.seq (.seq (.reg false [⟨(some 6), .mv (.v (.int .i64 0)), none, []⟩]) (.block 0 (.loop (.seq (.seq (.reg false [⟨(some 13), .mv (.t 6), none, []⟩, ⟨(some 14), .mv (.t 5), none, []⟩, ⟨(some 15), .bin .lss (.t 13) (.t 14), none, [0, 1]⟩, ⟨(some 16), .mv (.t 15), none, [2]⟩, ⟨(some 17), .mv (.t 0), (some (16, true)), [3]⟩, ⟨(some 18), .nilck (.t 17), (some (16, true)), [4, 3]⟩, ⟨(some 19), .fld 2 (.t 18), (some (16, true)), [5, 3]⟩, ⟨(some 20), .load none (.t 19), (some (16, true)), [6, 3]⟩, ⟨(some 21), .un .not (.t 20), (some (16, true)), [7, 3]⟩, ⟨(some 22), .pick (.t 16) (.t 21) (.v (.bool false)), none, [3, 8]⟩]) (.cond (.t 22) (.skip) (.exit 0))) (.seq (.block 1 (.seq (.reg false [⟨(some 25), .mv (.t 0), none, []⟩, ⟨(some 26), .call 51 [(.t 25)], none, [0]⟩, ⟨(some 27), .bin .sub (.t 26) (.v (.int .i64 1)), none, [1]⟩, ⟨(some 7), .mv (.t 27), none, [2, 1, 0, 1, 2]⟩]) (.seq (.reg false [⟨(some 28), .mv (.t 0), none, []⟩, ⟨(some 29), .call 51 [(.t 28)], none, [0]⟩, ⟨(some 30), .mv (.t 0), none, []⟩, ⟨(some 31), .call 51 [(.t 30)], none, [2, 1]⟩, ⟨(some 32), .build [(.int .i64 0), (.int .i64 0)] [(0, 1, (.t 29)), (1, 1, (.t 31))], none, [1, 3]⟩, ⟨(some 8), .new [(.int .i64 0), (.int .i64 0)], none, []⟩, ⟨none, .store 2 (.t 8) (.t 32), none, [5, 4, 3, 0, 1, 2, 3, 4, 5]⟩]) (.seq (.reg false [⟨(some 34), .load (some 2) (.t 3), none, []⟩, ⟨(some 35), .mv (.t 7), none, []⟩, ⟨(some 36), .load (some 2) (.t 8), none, []⟩, ⟨(some 37), .call 64 [(.t 34), (.t 35), (.t 36)], none, [0, 1, 2]⟩, ⟨(some 33), .mv (.t 37), none, [3]⟩, ⟨(some 38), .ext (.t 33) 0, none, [4]⟩, ⟨(some 39), .ext (.t 33) 1, none, [4]⟩, ⟨(some 9), .new [(.slice none 0 0), (.slice none 0 0)], none, []⟩, ⟨none, .store 2 (.t 9) (.t 38), none, [7, 5, 3, 0, 1, 2, 3, 4, 5, 7]⟩, ⟨(some 10), .mv (.t 39), none, [6, 8, 0, 1, 2, 3, 4, 5, 6, 7, 8]⟩]) (.seq (.seq (.reg false [⟨(some 40), .mv (.t 0), none, []⟩, ⟨(some 41), .nilck (.t 40), none, [0]⟩, ⟨(some 42), .fld 2 (.t 41), none, [1]⟩, ⟨(some 43), .load none (.t 42), none, [2]⟩, ⟨(some 44), .mv (.t 43), none, [3]⟩, ⟨(some 45), .mv (.t 10), (some (44, false)), [4]⟩, ⟨(some 46), .fld 0 (.t 3), (some (44, false)), [4]⟩, ⟨(some 47), .load none (.t 46), (some (44, false)), [6, 4]⟩, ⟨(some 48), .len (.t 47), (some (44, false)), [7, 4]⟩, ⟨(some 49), .bin .neq (.t 45) (.t 48), (some (44, false)), [5, 8, 4]⟩, ⟨(some 50), .pick (.t 44) (.v (.bool true)) (.t 49), none, [4, 9]⟩, ⟨(some 51), .mv (.t 50), none, [10, 4]⟩, ⟨(some 52), .fld 0 (.t 8), (some (51, false)), [11]⟩, ⟨(some 53), .load none (.t 52), (some (51, false)), [12, 11]⟩, ⟨(some 54), .bin .gtr (.t 53) (.v (.int .i64 2147483647)), (some (51, false)), [13, 11]⟩, ⟨(some 55), .pick (.t 51) (.v (.bool true)) (.t 54), none, [11, 14]⟩, ⟨(some 56), .mv (.t 55), none, [15, 11]⟩, ⟨(some 57), .fld 1 (.t 8), (some (56, false)), [16]⟩, ⟨(some 58), .load none (.t 57), (some (56, false)), [17, 16]⟩, ⟨(some 59), .bin .gtr (.t 58) (.v (.int .i64 2147483647)), (some (56, false)), [18, 16]⟩, ⟨(some 60), .pick (.t 56) (.v (.bool true)) (.t 59), none, [16, 19]⟩]) (.cond (.t 60) (.seq (.reg false [⟨(some 61), .mv (.t 0), none, []⟩, ⟨(some 62), .nilck (.t 61), none, [0, 0]⟩, ⟨(some 63), .fld 2 (.t 62), none, [1, 0]⟩, ⟨none, .store 1 (.t 63) (.v (.bool true)), none, [2, 0]⟩]) (.seq (.reg false [⟨(some 64), .load (some 2) (.t 3), none, []⟩, ⟨none, .store 2 (.t 4) (.t 64), none, [0, 0]⟩]) (.ret))) (.skip))) (.reg false [⟨(some 65), .load (some 2) (.t 9), none, []⟩, ⟨none, .store 2 (.t 3) (.t 65), none, [0, 0]⟩])))))) (.reg false [⟨(some 23), .mv (.t 6), none, []⟩, ⟨(some 24), .bin .add (.t 23) (.v (.int .i64 1)), none, [0]⟩, ⟨(some 6), .mv (.t 24), none, [1, 0, 1]⟩])))))) (.seq (.reg false [⟨(some 66), .load (some 2) (.t 3), none, []⟩, ⟨none, .store 2 (.t 4) (.t 66), none, [0, 0]⟩]) (.ret))))
def prm62 : List PR := [.c 4 (some 2)]
theorem bdm62:Try.f62.body=some (Try.f62.body.getD .skip):=by kernel_rfl
theorem cpm62:bN Try.prog Try.f62.ntmps eU (Try.f62.body.getD .skip)=some pcm62:=by kernel_rfl
theorem spm62 [bS] {env:Env} (hE:aA Try.prog env) {R:List Dt→List Pa→List Dt→List Pa→Prop} (hR:∀ ds ps ds2 rs,R ds ps ds2 rs→ps.length+1≤67∧pwp env pcm62 (fun e s=>(e=.normal∨e=.ret)∧s.res prm62=some rs∧prm62.all (Fb s)=true∧s.gen 0=0∧s.fQ 0 0=some ds2) (St.mK ds ps)):uy Try.prog 62 R :=
 qx hE bT aX Try.func62 bdm62 cpm62 (by kernel_rfl) (by kernel_rfl) (by kernel_rfl) hR
def pcm63 : PC := .seq (.reg false [⟨(some 2), .mv (.v (.int .i64 0)), none, []⟩]) (.seq (.reg false [⟨(some 4), .mv (.t 0), none, []⟩, ⟨(some 5), .call 51 [(.t 4)], none, [0]⟩, ⟨(some 3), .mv (.t 5), none, [1, 1, 0, 1]⟩]) (.seq (.seq (.reg false [⟨(some 6), .mv (.t 3), none, []⟩, ⟨(some 7), .bin .rem (.t 6) (.v (.int .i64 2)), none, [0]⟩, ⟨(some 8), .bin .eql (.t 7) (.v (.int .i64 1)), none, [1]⟩]) (.cond (.t 8) (.seq (.reg false [⟨(some 9), .mv (.t 3), none, []⟩, ⟨(some 10), .bin .add (.t 9) (.v (.int .i64 1)), none, [0]⟩, ⟨(some 11), .un .neg (.t 10), none, [1]⟩, ⟨(some 12), .bin .quo (.t 11) (.v (.int .i64 2)), none, [2]⟩, ⟨(some 2), .mv (.t 12), none, [3, 0, 1, 2, 3]⟩]) (.ret)) (.skip))) (.seq (.reg false [⟨(some 13), .mv (.t 3), none, []⟩, ⟨(some 14), .bin .quo (.t 13) (.v (.int .i64 2)), none, [0]⟩, ⟨(some 2), .mv (.t 14), none, [1, 0, 1]⟩]) (.ret))))
def prm63 : List PR := [.t 2]
theorem bdm63:Try.f63.body=some (Try.f63.body.getD .skip):=by kernel_rfl
theorem cpm63:bN Try.prog Try.f63.ntmps eU (Try.f63.body.getD .skip)=some pcm63:=by kernel_rfl
theorem spm63 [bS] {env:Env} (hE:aA Try.prog env) {R:List Dt→List Pa→List Dt→List Pa→Prop} (hR:∀ ds ps ds2 rs,R ds ps ds2 rs→ps.length+1≤15∧pwp env pcm63 (fun e s=>(e=.normal∨e=.ret)∧s.res prm63=some rs∧prm63.all (Fb s)=true∧s.gen 0=0∧s.fQ 0 0=some ds2) (St.mK ds ps)):uy Try.prog 63 R :=
 qx hE bT aX Try.func63 bdm63 cpm63 (by kernel_rfl) (by kernel_rfl) (by kernel_rfl) hR
end Go.Proofs.Ytkafcpnahpfbfaa
end
section
namespace Go.Proofs.Ytkafcpnahpfbfaa
open Go Go.RowKit
set_option maxRecDepth 1000000
set_option maxHeartbeats 4000000
def rdF:Nat→Bool→Nat→Nat→List Nat→Option Nat×List Nat
 | 0,_,_,_,bs=>(none,bs)
 | _+1,_,_,_,[]=>(none,[])
 | f+1,fst,n,p,x :: bs=>if x < 128 then ((if (x=0∧fst=false)∨4294967295 < n+x * p then none else some (n+x * p)),bs) else rdF f false (n+x % 128 * p) (p * 128) bs
structure Rs where
 rest:List Nat
 bad:Bool
def aP (s:Rs):Nat×Rs:=if s.bad=true then (0,s) else match rdF 5 true 0 1 s.rest with
 | (some n,r)=>(n,⟨r,false⟩)
 | (none,r)=>(0,⟨r,true⟩)
theorem FZ:∀ (f:Nat) (fst:Bool) (n p:Nat) (bs:List Nat),(rdF f fst n p bs).2 <:+ bs
 | 0,_,_,_,bs=>List.suffix_refl _
 | _+1,_,_,_,[]=>List.suffix_refl _
 | f+1,fst,n,p,x :: bs=>by
   unfold rdF;split
   ·exact List.suffix_cons x bs
   ·exact (FZ f _ _ _ bs).trans (List.suffix_cons x bs)
theorem xK:∀ (f:Nat) (fst:Bool) (n p:Nat) (bs:List Nat) (m:Nat),(rdF f fst n p bs).1=some m→m≤4294967295∧(rdF f fst n p bs).2.length < bs.length
 | 0,_,_,_,bs,m,h=>by cases h
 | _+1,_,_,_,[],m,h=>by cases h
 | f+1,fst,n,p,x :: bs,m,h=>by
   unfold rdF at h ⊢;split at h
   ·rename_i hx;rw [if_pos hx];dsimp only at h ⊢;split at h
    ·cases h
    ·rename_i hn;cases h;simp only [not_or,Nat.not_lt] at hn;exact ⟨hn.2,Nat.lt_succ_self _⟩
   ·rename_i hx;rw [if_neg hx];obtain ⟨h1,h2⟩:=xK f _ _ _ bs m h;exact ⟨h1,Nat.lt_succ_of_lt h2⟩
theorem dh (s:Rs):(aP s).2.rest <:+ s.rest:=by
 unfold aP;split
 ·exact List.suffix_refl _
 ·have:=FZ 5 true 0 1 s.rest;split <;> rename_i h <;> rw [h] at this <;> exact this
theorem lC (s:Rs):(aP s).1≤4294967295:=by
 unfold aP;split
 ·exact Nat.zero_le _
 ·split
  ·rename_i n r h;exact (xK 5 true 0 1 s.rest n (by rw [h])).1
  ·exact Nat.zero_le _
theorem pR {s:Rs} (h:(aP s).2.bad=false):(aP s).2.rest.length < s.rest.length∧s.bad=false:=by
 unfold aP at h ⊢
 by_cases hb:s.bad=true
 ·rw [if_pos hb] at h;rw [hb] at h;cases h
 ·rw [if_neg hb] at h ⊢;split at h
  ·rename_i n r hr;have:=(xK 5 true 0 1 s.rest n (by rw [hr])).2;rw [hr] at this;exact ⟨this,by simpa using hb⟩
  ·cases h
def eY (b:List Nat) (s:Rs):List Dt:=[.im (byR b),dI ((b.length - s.rest.length:Nat):Int),.sc (.bool s.bad)]
theorem lW {b r:List Nat} (h:r <:+ b):b.drop (b.length - r.length)=r:=by
 obtain ⟨t,rfl⟩:=h;rw [List.length_append,Nat.add_sub_cancel,List.drop_left]
def lK (ds:List Dt) (az:List Pa) (ds':List Dt) (rs:List Pa):Prop:=∃ (b:List Nat) (s:Rs),ds=eY b s∧az=[]∧(b.length≤1000000∧s.rest <:+ b∧∀ x ∈ b,x≤255)∧ds'=eY b (aP s).2∧rs=[pI ((aP s).1:Nat)]
theorem Au:uy Try.prog 51 lK:=by
 refine spm51 aA.e0 ?_;rintro ds az ds' rs ⟨b,s,rfl,rfl,⟨hbl,hsuf,hby⟩,rfl,rfl⟩;refine ⟨by simp,?_⟩;obtain ⟨rest,bad⟩:=s;dsimp only at hsuf;have hbr:=aY b;obtain ⟨RR,hRR⟩:∃ RR,eY b (aP ⟨rest,bad⟩).2=RR:=⟨_,rfl⟩
 obtain ⟨nn,hnn⟩:∃ nn:Int,(((aP ⟨rest,bad⟩).1:Nat):Int)=nn:=⟨_,rfl⟩
 rw [hRR,hnn];unfold pcm51
 with_reducible refine aJ ?_
 simp only [↓evP,evB,stB,seval,eY];refine bH ms51_0 os51_0 (fun m st=>∃ (i n p:Nat) (r:List Nat),m=6 - i∧i≤5∧st.sl 3=aI n∧st.sl 4=aI p∧st.sl 5=aI i∧st.gen 0=0∧st.ob 0=.cells ((eY b ⟨r,bad⟩).map .d)∧r <:+ b∧p=128 ^ i∧n < 128 ^ i∧(bad=true→r=rest)∧(bad=false→rdF (5 - i) (decide (i=0)) n p r=rdF 5 true 0 1 rest)) 6 ?_ ?_
 ·exact ⟨0,0,1,rest,rfl,by decide,by simp only [stB,Nat.reduceEqDiff];first | done | rfl,by simp only [stB,Nat.reduceEqDiff];first | done | rfl,by simp only [stB,Nat.reduceEqDiff];first | done | rfl,by simp only [stB];first | done | rfl,by simp only [stB];first | done | rfl,hsuf,rfl,by decide,fun _=>rfl,fun _=>rfl⟩
 rintro m z ⟨i,n,p,r,rfl,hi,h3,h4,h5,hg,ho,hr,hp,hn,hbt,hbf⟩;simp only [stB,Nat.reduceEqDiff,Nat.reduceBEq,eY] at h3 h4 h5 hg ho;have hrl:r.length≤b.length:=hr.length_le;have hrd:=lW hr;obtain ⟨a,ha⟩:∃ a,b.length - r.length=a:=⟨_,rfl⟩
 rw [ha] at ho;rw [ha] at hrd
 have hex:∀ (q:List Nat),q <:+ b→b.length - q.length=a→aP ⟨rest,bad⟩=(0,⟨q,true⟩)→eY b (aP ⟨rest,bad⟩).2=[.im (byR b),dI (a:Int),.sc (.bool true)]∧(((aP ⟨rest,bad⟩).1:Nat):Int)=0:=fun q h1 h2 h=>by
  rw [h];refine ⟨?_,rfl⟩;unfold eY;dsimp only;rw [h2]
 rcases Nat.lt_or_ge i 5 with hi5 | hi5
 ·have i5:(i:Int) < 5:=by omega
  obtain ⟨f,hf⟩:∃ f,5 - i=f+1:=⟨4 - i,by omega⟩
  cases r with
  | nil =>
    have hlt:¬ (a:Int) < (b.length:Int):=by simp at ha;omega
    have hM:aP ⟨rest,bad⟩=(0,⟨[],true⟩):=by
     unfold aP
     cases bad with
     | true=>rw [if_pos rfl,←hbt rfl]
     | false =>
       rw [if_neg (by simp),←hbf rfl,hf];rfl
    obtain ⟨x1,x2⟩:=hex [] hr ha hM;rw [x1] at hRR;rw [x2] at hnn;subst hRR hnn;simp only [↓evP,evB,stB,reduceIte,reduceCtorEq,seval,h5,hg,ho,i5,hbr,hlt,decide_true,decide_false];refine ⟨(by unfold Drw;refine Eq.trans (b:=true) ?_ rfl;kernel_rfl),?_⟩
    simp only [stB,reduceIte,seval,prm51]
  | cons x r =>
    have hal:a < b.length:=by simp at ha hrl;omega
    have hlt:(a:Int) < (b.length:Int):=by omega
    have a0:(0:Int)≤(a:Int):=by omega
    cases bad with
    | true =>
      have hM:aP ⟨rest,true⟩=(0,⟨x :: r,true⟩):=by
       unfold aP;rw [if_pos rfl,←hbt rfl]
      obtain ⟨x1,x2⟩:=hex (x :: r) hr ha hM;rw [x1] at hRR;rw [x2] at hnn;subst hRR hnn;simp only [↓evP,evB,stB,reduceIte,reduceCtorEq,seval,h5,hg,ho,i5,hbr,hlt,decide_true];refine ⟨(by unfold Drw;refine Eq.trans (b:=true) ?_ rfl;kernel_rfl),?_⟩
      simp only [stB,reduceIte,seval,prm51]
    | false =>
      have hmodel:=hbf rfl;rw [hf] at hmodel
      have hM:∀ q:Option Nat×List Nat,rdF 5 true 0 1 rest=q→aP ⟨rest,false⟩=(match q with | (some n,r)=>(n,⟨r,false⟩) | (none,r)=>(0,⟨r,true⟩)):=fun q h=>by
       unfold aP;rw [if_neg (by simp)];dsimp only;rw [h]
      have hr2:r <:+ b:=(List.suffix_cons x r).trans hr;have ha2:b.length - r.length=a+1:=by simp at ha hrl;omega
      have hxm:x ∈ b:=hr.subset (List.mem_cons_self ..);have hx:=hby x hxm
      have gx:b[a]? = some x:=by
       have:=List.getElem?_drop (xs:=b) (i:=a) (j:=0);rw [hrd] at this;exact this.symm
      have gb:(byR b)[a]? = some [.sc (.int .u8 (x:Int))]:=by unfold byR;rw [List.getElem?_map,gx];rfl
      have hp4:p≤268435456:=by
       rw [hp];exact Nat.le_trans (Nat.pow_le_pow_right (by decide) (show i≤4 by omega)) (by decide)
      rw [←hp] at hn;have wx:IntKind.i64.wrap (x:Int)=(x:Int):=bY (by omega) (by omega);have wa:IntKind.i64.wrap ((a:Int)+1)=((a+1:Nat):Int):=by rw [bY (by omega) (by omega)];omega
      have tm:(x:Int).tmod 128=((x % 128:Nat):Int):=by rw [Int.tmod_eq_emod_of_nonneg (by omega)];omega
      have hq:x % 128 * p≤127 * 268435456:=Nat.mul_le_mul (by omega) hp4
      have wm:IntKind.i64.wrap (((x % 128:Nat):Int) * (p:Int))=((x % 128 * p:Nat):Int):=by
       rw [←Int.natCast_mul];exact bY (by omega) (by omega)
      have wn:IntKind.i64.wrap ((n:Int)+((x % 128 * p:Nat):Int))=((n+x % 128 * p:Nat):Int):=by
       rw [←Int.natCast_add];exact bY (by omega) (by omega)
      have wp:IntKind.i64.wrap ((p:Int) * 128)=((p * 128:Nat):Int):=by
       rw [bY (by omega) (by omega)];omega
      have wi:IntKind.i64.wrap ((i:Int)+1)=((i+1:Nat):Int):=by rw [bY (by omega) (by omega)];omega
      have n128:((128:Int)=0)=False:=by simp
      simp only [↓evP,evB,stB,reduceIte,reduceCtorEq,seval,h5,hg,ho,i5,hbr,hlt,decide_true];refine ⟨(by unfold Drw;refine Eq.trans (b:=true) ?_ rfl;kernel_rfl),?_⟩
      simp only [↓evP,evB,stB,reduceIte,reduceCtorEq,seval,h3,h4,h5,hg,ho,gb,wx,wa];refine ⟨(by unfold Drw;refine Eq.trans (b:=true) ?_ rfl;kernel_rfl),?_⟩
      have hqp:x % 128 * p≤127 * p:=Nat.mul_le_mul_right _ (by omega);obtain ⟨n',hn'⟩:∃ n',n+x % 128 * p=n':=⟨_,rfl⟩
      have hrow:∀ c:Bool,eY b ⟨r,c⟩=[.im (byR b),dI ((a+1:Nat):Int),.sc (.bool c)]:=fun c=>by
       unfold eY;dsimp only;rw [ha2]
      by_cases hx128:x < 128
      ·have hlt2:(x:Int) < 128:=by omega
       have hxx:x % 128=x:=Nat.mod_eq_of_lt hx128
       have hstep:rdF (f+1) (decide (i=0)) n p (x :: r)=((if (x=0∧decide (i=0)=false)∨4294967295 < n' then none else some n'),r):=by
        rw [←hn',hxx];exact if_pos hx128
       rw [hmodel] at hstep;have hMs:=hM _ hstep;rw [hn'] at wn
       have hcb:∀ (t:Bool),((x:Int) == 0)=t→(t=true↔x=0):=fun t ht=>by
        rw [←ht,beq_iff_eq];omega
       by_cases hbad:(x=0∧decide (i=0)=false)∨4294967295 < n'
       ·rw [if_pos hbad] at hMs;dsimp only at hMs;rw [hMs] at hRR hnn;rw [hrow] at hRR;have hnn:(0:Int)=nn:=hnn;subst hRR hnn
        cases hc:((x:Int) == 0) with
        | true =>
          have x0:=(hcb _ hc).1 rfl
          by_cases hi0:i=0
          ·have hig:¬ (i:Int) > 0:=by omega
           have hbg:(n':Int) > 4294967295:=by
            rcases hbad with ⟨_,q⟩ | q
            ·simp [hi0] at q
            ·omega
           simp only [stB,reduceIte,reduceCtorEq,seval,tm,wm,wn,wp,hlt2,hig,hbg,decide_true,decide_false,prm51]
          ·have hig:(i:Int) > 0:=by omega
           simp only [stB,reduceIte,reduceCtorEq,seval,tm,wm,wn,wp,hlt2,hig,decide_true,prm51]
        | false =>
          have x0:¬ x=0:=fun q=>by have:=(hcb _ hc).2 q;cases this
          have hbg:(n':Int) > 4294967295:=by
           rcases hbad with ⟨q,_⟩ | q
           ·exact absurd q x0
           ·omega
          simp only [stB,reduceIte,reduceCtorEq,seval,tm,wm,wn,wp,hlt2,hbg,decide_true,prm51]
       ·rw [if_neg hbad] at hMs;dsimp only at hMs;rw [hMs] at hRR hnn;rw [hrow] at hRR;have hnn:(n':Int)=nn:=hnn;subst hRR hnn;have hbg:¬ (n':Int) > 4294967295:=fun q=>hbad (.inr (by omega))
        cases hc:((x:Int) == 0) with
        | true =>
          have x0:=(hcb _ hc).1 rfl;have hi0:i=0:=Classical.byContradiction fun q=>hbad (.inl ⟨x0,by simp [q]⟩)
          have hig:¬ (i:Int) > 0:=by omega
          simp only [stB,reduceIte,reduceCtorEq,seval,tm,wm,wn,wp,hlt2,hig,hbg,decide_true,decide_false,prm51]
        | false =>
          simp only [stB,reduceIte,reduceCtorEq,seval,tm,wm,wn,wp,hlt2,hbg,decide_true,decide_false,prm51]
      ·have hlt2:¬ (x:Int) < 128:=by omega
       simp only [stB,seval,tm,wm,wn,wp,wi,hlt2,decide_false]
       refine ⟨_,by omega,(by repeat' (first | assumption | exact aV.mpr trivial | exact Within.refl _ _ _ | (refine bg ?_ rfl rfl) | (refine aW ?_ rfl))),i+1,n+x % 128 * p,p * 128,r,rfl,by omega,by simp only [stB,Nat.reduceEqDiff,Nat.reduceBEq],by simp only [stB,Nat.reduceEqDiff,Nat.reduceBEq],by simp only [stB,Nat.reduceEqDiff,Nat.reduceBEq],by simp only [stB,hg],?_,hr2,by rw [hp,Nat.pow_succ],?_,?_⟩
       ·simp only [stB,ho];rw [hrow]
        first | done | rfl
       ·rw [Nat.pow_succ,←hp];omega
       ·have:5 - (i+1)=f:=by omega
        rw [this,←hmodel]
        show rdF f (decide (i+1=0)) _ _ r=(if x < 128 then _ else _)
        rw [if_neg hx128];rfl
 ·have hie:i=5:=by omega
  subst hie;have i5:¬ ((5:Nat):Int) < 5:=by decide
  have hM:aP ⟨rest,bad⟩=(0,⟨r,true⟩):=by
   unfold aP
   cases bad with
   | true=>rw [if_pos rfl,←hbt rfl]
   | false =>
     rw [if_neg (by simp),←hbf rfl];rfl
  obtain ⟨x1,x2⟩:=hex r hr ha hM;rw [x1] at hRR;rw [x2] at hnn;subst hRR hnn;simp only [↓evP,evB,stB,reduceIte,reduceCtorEq,seval,h5,hg,ho,decide_false];refine ⟨(by unfold Drw;refine Eq.trans (b:=true) ?_ rfl;kernel_rfl),?_⟩
  simp only [stB,reduceIte,seval,prm51]
end Go.Proofs.Ytkafcpnahpfbfaa
end
section
namespace Go.Proofs.Ytkafcpnahpfbfaa
open Go Go.RowKit
set_option maxRecDepth 100000
set_option maxHeartbeats 4000000
def Dep.good (d:Dep) (i:Nat):Prop:=(-1≤fH d i∧fH d i < (i:Int))∧0≤(dS d i).1∧0≤(dS d i).2
def Dep.dup (d:Dep) (k i:Nat):Prop:=dS d k=dS d i∧fH d k=fH d i
def Dep.val (d:Dep):Prop:=d.st.length=d.pr.length∧∀ i,i < d.st.length→d.good i∧∀ k,k < i→¬ d.dup k i
open Classical in
noncomputable def tX (d:Dep):Bool:=decide d.val
open Classical in
theorem pJ {d:Dep} (h:¬ d.val):tX d=false:=by unfold tX;exact decide_eq_false h
open Classical in
theorem nK {d:Dep} (h:d.val):tX d=true:=by unfold tX;exact decide_eq_true h
def FC (ps rs:List Pa):Prop:=∃ d:Dep,ps=[d.pa]∧(d.st.length≤1000000∧d.pr.length≤1000000)∧rs=[pB (tX d)]
theorem G7:Spec Try.prog 34 FC:=by
 refine sp34 aA.e0 ?_;rintro ps rs ⟨d,rfl,⟨hl1,hl2⟩,rfl⟩;refine ⟨by simp,?_⟩;unfold pc34
 with_reducible refine aJ ?_
 have m1:(d.st.map aQ).length=d.st.length:=List.length_map ..;have m2:(d.pr.map fun x=>[dI x]).length=d.pr.length:=List.length_map ..
 by_cases hlen:d.st.length=d.pr.length
 ·have b0:((d.st.length:Int) != (d.pr.length:Int))=false:=by rw [hlen];simp
  simp only [↓evP,evB,stB,reduceCtorEq,Nat.reduceEqDiff,Dep.pa,Dep.row,m1,m2,b0];refine dP [0,1,2,3] [1] (fun S hs ho=>?_);simp only [stB,reduceCtorEq,Nat.reduceEqDiff] at hs ho;obtain ⟨q0,q1,q2,q3⟩:=hs;obtain ⟨r1,t1⟩:=ho;refine bH ms34_0 os34_0 (fun m st=>∃ i:Nat,m=d.st.length - i∧i≤d.st.length∧st.sl 3=aI i∧∀ x,x < i→d.good x∧∀ k,k < x→¬ d.dup k x) d.st.length ?_ ?_
  ·exact ⟨0,rfl,Nat.zero_le _,q3,fun x q=>absurd q (Nat.not_lt_zero _)⟩
  rintro m z ⟨i,rfl,hi,h3,hal⟩;simp only [stB,Nat.reduceBEq] at h3
  rcases Nat.lt_or_ge i d.st.length with hlt | hge
  ·have gp:d.pr[i]? = some (fH d i):=by unfold fH;rw [List.getD_eq_getElem?_getD,List.getElem?_eq_getElem (by omega)];rfl
   have gs:d.st[i]? = some (dS d i):=by unfold dS;rw [List.getD_eq_getElem?_getD,List.getElem?_eq_getElem hlt];rfl
   have ilt:(i:Int) < (d.st.length:Int):=by omega
   have i0:(0:Int)≤(i:Int):=by omega
   have hbad:¬ d.good i→tX d=false:=fun h=>pJ fun q=>h (q.2 i hlt).1
   obtain ⟨⟨s1,s2⟩,hs⟩:∃ s,dS d i=s:=⟨_,rfl⟩
   rw [hs] at gs
   by_cases c1:fH d i < -1
   ·rw [hbad fun h=>by have:=h.1.1;omega]
    simp only [↓evP,evB,stB,reduceCtorEq,Nat.reduceEqDiff,Nat.reduceBEq,q1,r1,t1,h3,m1,ilt,i0,gp,c1,decide_true,pr34]
    first | done | rfl
   by_cases c2:fH d i≥(i:Int)
   ·rw [hbad fun h=>by have:=h.1.2;omega]
    simp only [↓evP,evB,stB,reduceCtorEq,Nat.reduceEqDiff,Nat.reduceBEq,q1,r1,t1,h3,m1,ilt,i0,gp,c1,c2,decide_true,decide_false,pr34]
    first | done | rfl
   by_cases c3:s1 < 0
   ·rw [hbad fun h=>by have:=h.2.1;rw [hs] at this;dsimp only at this;omega]
    simp only [↓evP,evB,stB,reduceCtorEq,Nat.reduceEqDiff,Nat.reduceAdd,Nat.reduceBEq,q1,r1,t1,h3,m1,ilt,i0,gp,gs,c1,c2,c3,aQ,decide_true,decide_false,pr34]
    first | done | rfl
   by_cases c4:s2 < 0
   ·rw [hbad fun h=>by have:=h.2.2;rw [hs] at this;dsimp only at this;omega]
    simp only [↓evP,evB,stB,reduceCtorEq,Nat.reduceEqDiff,Nat.reduceAdd,Nat.reduceBEq,q1,r1,t1,h3,m1,ilt,i0,gp,gs,c1,c2,c3,c4,aQ,decide_true,decide_false,pr34]
    first | done | rfl
   have hgood:d.good i:=⟨⟨by omega,by omega⟩,by rw [hs];dsimp only;omega,by rw [hs];dsimp only;omega⟩
   simp only [↓evP,evB,stB,reduceCtorEq,Nat.reduceEqDiff,Nat.reduceAdd,Nat.reduceBEq,q1,r1,t1,h3,m1,ilt,i0,gp,gs,c1,c2,c3,c4,aQ,decide_true,decide_false]
   refine jm (fun st=>Within ms34_0 os34_0 S st) (by repeat' (first | assumption | exact aV.mpr trivial | exact Within.refl _ _ _ | (refine bg ?_ rfl rfl) | (refine aW ?_ rfl))) [0,1,3,4] [1] (fun T hwT hs2 ho2=>?_);simp only [stB,reduceCtorEq,Nat.reduceEqDiff,Nat.reduceBEq,q0,q1,r1,t1,h3] at hs2 ho2;obtain ⟨p0,p1,p3,p4⟩:=hs2;obtain ⟨v1,v2⟩:=ho2;refine bH ms34_1 os34_1 (fun m st=>∃ k:Nat,m=i - k∧k≤i∧st.sl 4=aI k∧∀ x,x < k→¬ d.dup x i) i ?_ ?_
   ·exact ⟨0,rfl,Nat.zero_le _,p4,fun x q=>absurd q (Nat.not_lt_zero _)⟩
   rintro m2 z2 ⟨k,rfl,hk,h4,hno⟩;simp only [stB,Nat.reduceBEq] at h4
   rcases Nat.lt_or_ge k i with hki | hki
   ·have gp2:d.pr[k]? = some (fH d k):=by unfold fH;rw [List.getD_eq_getElem?_getD,List.getElem?_eq_getElem (by omega)];rfl
    have gs2:d.st[k]? = some (dS d k):=by unfold dS;rw [List.getD_eq_getElem?_getD,List.getElem?_eq_getElem (by omega)];rfl
    have kli:(k:Int) < (i:Int):=by omega
    have k0:(0:Int)≤(k:Int):=by omega
    obtain ⟨⟨u1,u2⟩,hu⟩:∃ u,dS d k=u:=⟨_,rfl⟩
    rw [hu] at gs2
    have hnext:¬ d.dup k i→∀ x,x < k+1→¬ d.dup x i:=fun h x hx=>by
     rcases Nat.lt_or_ge x k with q | q
     ·exact hno x q
     ·have:x=k:=by omega
      subst this;exact h
    cases b1:(u1 == s1) with
    | false =>
      have hd:¬ d.dup k i:=fun h=>by
       have:=h.1;rw [hu,hs] at this;cases this;simp at b1
      simp only [↓evP,evB,stB,reduceCtorEq,Nat.reduceEqDiff,Nat.reduceAdd,Nat.reduceLeDiff,Nat.reduceBEq,p1,p3,v1,v2,h4,kli,k0,i0,gs,gs2,aQ,gJ,qH,b1,decide_true];refine ⟨(by unfold Drw;refine Eq.trans (b:=true) ?_ rfl;kernel_rfl),?_⟩
      exact ⟨_,by omega,(by repeat' (first | assumption | exact aV.mpr trivial | exact Within.refl _ _ _ | (refine bg ?_ rfl rfl) | (refine aW ?_ rfl))),k+1,rfl,hki,by simp only [stB,Nat.reduceEqDiff,Nat.reduceBEq,h4];rw [wrN (by omega)],hnext hd⟩
    | true =>
      cases b2:(u2 == s2) with
      | false =>
        have hd:¬ d.dup k i:=fun h=>by
         have:=h.1;rw [hu,hs] at this;cases this;simp at b2
        simp only [↓evP,evB,stB,reduceCtorEq,Nat.reduceEqDiff,Nat.reduceAdd,Nat.reduceLeDiff,Nat.reduceBEq,p1,p3,v1,v2,h4,kli,k0,i0,gs,gs2,aQ,gJ,qH,b1,b2,decide_true];refine ⟨(by unfold Drw;refine Eq.trans (b:=true) ?_ rfl;kernel_rfl),?_⟩
        exact ⟨_,by omega,(by repeat' (first | assumption | exact aV.mpr trivial | exact Within.refl _ _ _ | (refine bg ?_ rfl rfl) | (refine aW ?_ rfl))),k+1,rfl,hki,by simp only [stB,Nat.reduceEqDiff,Nat.reduceBEq,h4];rw [wrN (by omega)],hnext hd⟩
      | true =>
        cases b3:(fH d k == fH d i) with
        | false =>
          have hd:¬ d.dup k i:=fun h=>by
           have:=h.2;rw [this] at b3;simp at b3
          simp only [↓evP,evB,stB,reduceCtorEq,Nat.reduceEqDiff,Nat.reduceAdd,Nat.reduceLeDiff,Nat.reduceBEq,p1,p3,v1,v2,h4,kli,k0,i0,gp,gs,gp2,gs2,aQ,gJ,qH,b1,b2,b3,decide_true];refine ⟨(by unfold Drw;refine Eq.trans (b:=true) ?_ rfl;kernel_rfl),?_⟩
          exact ⟨_,by omega,(by repeat' (first | assumption | exact aV.mpr trivial | exact Within.refl _ _ _ | (refine bg ?_ rfl rfl) | (refine aW ?_ rfl))),k+1,rfl,hki,by simp only [stB,Nat.reduceEqDiff,Nat.reduceBEq,h4];rw [wrN (by omega)],hnext hd⟩
        | true =>
          have hd:d.dup k i:=⟨by rw [hu,hs,eq_of_beq b1,eq_of_beq b2],eq_of_beq b3⟩;rw [pJ fun q=>(q.2 i hlt).2 k hki hd];simp only [↓evP,evB,stB,reduceCtorEq,Nat.reduceEqDiff,Nat.reduceAdd,Nat.reduceLeDiff,Nat.reduceBEq,p1,p3,v1,v2,h4,kli,k0,i0,gp,gs,gp2,gs2,aQ,gJ,qH,b1,b2,b3,decide_true,pr34]
          first | done | exact ⟨(by unfold Drw;refine Eq.trans (b:=true) ?_ rfl;kernel_rfl),rfl⟩ | rfl
   ·have hke:k=i:=by omega
    subst hke;have kli:¬ (k:Int) < (k:Int):=by omega
    simp only [↓evP,evB,stB,reduceCtorEq,Nat.reduceEqDiff,Nat.reduceBEq,p1,p3,v1,v2,h4,kli,decide_false]
    exact ⟨_,by omega,(by repeat' (first | exact jq hwT rfl rfl | (refine bg ?_ rfl rfl) | (refine aW ?_ rfl))),k+1,rfl,by omega,by simp only [stB,Nat.reduceEqDiff,Nat.reduceBEq,p3];rw [wrN (by omega)],fun x hx=>by
     rcases Nat.lt_or_ge x k with q | q
     ·exact hal x q
     ·have:x=k:=by omega
      subst this;exact ⟨hgood,hno⟩⟩
  ·have hie:i=d.st.length:=by omega
   have ilt:¬ (i:Int) < (d.st.length:Int):=by omega
   have hv:tX d=true:=nK ⟨hlen,fun x hx=>hal x (by omega)⟩;rw [hv];simp only [↓evP,evB,stB,reduceCtorEq,Nat.reduceEqDiff,Nat.reduceBEq,q1,r1,t1,h3,m1,ilt,decide_false,pr34]
   first | done | rfl
 ·have b0:((d.st.length:Int) != (d.pr.length:Int))=true:=by
   rw [bne_iff_ne];omega
  rw [pJ fun h=>hlen h.1];simp only [↓evP,evB,stB,reduceCtorEq,Nat.reduceEqDiff,Dep.pa,Dep.row,m1,m2,b0,pr34]
  first | done | rfl
end Go.Proofs.Ytkafcpnahpfbfaa
end
section
namespace Go.Proofs.Ytkafcpnahpfbfaa
open Go Go.RowKit
set_option maxRecDepth 1000000
set_option maxHeartbeats 4000000
def jf (n:Nat):Int:=if n % 2=1 then -(((n+1) / 2:Nat):Int) else ((n / 2:Nat):Int)
def FK (ds:List Dt) (az:List Pa) (ds':List Dt) (rs:List Pa):Prop:=∃ (b:List Nat) (s:Rs),ds=eY b s∧az=[]∧(b.length≤1000000∧s.rest <:+ b∧∀ x ∈ b,x≤255)∧ds'=eY b (aP s).2∧rs=[pI (jf (aP s).1)]
theorem UF:uy Try.prog 63 FK:=by
 refine spm63 (show aA Try.prog (m1 51 lK e0) from aA.m1 Au aA.e0) ?_;rintro ds az ds' rs ⟨b,s,rfl,rfl,hb,rfl,rfl⟩;refine ⟨by simp,?_⟩;have hbd:=lC s;obtain ⟨n,hn⟩:∃ n,(aP s).1=n:=⟨_,rfl⟩
 obtain ⟨a1,a2,hR0⟩:∃ a1 a2,eY b s=[.im (byR b),dI a1,.sc (.bool a2)]:=⟨_,_,rfl⟩
 obtain ⟨b1,b2,hRR⟩:∃ a1 a2,eY b (aP s).2=[.im (byR b),dI a1,.sc (.bool a2)]:=⟨_,_,rfl⟩
 have hcall:lK [.im (byR b),dI a1,.sc (.bool a2)] [] [.im (byR b),dI b1,.sc (.bool b2)] [pI (n:Nat)]:=⟨b,s,hR0.symm,rfl,hb,hRR.symm,by rw [hn]⟩;rw [hR0,hRR,hn];rw [hn] at hbd;unfold pcm63
 with_reducible refine aJ ?_
 simp only [↓evP,evB,stB,reduceIte,reduceCtorEq,seval];refine dN [.im (byR b),dI b1,.sc (.bool b2)] [pI (n:Nat)] (by exact hcall) rfl ?_;have t2:(n:Int).tmod 2=((n % 2:Nat):Int):=by rw [Int.tmod_eq_emod_of_nonneg (by omega)];omega
 have i0:((2:Int)=0)=False:=by simp
 have w1:IntKind.i64.wrap ((n:Int)+1)=((n+1:Nat):Int):=by rw [bY (by omega) (by omega)];omega
 have w2:IntKind.i64.wrap (0 - ((n+1:Nat):Int))=-((n+1:Nat):Int):=by rw [bY (by omega) (by omega)];omega
 by_cases h:n % 2=1
 ·have hd:jf n=-(((n+1) / 2:Nat):Int):=if_pos h;have t3:(((n % 2:Nat):Int) == 1)=true:=by rw [beq_iff_eq];omega
  have t4:(-((n+1:Nat):Int)).tdiv 2=-(((n+1) / 2:Nat):Int):=by
   rw [Int.neg_tdiv,Int.tdiv_eq_ediv_of_nonneg (by omega)];omega
  have t5:IntKind.i64.wrap (-(((n+1) / 2:Nat):Int))=-(((n+1) / 2:Nat):Int):=bY (by omega) (by omega);rw [hd];simp only [↓evP,evB,stB,reduceIte,reduceCtorEq,seval,t2,t3,t4,t5,i0,w1,w2,prm63]
 ·have hd:jf n=((n / 2:Nat):Int):=if_neg h;have t3:(((n % 2:Nat):Int) == 1)=false:=by rw [beq_eq_false_iff_ne];omega
  have t4:(n:Int).tdiv 2=((n / 2:Nat):Int):=by
   rw [Int.tdiv_eq_ediv_of_nonneg (by omega)];omega
  have t5:IntKind.i64.wrap ((n / 2:Nat):Int)=((n / 2:Nat):Int):=bY (by omega) (by omega);rw [hd];simp only [↓evP,evB,stB,reduceIte,reduceCtorEq,seval,t2,t3,t4,t5,i0,w1,w2,prm63]
def eqE (d:Dep) (p:Int) (s:Int×Int) (i:Nat):Prop:=dS d i=s∧fH d i=p
instance (d:Dep) (p:Int) (s:Int×Int) (i:Nat):Decidable (eqE d p s i):=inferInstanceAs (Decidable (_∧_))
def fE (d:Dep) (p:Int) (s:Int×Int):Nat→Nat→Nat
 | 0,i=>i
 | k+1,i=>if eqE d p s i then i else fE d p s k (i+1)
def yD (d:Dep) (p:Int) (s:Int×Int):Nat:=fE d p s d.st.length 0
def bZ (d:Dep) (p:Int) (s:Int×Int):Dep:=⟨d.st ++ [s],d.pr ++ [p]⟩
def uG (d:Dep) (p:Int) (s:Int×Int):Dep:=if yD d p s < d.st.length then d else bZ d p s
theorem RY (d:Dep) (p:Int) (s:Int×Int):∀ k i,fE d p s k i=i+k↔∀ x,i≤x→x < i+k→¬ eqE d p s x
 | 0,i=>⟨fun _ x h1 h2=>by omega,fun _=>rfl⟩
 | k+1,i=>by
   unfold fE
   by_cases h:eqE d p s i
   ·rw [if_pos h];exact ⟨fun q=>by omega,fun q=>absurd h (q i (Nat.le_refl _) (by omega))⟩
   ·rw [if_neg h,show i+(k+1)=i+1+k by omega,RY d p s k (i+1)];refine ⟨fun q x h1 h2=>?_,fun q x h1 h2=>q x (by omega) h2⟩
    rcases Nat.eq_or_lt_of_le h1 with rfl | h3
    ·exact h
    ·exact q x h3 h2
theorem nT {d:Dep} {p:Int} {s:Int×Int}:yD d p s=d.st.length↔∀ x,x < d.st.length→¬ eqE d p s x:=by
 have:=RY d p s d.st.length 0;unfold yD;rw [Nat.zero_add] at this;rw [this];exact ⟨fun q x hx=>q x (Nat.zero_le _) hx,fun q x _ hx=>q x hx⟩
def Aw (s:Int×Int):Pa:=.agg (aQ s)
def Og (ps rs:List Pa):Prop:=∃ (d:Dep) (p:Int) (s:Int×Int),ps=[d.pa,pI p,Aw s]∧(d.st.length=d.pr.length∧d.st.length≤900000)∧rs=[(uG d p s).pa,pI (yD d p s:Nat)]
theorem UJ:Spec Try.prog 65 Og:=by
 refine sp65 aA.e0 ?_;rintro ps rs ⟨d,p,s,rfl,⟨hlen,hl⟩,rfl⟩;refine ⟨by simp,?_⟩;have m1:(d.st.map aQ).length=d.st.length:=List.length_map ..;have m2:(d.pr.map fun x=>[dI x]).length=d.pr.length:=List.length_map ..;obtain ⟨c,e⟩:=s;unfold pc65
 with_reducible refine aJ ?_
 simp only [↓evP,evB,stB,reduceIte,seval,Dep.pa,Dep.row,Aw,aQ];refine dP [1,3,5,6,7,8] [3,5,6] (fun T hs2 ho2=>?_);simp only [stB,Nat.reduceEqDiff] at hs2 ho2;obtain ⟨t1,t3,t5,t6,t7,t8⟩:=hs2;obtain ⟨⟨g3,o3⟩,⟨g5,o5⟩,g6,o6⟩:=ho2;refine bH ms65_0 os65_0 (fun m st=>∃ i:Nat,m=d.st.length - i∧i≤d.st.length∧st.sl 8=aI i∧(st.gen 6=T.gen 6∧st.ob 6=T.ob 6)∧fE d p (c,e) (d.st.length - i) i=yD d p (c,e)) d.st.length ?_ ?_
 ·exact ⟨0,rfl,Nat.zero_le _,t8,⟨rfl,rfl⟩,rfl⟩
 rintro m z ⟨i,rfl,hi,h8,⟨z1,z2⟩,hfe⟩;rw [g6] at z1;rw [o6] at z2;simp only [stB,Nat.reduceBEq] at h8 z1 z2
 rcases Nat.lt_or_ge i d.st.length with hlt | hge
 ·have gp:d.pr[i]? = some (fH d i):=by unfold fH;rw [List.getD_eq_getElem?_getD,List.getElem?_eq_getElem (by omega)];rfl
  have gs:d.st[i]? = some (dS d i):=by unfold dS;rw [List.getD_eq_getElem?_getD,List.getElem?_eq_getElem hlt];rfl
  have ilt:(i:Int) < (d.st.length:Int):=by omega
  have i0:(0:Int)≤(i:Int):=by omega
  obtain ⟨f,hf⟩:∃ f,d.st.length - i=f+1:=⟨d.st.length - i - 1,by omega⟩
  rw [hf] at hfe
  have hno:¬ eqE d p (c,e) i→fE d p (c,e) (d.st.length - (i+1)) (i+1)=yD d p (c,e):=fun h=>by
   rw [←hfe,show d.st.length - (i+1)=f by omega];exact (if_neg h).symm
  have hyes:eqE d p (c,e) i→yD d p (c,e)=i:=fun h=>by
   rw [←hfe];exact if_pos h
  obtain ⟨⟨u1,u2⟩,hu⟩:∃ u,dS d i=u:=⟨_,rfl⟩
  rw [hu] at gs
  cases b1:(u1 == c) with
  | false =>
    have hd:¬ eqE d p (c,e) i:=fun h=>by
     have:=h.1;rw [hu] at this;cases this;simp at b1
    simp only [↓evP,evB,stB,reduceIte,reduceCtorEq,seval,t3,t5,t6,g3,o3,g5,o5,z1,z2,h8,m1,ilt,i0,gs,aQ,gJ,qH,b1,decide_true];refine ⟨(by unfold Drw;refine Eq.trans (b:=true) ?_ rfl;kernel_rfl),?_⟩
    exact ⟨_,by omega,(by repeat' (first | assumption | exact aV.mpr trivial | exact Within.refl _ _ _ | (refine bg ?_ rfl rfl) | (refine aW ?_ rfl))),i+1,rfl,hlt,by simp only [stB,Nat.reduceEqDiff,Nat.reduceBEq,h8];rw [wrN (by omega)],⟨by simp only [stB,z1,g6],by simp only [stB,z2,o6]⟩,hno hd⟩
  | true =>
    cases b2:(u2 == e) with
    | false =>
      have hd:¬ eqE d p (c,e) i:=fun h=>by
       have:=h.1;rw [hu] at this;cases this;simp at b2
      simp only [↓evP,evB,stB,reduceIte,reduceCtorEq,seval,t3,t5,t6,g3,o3,g5,o5,z1,z2,h8,m1,ilt,i0,gs,aQ,gJ,qH,b1,b2,decide_true];refine ⟨(by unfold Drw;refine Eq.trans (b:=true) ?_ rfl;kernel_rfl),?_⟩
      exact ⟨_,by omega,(by repeat' (first | assumption | exact aV.mpr trivial | exact Within.refl _ _ _ | (refine bg ?_ rfl rfl) | (refine aW ?_ rfl))),i+1,rfl,hlt,by simp only [stB,Nat.reduceEqDiff,Nat.reduceBEq,h8];rw [wrN (by omega)],⟨by simp only [stB,z1,g6],by simp only [stB,z2,o6]⟩,hno hd⟩
    | true =>
      cases b3:(fH d i == p) with
      | false =>
        have hd:¬ eqE d p (c,e) i:=fun h=>by
         have:=h.2;rw [this] at b3;simp at b3
        simp only [↓evP,evB,stB,reduceIte,reduceCtorEq,seval,t1,t3,t5,t6,g3,o3,g5,o5,z1,z2,h8,m1,ilt,i0,gp,gs,aQ,gJ,qH,b1,b2,b3,decide_true];refine ⟨(by unfold Drw;refine Eq.trans (b:=true) ?_ rfl;kernel_rfl),?_⟩
        exact ⟨_,by omega,(by repeat' (first | assumption | exact aV.mpr trivial | exact Within.refl _ _ _ | (refine bg ?_ rfl rfl) | (refine aW ?_ rfl))),i+1,rfl,hlt,by simp only [stB,Nat.reduceEqDiff,Nat.reduceBEq,h8];rw [wrN (by omega)],⟨by simp only [stB,z1,g6],by simp only [stB,z2,o6]⟩,hno hd⟩
      | true =>
        have hd:eqE d p (c,e) i:=⟨by rw [hu,eq_of_beq b1,eq_of_beq b2],eq_of_beq b3⟩;have hpd:uG d p (c,e)=d:=by unfold uG;rw [hyes hd,if_pos hlt]
        rw [hpd,hyes hd];simp only [↓evP,evB,stB,reduceIte,reduceCtorEq,seval,t1,t3,t5,t6,g3,o3,g5,o5,z1,z2,h8,m1,ilt,i0,gp,gs,aQ,gJ,qH,b1,b2,b3,decide_true,pr65]
        first | done | exact (by unfold Drw;refine Eq.trans (b:=true) ?_ rfl;kernel_rfl) | exact ⟨(by unfold Drw;refine Eq.trans (b:=true) ?_ rfl;kernel_rfl),rfl⟩ | rfl
 ·have hie:i=d.st.length:=by omega
  subst hie;have ilt:¬ (d.st.length:Int) < (d.st.length:Int):=by omega
  rw [Nat.sub_self] at hfe;have hfe:d.st.length=yD d p (c,e):=hfe;have hpd:uG d p (c,e)=bZ d p (c,e):=by unfold uG;rw [←hfe,if_neg (Nat.lt_irrefl _)]
  have s1:∀ r ∈ d.st.map aQ,r.length=2:=fun r hr=>by obtain ⟨x,_,rfl⟩:=List.mem_map.1 hr;rfl
  have s2:∀ r ∈ d.pr.map (fun x=>[dI x]),r.length=1:=fun r hr=>by obtain ⟨x,_,rfl⟩:=List.mem_map.1 hr;rfl
  have s1':(∀ r ∈ d.st.map aQ,r.length=2)=True:=eq_true s1;have s2':(∀ r ∈ d.pr.map (fun x=>[dI x]),r.length=1)=True:=eq_true s2;have q1:d.st.length≤1000000:=by omega
  have q2:d.pr.length≤1000000:=by omega
  have q3:d.st.length+1≤1000000:=by omega
  have q4:d.pr.length+1≤1000000:=by omega
  rw [hpd,←hfe];simp only [↓evP,evB,stB,reduceIte,reduceCtorEq,seval,t1,t3,t5,t6,g3,o3,g5,o5,z1,z2,h8,m1,m2,ilt,s1',s2',q1,q2,q3,q4,decide_false];refine ⟨(by unfold Drw;refine Eq.trans (b:=true) ?_ rfl;kernel_rfl),(by unfold Drw;refine Eq.trans (b:=true) ?_ rfl;kernel_rfl),?_⟩
  simp only [stB,reduceIte,seval,t6,g6,z1,z2,bZ,aQ,List.map_append,pr65]
def Oc (ps rs:List Pa):Prop:=∃ (d:Dep) (p:Int) (s:Int×Int),ps=[d.pa,pI p,Aw s]∧(d.val∧d.st.length≤900000∧-1≤p∧0≤s.1∧0≤s.2)∧rs=if p < (d.st.length:Int) then [(uG d p s).pa,pI (yD d p s:Nat)] else [Dep.pa ⟨[],[]⟩,pI (-1)]
noncomputable def Ld:Env:=e1 65 Og (e1 34 FC e0)
theorem Ef:aA Try.prog Ld:=aA.e1 UJ (aA.e1 G7 aA.e0)
theorem UD:Spec Try.prog 64 Oc:=by
 refine sp64 Ef ?_;rintro ps rs ⟨d,p,s,rfl,⟨hv,hl,hp,h1,h2⟩,rfl⟩;refine ⟨by simp,?_⟩;have hlen:=hv.1;have m1:(d.st.map aQ).length=d.st.length:=List.length_map ..;obtain ⟨c,e⟩:=s;dsimp only at h1 h2;have c1:¬ p < -1:=by omega
 have c3:¬ c < 0:=by omega
 have c4:¬ e < 0:=by omega
 unfold pc64
 with_reducible refine aJ ?_
 simp only [↓evP,evB,stB,reduceIte,seval,Dep.pa,Dep.row,Aw,aQ];refine aC [pB (tX d)] (by exact ⟨d,rfl,⟨by omega,by omega⟩,rfl⟩) ?_;rw [nK hv]
 by_cases c2:p < (d.st.length:Int)
 ·have c2':¬ p≥(d.st.length:Int):=by omega
  rw [if_pos c2];simp only [↓evP,evB,stB,reduceIte,reduceCtorEq,seval,c1,c2',c3,c4,m1,decide_false];refine aC [(uG d p (c,e)).pa,pI (yD d p (c,e):Nat)] (by exact ⟨d,p,(c,e),rfl,⟨hlen,hl⟩,rfl⟩) ?_;simp only [↓evP,evB,stB,reduceIte,reduceCtorEq,seval,Dep.pa,Dep.row,pr64]
 ·have c2':p≥(d.st.length:Int):=by omega
  rw [if_neg c2];simp only [↓evP,evB,stB,reduceIte,reduceCtorEq,seval,c1,c2',m1,decide_true,decide_false,pr64]
def newE (d:Dep) (p:Int) (s:Int×Int):Prop:=p < (d.st.length:Int)∧yD d p s=d.st.length
instance (d:Dep) (p:Int) (s:Int×Int):Decidable (newE d p s):=inferInstanceAs (Decidable (_∧_))
def okE (d:Dep) (p:Int) (s:Int×Int):Prop:=newE d p s∧s.1≤2147483647∧s.2≤2147483647
instance (d:Dep) (p:Int) (s:Int×Int):Decidable (okE d p s):=inferInstanceAs (Decidable (_∧_∧_))
def dJ (s:Rs):(Int×(Int×Int))×Rs :=
 let n1:=aP s
 let n2:=aP n1.2
 let n3:=aP n2.2
 (((n1.1:Int) - 1,((n2.1:Int),(n3.1:Int))),n3.2)
def fK:Nat→Dep→Rs→Dep×Rs
 | 0,d,s=>(d,s)
 | k+1,d,s=>if s.bad=true then (d,s) else
   if (dJ s).2.bad=true∨¬ okE d (dJ s).1.1 (dJ s).1.2 then (d,⟨(dJ s).2.rest,true⟩) else fK k (bZ d (dJ s).1.1 (dJ s).1.2) (dJ s).2
theorem jV {d:Dep} {p:Int} {s:Int×Int} {i:Nat} (h:i < d.st.length):dS (bZ d p s) i=dS d i:=by
 unfold dS bZ;simp only [List.getD_eq_getElem?_getD];rw [List.getElem?_append_left h]
theorem jT {d:Dep} {p:Int} {s:Int×Int} {i:Nat} (h:i < d.pr.length):fH (bZ d p s) i=fH d i:=by
 unfold fH bZ;simp only [List.getD_eq_getElem?_getD];rw [List.getElem?_append_left h]
theorem xA {d:Dep} {p:Int} {s:Int×Int} (h:d.val) (hn:newE d p s) (hp:-1≤p) (h1:0≤s.1) (h2:0≤s.2):(bZ d p s).val:=by
 obtain ⟨hl,hv⟩:=h;have e1:dS (bZ d p s) d.st.length=s:=by unfold dS bZ;simp
 have e2:fH (bZ d p s) d.st.length=p:=by unfold fH bZ;rw [hl];simp
 refine ⟨by unfold bZ;simp [hl],fun i hi=>?_⟩
 have hi':i < d.st.length+1:=by simpa [bZ] using hi
 rcases Nat.lt_or_ge i d.st.length with hlt | hge
 ·obtain ⟨g,hd⟩:=hv i hlt;refine ⟨?_,fun k hk hq=>hd k hk ?_⟩
  ·unfold Dep.good at g ⊢;rw [jV hlt,jT (by omega)];exact g
  ·unfold Dep.dup at hq ⊢;rw [jV hlt,jT (by omega),jV (by omega),jT (by omega)] at hq;exact hq
 ·have:i=d.st.length:=by omega
  subst this;refine ⟨?_,fun k hk hq=>?_⟩
  ·unfold Dep.good;rw [e1,e2];exact ⟨⟨hp,hn.1⟩,h1,h2⟩
  ·unfold Dep.dup at hq;rw [e1,e2,jV hk,jT (by omega)] at hq;exact (nT.1 hn.2) k hk hq
theorem lX (s:Rs):(dJ s).2.rest <:+ s.rest:=(dh _).trans ((dh _).trans (dh s))
theorem MV {s:Rs} (h:s.bad=true):(aP s).2=s:=by unfold aP;rw [if_pos h]
theorem wG {s:Rs} (h:(dJ s).2.bad=false):(dJ s).2.rest.length+3≤s.rest.length:=by
 have h3:=pR (s:=(aP (aP s).2).2) h;have h2:=pR h3.2;have h1:=pR h2.2
 show (aP (aP (aP s).2).2).2.rest.length+3≤_
 omega
def FL (ds:List Dt) (az:List Pa) (ds':List Dt) (rs:List Pa):Prop:=∃ (b:List Nat) (s:Rs) (d:Dep),ds=eY b s∧az=[d.pa]∧((b.length≤400000∧s.rest <:+ b∧∀ x ∈ b,x≤255)∧d.val∧d.st.length≤400000)∧ds'=eY b (fK (aP s).1 d (aP s).2).2∧rs=[(fK (aP s).1 d (aP s).2).1.pa]
noncomputable def Lj:Env:=m1 51 lK (e1 64 Oc e0)
theorem Ei:aA Try.prog Lj:=aA.m1 Au (aA.e1 UD aA.e0)
theorem iZ (b:List Nat) (s:Rs):∃ (a1:Int) (a2:Bool),eY b s=[.im (byR b),dI a1,.sc (.bool a2)]∧a2=s.bad:=⟨_,_,rfl,rfl⟩
theorem UH:uy Try.prog 62 FL:=by
 refine spm62 Ei ?_;rintro ds az ds' rs ⟨b,s,d,rfl,rfl,⟨⟨hbl,hsuf,hby⟩,hv,hdl⟩,rfl,rfl⟩;refine ⟨by simp,?_⟩;obtain ⟨cnt,hcnt⟩:∃ cnt,(aP s).1=cnt:=⟨_,rfl⟩
 obtain ⟨s1,hs1⟩:∃ s1,(aP s).2=s1:=⟨_,rfl⟩
 have hcb:=lC s;have hs1s:s1.rest <:+ b:=by rw [←hs1];exact (dh s).trans hsuf
 obtain ⟨a1,a2,hR0,_⟩:=iZ b s;obtain ⟨b1,b2,hR1,hb2⟩:=iZ b s1;have hc1:lK [.im (byR b),dI a1,.sc (.bool a2)] [] [.im (byR b),dI b1,.sc (.bool b2)] [pI (cnt:Nat)]:=⟨b,s,hR0.symm,rfl,⟨by omega,hsuf,hby⟩,by rw [hs1];exact hR1.symm,by rw [hcnt]⟩
 rw [hcnt] at hcb;rw [hcnt,hs1,hR0];obtain ⟨E,hE⟩:∃ E,fK cnt d s1=E:=⟨_,rfl⟩
 obtain ⟨e1,e2,hRE,_⟩:=iZ b E.2;rw [hE,hRE]
 have hfin:∀ D S,E=(D,S)→E.1=D∧eY b S=[.im (byR b),dI e1,.sc (.bool e2)]:=fun D S h=>by
  rw [h] at hRE ⊢;exact ⟨rfl,hRE⟩
 unfold pcm62
 with_reducible refine aJ ?_
 simp only [↓evP,evB,stB,reduceIte,reduceCtorEq,seval,Dep.pa,Dep.row];refine dN [.im (byR b),dI b1,.sc (.bool b2)] [pI (cnt:Nat)] (by exact hc1) rfl ?_;simp only [↓evP,evB,stB,reduceIte,seval];refine dP [0,3,4,5,6] [0,3,4] (fun T hs2 ho2=>?_);simp only [stB,reduceCtorEq,Nat.reduceEqDiff] at hs2 ho2;obtain ⟨t0,t3,t4,t5,t6⟩:=hs2;obtain ⟨⟨g0,o0⟩,⟨g3,o3⟩,g4,o4⟩:=ho2;refine bH ms62_0 os62_0 (fun m st=>∃ (i:Nat) (D:Dep) (S:Rs),m=cnt - i∧i≤cnt∧st.sl 6=aI i∧(st.gen 0=0∧st.ob 0=.cells ((eY b S).map .d))∧(st.gen 3=1∧st.ob 3=.cells (D.row.map .d))∧(st.gen 4=T.gen 4∧st.ob 4=T.ob 4)∧S.rest <:+ b∧D.val∧D.st.length+S.rest.length≤800000∧fK (cnt - i) D S=E) cnt ?_ ?_
 ·exact ⟨0,d,s1,rfl,Nat.zero_le _,t6,⟨g0,by rw [o0,hR1];rfl⟩,⟨g3,by rw [o3];rfl⟩,⟨rfl,rfl⟩,hs1s,hv,by have:=hs1s.length_le;omega,hE⟩
 rintro m z ⟨i,D,S,rfl,hi,h6,⟨y1,y2⟩,⟨y3,y4⟩,⟨y5,y6⟩,hS,hD,hsz,hent⟩;rw [g4] at y5;rw [o4] at y6;simp only [stB,Nat.reduceBEq,Dep.row] at h6 y1 y2 y3 y4 y5 y6;obtain ⟨x1,x2,hx,hx2⟩:=iZ b S;rw [hx] at y2;simp only [List.map_cons,List.map_nil] at y2
 rcases Nat.lt_or_ge i cnt with hlt | hge
 ·have ilt:(i:Int) < (cnt:Int):=by omega
  obtain ⟨f,hf⟩:∃ f,cnt - i=f+1:=⟨cnt - i - 1,by omega⟩
  rw [hf] at hent;unfold fK at hent
  cases x2 with
  | true =>
    rw [if_pos hx2.symm] at hent;obtain ⟨q1,q2⟩:=hfin D S hent.symm;rw [hx] at q2;rw [q1];have q3:e1=x1∧e2=true:=by simp at q2;exact ⟨q2.1.symm,q2.2⟩
    obtain ⟨rfl,rfl⟩:=q3;simp only [↓evP,evB,stB,reduceIte,reduceCtorEq,seval,t0,t3,t4,t5,h6,y1,y2,y3,y4,y5,y6,ilt,decide_true,Dep.row,prm62]
  | false =>
    rw [if_neg (by rw [←hx2];simp)] at hent
    -- the three numbers
    have hN:∀ s0:Rs,s0.rest <:+ b→∃ c1 c2,eY b (aP s0).2=[.im (byR b),dI c1,.sc (.bool c2)]∧c2=(aP s0).2.bad∧(aP s0).2.rest <:+ b∧lK (eY b s0) [] [.im (byR b),dI c1,.sc (.bool c2)] [pI ((aP s0).1:Nat)]:=fun s0 h0=>by
     obtain ⟨c1,c2,h1,h2⟩:=iZ b (aP s0).2;exact ⟨c1,c2,h1,h2,(dh s0).trans h0,b,s0,rfl,rfl,⟨by omega,h0,hby⟩,h1.symm,rfl⟩
    obtain ⟨c1,c2,k1,k2,k3,k4⟩:=hN S hS;obtain ⟨c3,c4,k5,k6,k7,k8⟩:=hN (aP S).2 k3;obtain ⟨c5,c6,k9,k10,k11,k12⟩:=hN (aP (aP S).2).2 k7;rw [hx] at k4;rw [k1] at k8;rw [k5] at k12;have bd1:=lC S;have bd2:=lC (aP S).2;have bd3:=lC (aP (aP S).2).2;have htri:dJ S=((((aP S).1:Int) - 1,(((aP (aP S).2).1:Int),((aP (aP (aP S).2).2).1:Int))),(aP (aP (aP S).2).2).2):=rfl;obtain ⟨n1,hn1⟩:∃ n,(aP S).1=n:=⟨_,rfl⟩
    obtain ⟨n2,hn2⟩:∃ n,(aP (aP S).2).1=n:=⟨_,rfl⟩
    obtain ⟨n3,hn3⟩:∃ n,(aP (aP (aP S).2).2).1=n:=⟨_,rfl⟩
    obtain ⟨S3,hS3⟩:∃ n,(aP (aP (aP S).2).2).2=n:=⟨_,rfl⟩
    rw [hn1,hn2,hn3,hS3] at htri;rw [hn1] at k4 bd1;rw [hn2] at k8 bd2;rw [hn3] at k12 bd3;rw [hS3] at k9 k10 k11;rw [htri] at hent;dsimp only at hent;have w1:IntKind.i64.wrap ((n1:Int) - 1)=(n1:Int) - 1:=bY (by omega) (by omega)
    obtain ⟨e,k,hrs,hk1,hk2⟩:∃ (e:Dep) (k:Int),(if (n1:Int) - 1 < (D.st.length:Int) then [(uG D ((n1:Int) - 1) ((n2:Int),(n3:Int))).pa,pI (yD D ((n1:Int) - 1) ((n2:Int),(n3:Int)):Nat)] else [Dep.pa ⟨[],[]⟩,pI (-1)])=[e.pa,pI k]∧(k=(D.st.length:Int)↔newE D ((n1:Int) - 1) ((n2:Int),(n3:Int)))∧(newE D ((n1:Int) - 1) ((n2:Int),(n3:Int))→e=bZ D ((n1:Int) - 1) ((n2:Int),(n3:Int))):=by
     by_cases hq:(n1:Int) - 1 < (D.st.length:Int)
     ·refine ⟨_,_,if_pos hq,⟨fun h=>⟨hq,by omega⟩,fun h=>by rw [h.2]⟩,fun h=>?_⟩;unfold uG;rw [h.2,if_neg (Nat.lt_irrefl _)]
     ·exact ⟨_,_,if_neg hq,⟨fun h=>by omega,fun h=>absurd h.1 hq⟩,fun h=>absurd h.1 hq⟩
    have hsfx:=lX S;rw [htri] at hsfx;have hsfl:=hsfx.length_le;simp only [↓evP,evB,stB,reduceIte,reduceCtorEq,seval,t0,t3,t4,t5,h6,y1,y2,y3,y4,y5,y6,ilt,decide_true];refine dN [.im (byR b),dI c1,.sc (.bool c2)] [pI (n1:Nat)] (by exact k4) rfl ?_;simp only [↓evP,evB,stB,reduceIte,reduceCtorEq,seval,t0,y1,y2,w1];refine dN [.im (byR b),dI c3,.sc (.bool c4)] [pI (n2:Nat)] (by exact k8) rfl ?_;simp only [evB,stB,reduceIte,reduceCtorEq,seval,t0,y1,y2];refine dN [.im (byR b),dI c5,.sc (.bool c6)] [pI (n3:Nat)] (by exact k12) rfl ?_;simp only [↓evP,evB,stB,reduceIte,reduceCtorEq,seval,t3,y2,y3,y4];refine aC [e.pa,pI k] (by exact ⟨D,(n1:Int) - 1,((n2:Int),(n3:Int)),rfl,⟨hD,by omega,by omega,by dsimp only;omega,by dsimp only;omega⟩,hrs.symm⟩) ?_
    have hfail:(S3.bad=true∨¬ okE D ((n1:Int) - 1) ((n2:Int),(n3:Int)))→E.1=D∧e1=c5∧e2=true:=fun h=>by
     rw [if_pos h] at hent;obtain ⟨q1,q2⟩:=hfin D ⟨S3.rest,true⟩ hent.symm;refine ⟨q1,?_⟩
     have q4:eY b ⟨S3.rest,true⟩=[.im (byR b),dI c5,.sc (.bool true)]:=by
      have:eY b S3=[.im (byR b),dI c5,.sc (.bool c6)]:=k9;unfold eY at this ⊢;simp at this ⊢;exact this.1
     rw [q4] at q2;simp at q2;exact ⟨q2.1.symm,q2.2⟩
    have hne:∀ t:Bool,(k != (D.st.length:Int))=t→(t=false↔newE D ((n1:Int) - 1) ((n2:Int),(n3:Int))):=fun t ht=>by
     rw [←hk1,←ht];simp
    cases hc6:c6 with
    | true =>
      obtain ⟨q1,rfl,rfl⟩:=hfail (.inl (by rw [←k10,hc6]));rw [q1];simp only [↓evP,evB,stB,reduceIte,reduceCtorEq,seval,t0,t3,t4,h6,y1,y2,y3,y4,y5,y6,Dep.pa,Dep.row,prm62]
    | false =>
      have hb3:S3.bad=false:=by rw [←k10,hc6]
      cases hk:(k != (D.st.length:Int)) with
      | true =>
        obtain ⟨q1,rfl,rfl⟩:=hfail (.inr (fun q=>by have:=(hne _ hk).2 q.1;cases this))
        rw [q1];simp only [↓evP,evB,stB,reduceIte,reduceCtorEq,seval,t0,t3,t4,h6,y1,y2,y3,y4,y5,y6,hk,Dep.pa,Dep.row,prm62]
      | false =>
        have hnew:=(hne _ hk).1 rfl
        by_cases c7:(n2:Int) > 2147483647
        ·obtain ⟨q1,rfl,rfl⟩:=hfail (.inr (fun q=>by have:=q.2.1;dsimp only at this;omega))
         rw [q1];simp only [↓evP,evB,stB,reduceIte,reduceCtorEq,seval,t0,t3,t4,h6,y1,y2,y3,y4,y5,y6,hk,c7,decide_true,Dep.pa,Dep.row,prm62]
        by_cases c8:(n3:Int) > 2147483647
        ·obtain ⟨q1,rfl,rfl⟩:=hfail (.inr (fun q=>by have:=q.2.2;dsimp only at this;omega))
         rw [q1];simp only [↓evP,evB,stB,reduceIte,reduceCtorEq,seval,t0,t3,t4,h6,y1,y2,y3,y4,y5,y6,hk,c7,c8,decide_true,decide_false,Dep.pa,Dep.row,prm62]
        have hok:¬ (S3.bad=true∨¬ okE D ((n1:Int) - 1) ((n2:Int),(n3:Int))):=by
         rintro (q | q)
         ·rw [hb3] at q;cases q
         ·exact q ⟨hnew,by dsimp only;omega,by dsimp only;omega⟩
        rw [if_neg hok,←hk2 hnew] at hent;have hlt3:=wG (s:=S) (by rw [htri];exact hb3)
        rw [htri] at hlt3;dsimp only at hlt3;have hDe:e.val:=by rw [hk2 hnew];exact xA hD hnew (by omega) (by dsimp only;omega) (by dsimp only;omega)
        have hle:e.st.length=D.st.length+1:=by rw [hk2 hnew];simp [bZ]
        have wi:IntKind.i64.wrap ((i:Int)+1)=((i+1:Nat):Int):=by rw [bY (by omega) (by omega)];omega
        simp only [↓evP,evB,stB,reduceIte,reduceCtorEq,seval,t0,t3,t4,h6,y1,y2,y3,y4,y5,y6,hk,c7,c8,decide_false,Dep.pa,Dep.row]
        refine ⟨_,by omega,(by repeat' (first | assumption | exact aV.mpr trivial | exact Within.refl _ _ _ | (refine bg ?_ rfl rfl) | (refine aW ?_ rfl))),i+1,e,S3,rfl,hlt,by simp only [stB,Nat.reduceEqDiff,Nat.reduceBEq,h6,wi],⟨by simp only [stB,reduceCtorEq,Nat.reduceEqDiff,Nat.reduceBEq,y1],?_⟩,⟨by simp only [stB,Nat.reduceEqDiff,Nat.reduceBEq,y3],?_⟩,⟨by simp only [stB,Nat.reduceEqDiff,Nat.reduceBEq,y5,g4],by simp only [stB,reduceCtorEq,Nat.reduceEqDiff,Nat.reduceBEq,y6,o4]⟩,k11,hDe,by omega,by rw [show cnt - (i+1)=f by omega];exact hent⟩
        ·simp only [stB,reduceCtorEq,Nat.reduceEqDiff,Nat.reduceBEq,y2];rw [k9,hc6]
         first | done | rfl
        ·simp only [stB,reduceCtorEq,Nat.reduceEqDiff,Nat.reduceBEq,y4]
         first | done | rfl
 ·have hie:i=cnt:=by omega
  subst hie;have ilt:¬ (i:Int) < (i:Int):=by omega
  rw [Nat.sub_self] at hent;obtain ⟨q1,q2⟩:=hfin D S hent.symm;rw [hx] at q2;rw [q1];have q3:e1=x1∧e2=x2:=by simp at q2;exact ⟨q2.1.symm,q2.2.symm⟩
  obtain ⟨rfl,rfl⟩:=q3;simp only [↓evP,evB,stB,reduceIte,reduceCtorEq,seval,t0,t3,t4,t5,h6,y1,y2,y3,y4,y5,y6,ilt,decide_false,Dep.row,prm62]
end Go.Proofs.Ytkafcpnahpfbfaa
end
section
namespace Go.Proofs.Ytkafcpnahpfbfaa
open Go Go.RowKit Go.Shelf
set_option maxRecDepth 1000000
set_option maxHeartbeats 4000000
attribute [local go_sem] Oper.semAt_some
def FV (b o n k:Nat):Value:=.slice (some ⟨b,o+16 * k * 9,none⟩) (min 16 (n - 16 * k)) (min 16 (n - 16 * k))
def Kp2 (k2 k3:Nat) (W W':World):Prop:=W'.heap[k2]? = W.heap[k2]?∧W'.heap[k3]? = W.heap[k3]?
theorem Kp2.t {k2 k3:Nat} {A B C:World} (h:Kp2 k2 k3 A B) (k:Kp2 k2 k3 B C):Kp2 k2 k3 A C:=⟨k.1.trans h.1,k.2.trans h.2⟩
theorem Kp2.U7 {k2 k3:Nat} {A B:World} (h:Kp2 k2 k3 A B):B.cell? ⟨k2,0,none⟩=A.cell? ⟨k2,0,none⟩:=by
 unfold World.cell?;rw [h.1]
theorem Kp2.RG {k2 k3:Nat} {A B:World} (h:Kp2 k2 k3 A B):B.cell? ⟨k3,0,none⟩=A.cell? ⟨k3,0,none⟩:=by
 unfold World.cell?;rw [h.2]
theorem H8 (F:Fence) (hFw:F=Fence.wide) (n:Nat) (hf:F.fn 47) (hro:F.round=none) (hn:1≤n) (l k2 k3 b o len cap m:Nat) (hlen:len≤1000) (hcap:len≤cap) (hcm:cap≤maxLen) (hm:m=(len+15) / 16) (J Jx:List (Fin m)→World→Prop)
 (hY:∀ pre x W,J pre W→pre.length < m→YieldAt F (n - 1) Try.prog l #[FV b o len x.1] W fun e W' =>
  (e=.returned (.bool true)∧J (pre ++ [x]) W'∧Kp2 k2 k3 W W')∨(e=.returned (.bool false)∧Jx (pre ++ [x]) W'))
 (hJd:∀ pre W,J pre W→J pre W.drew)
 (W:World) (h2:W.cell? ⟨k2,0,none⟩=some (.slice (some ⟨b,o,none⟩) len cap)) (h3:W.cell? ⟨k3,0,none⟩=some (.int .i64 16)) (h0:J [] W) :
 CallsIn F n Try.prog 47 #[.func (.yield l) #[] #[],.pointer (some ⟨k2,0,none⟩),.pointer (some ⟨k3,0,none⟩)] W fun e W'=>(∃ v,e=.returned v) ∧
  ((∃ ys,ys.map (·.1)=List.range m∧J ys W')∨(∃ pre,True∧Jx pre W')):=by
 refine callsIn_of_wp Try.func47 rfl hf ?_ hro;simp only [Try.ntmps47,List.size_toArray,List.length_cons,List.length_nil,Nat.reduceAdd,Nat.reduceSub,Array.replicate_succ,Array.replicate_zero,List.push_toArray,List.append_toArray,List.nil_append,List.cons_append]
 gi_wp2
 gi_loopw [4] (fun i wr=>∃ (k:Nat) (ys:List (Fin m)),k≤m∧ys.map (·.1)=List.range k∧i=.int .i64 ((16 * k:Nat):Int)∧J ys wr∧Kp2 k2 k3 W wr)
  (fun i _=>len+16 - (intOf i).toNat)
 case atStart=>exact ⟨0,[],Nat.zero_le _,rfl,rfl,h0,⟨rfl,rfl⟩⟩
 case round =>
  obtain ⟨k,ys,hk,hys,rfl,hJs,hkp⟩:=hrel;have h2':=hkp.U7.trans h2;have h3':=hkp.RG.trans h3
  by_cases hlt:k < m
  ·obtain ⟨fn,tmps,assign,body,hy,hR⟩:=hY ys ⟨k,hlt⟩ wr.drew (hJd _ _ hJs) (by have:=congrArg List.length hys;simp at this;omega)
   dsimp only [FV] at hy;have hkl:16 * k < len:=by omega
   gi_wp2
   subst hFw;refine wpIn_wide.2 ?_
   go_region
   have hif:(if ((len - 16 * k:Nat):Int) < 16 then ((len - 16 * k:Nat):Int) else 16)=((min 16 (len - 16 * k):Nat):Int):=by split <;> omega
   simp only [hif];obtain ⟨q,hq⟩:∃ q,min 16 (len - 16 * k)=q:=⟨_,rfl⟩
   rw [hq] at hy ⊢;have hq1:16 * k+q≤len:=by omega
   have h2d:wr.drew.cell? ⟨k2,0,none⟩=some (.slice (some ⟨b,o,none⟩) len cap):=h2'
   have hwq:IntKind.i64.wrap (((16 * k:Nat):Int)+(q:Int))=((16 * k+q:Nat):Int):=by
    rw [IntKind.wrap_i64] <;> omega
   gi_wp2
   refine hR.mono ?_;rintro e W3 (⟨rfl,hJ3,hk3⟩ | ⟨rfl,hJx3⟩)
   ·have h33:W3.cell? ⟨k3,0,none⟩=some (.int .i64 16):=hk3.RG.trans h3'
    have hw16:IntKind.i64.wrap (((16 * k:Nat):Int)+16)=((16 * (k+1):Nat):Int):=by
     rw [IntKind.wrap_i64] <;> omega
    gi_wp2
    go_roundw
    case rel=>exact ⟨k+1,ys ++ [⟨k,hlt⟩],by omega,by rw [List.map_append,hys,List.range_succ];rfl,by simp;omega,hJ3,hkp.t hk3⟩
    case measure=>simp [intOf];omega
   ·gi_wp2
    refine bodyPost_ret (results_none rfl _ _ _) rfl ?_;exact ⟨⟨_,rfl⟩,.inr ⟨_,trivial,hJx3⟩⟩
  ·obtain rfl:k=m:=by omega
   gi_wp2
   go_end0
   exact ⟨⟨_,rfl⟩,.inl ⟨_,hys,hJs⟩⟩
theorem kpb {k2 k3:Nat} {w:World} (h2:k2 < w.heap.size) (h3:k3 < w.heap.size) (W:World) (l:Nat) (o o':Obj) (hl:w.heap.size≤l) (_:W.heap[l]? = some o) (_:o.isCells=false) (_:o.isWalk=false):Kp2 k2 k3 W (W.putObj l o') :=
 ⟨World.putObj_heap_other (by omega),World.putObj_heap_other (by omega)⟩
theorem H7 (F:Fence) (n:Nat) (hf:F.fn 47) (hro:F.round=none) (l k2 k3:Nat) (A:Option Addr) (cap:Nat) {α:Type} (J:List α→World→Prop)
 (W:World) (h2:W.cell? ⟨k2,0,none⟩=some (.slice A 0 cap)) (h0:J [] W) :
 CallsIn F n Try.prog 47 #[.func (.yield l) #[] #[],.pointer (some ⟨k2,0,none⟩),.pointer (some ⟨k3,0,none⟩)] W fun e W'=>(∃ v,e=.returned v)∧J [] W':=by
 refine callsIn_of_wp Try.func47 rfl hf ?_ hro;simp only [Try.ntmps47,List.size_toArray,List.length_cons,List.length_nil,Nat.reduceAdd,Nat.reduceSub,Array.replicate_succ,Array.replicate_zero,List.push_toArray,List.append_toArray,List.nil_append,List.cons_append]
 gi_wp2
 gi_loopw [4] (fun i wr=>i=.int .i64 0∧J [] wr∧wr.cell? ⟨k2,0,none⟩=some (.slice A 0 cap)) (fun _ _=>0)
 case atStart=>exact ⟨rfl,h0,h2⟩
 case round =>
  obtain ⟨rfl,hJs,h2'⟩:=hrel
  gi_wp2
  go_end0
  exact ⟨⟨_,rfl⟩,hJs⟩
theorem AV {S:Nat→Nat} {es:List Ev} {v:Value} {k2 k3:Nat} {w:World} (n:Nat) (hn:1≤n) (hel:es.length≤1000) (hv:RD S w (.im (es.map Ev.row)) v) (h2:w.cell? ⟨k2,0,none⟩=some v) (h3:w.cell? ⟨k3,0,none⟩=some (.int .i64 16)) (hk2:k2 < w.heap.size) (hk3:k3 < w.heap.size) :
 ∃ enc:Fin (dL es)→Value,(∀ x S' w',RD S' w' (.im (es.map Ev.row)) v→RD S' w' (.im ((bV es (16 * x.1) 16).map Ev.row)) (enc x)) ∧
   SeqStopsK Fence.wide n Try.prog 47 #[.pointer (some ⟨k2,0,none⟩),.pointer (some ⟨k3,0,none⟩)] (fun x=>#[enc x]) (Kp2 k2 k3) (fun ys=>ys.map (·.1)=List.range (dL es)) (fun _=>True) (dL es) w:=by
 by_cases he:es=[]
 ·subst he
  have hA:∃ A c,v=.slice A 0 c:=by
   cases hv with
   | emp A c h=>exact ⟨A,c,rfl⟩
   | im rows sz b o cap f=>exact ⟨_,_,rfl⟩
  obtain ⟨A,c,rfl⟩:=hA;refine ⟨fun _=>undef,fun x=>absurd x.2 (by show ¬ x.1 < (0+15) / 16;omega),fun l J Jx W hW _ _ hY h0=>?_⟩
  have h2':=(hW.cell (p:=⟨k2,0,none⟩) hk2).trans h2;exact (H7 Fence.wide n trivial rfl l k2 k3 A c J W h2' h0).mono fun e W' ⟨he,hj⟩=>⟨he,.inl ⟨[],rfl,hj⟩⟩
 ·have hpos:0 < es.length:=List.length_pos_iff.2 he
  have hA:∃ b o cap,v=.slice (some ⟨b,o,none⟩) es.length cap∧es.length≤cap∧cap≤maxLen:=by
   generalize hr:es.map Ev.row=rows at hv;have hl:rows.length=es.length:=by rw [←hr,List.length_map]
   cases hv with
   | emp A c h=>simp at hl;omega
   | im rows sz b o cap f hc hm=>exact ⟨b,o,cap,by rw [hl],by omega,hm⟩
  obtain ⟨b,o,cap,rfl,hc1,hc2⟩:=hA;refine ⟨fun x=>FV b o es.length x.1,fun x S' w' h=>?_,fun l J Jx W hW hJ _ hY h0=>?_⟩
  ·generalize hr:es.map Ev.row=rows at h;have hl:rows.length=es.length:=by rw [←hr,List.length_map]
   have hx:=x.2;unfold dL at hx
   have hrows:(bV es (16 * x.1) 16).map Ev.row=(rows.drop (16 * x.1)).take 16:=by
    rw [←hr];unfold bV;rw [List.map_take,List.map_drop]
   have hln:((bV es (16 * x.1) 16).map Ev.row).length=min 16 (es.length - 16 * x.1):=by rw [List.length_map,iy]
   show RD S' w' _ (.slice (some ⟨b,o+16 * x.1 * 9,none⟩) (min 16 (es.length - 16 * x.1)) (min 16 (es.length - 16 * x.1)))
   rw [←hln];rw [hl.symm] at hc1
   have hget:∀ i,i < min 16 (es.length - 16 * x.1)→((bV es (16 * x.1) 16).map Ev.row)[i]? = rows[16 * x.1+i]?:=fun i hi=>by
    rw [hrows,List.getElem?_take,if_pos (by omega),List.getElem?_drop]
   generalize hE:(bV es (16 * x.1) 16).map Ev.row=R at hln hget;generalize hL:es.length=L at h
   cases h with
   | emp A c h=>simp at hl;omega
   | im _ sz _ _ _ f hc hm hsz hcell hd =>
     have hsz9:sz=9:=by
      have h9:∀ r ∈ rows,r.length=9:=by
       rw [←hr];intro r h;obtain ⟨e,_,rfl⟩:=List.mem_map.1 h;rfl
      have hm0:rows[0]'(by omega) ∈ rows:=List.getElem_mem _;exact (hsz _ hm0).symm.trans (h9 _ hm0)
     subst hsz9;refine .im R 9 b (o+16 * x.1 * 9) R.length (fun i j=>f (16 * x.1+i) j) (Nat.le_refl _) (by rw [hln];unfold maxLen at *;omega) (fun r hm=>?_) (fun i j hi hj=>?_) (fun i r j y h1 h2=>?_)
     ·obtain ⟨i,hi⟩:=List.mem_iff_getElem?.1 hm;have hlt:=(List.getElem?_eq_some_iff.1 hi).1;rw [hln] at hlt;rw [hget i hlt] at hi;exact hsz r (List.mem_of_getElem? hi)
     ·rw [hln] at hi;have:=hcell (16 * x.1+i) j (by omega) hj;have e:o+((16 * x.1+i) * 9+j)=o+16 * x.1 * 9+(i * 9+j):=by omega
      rw [e] at this;exact this
     ·have hlt:=(List.getElem?_eq_some_iff.1 h1).1;rw [hln] at hlt;rw [hget i hlt] at h1;exact hd _ r j y h1 h2
  ·have h2':=(hW.cell (p:=⟨k2,0,none⟩) hk2).trans h2;have h3':=(hW.cell (p:=⟨k3,0,none⟩) hk3).trans h3;exact H8 Fence.wide rfl n trivial rfl hn l k2 k3 b o es.length cap (dL es) hel hc1 hc2 rfl J Jx hY (fun pre W h=>hJ pre W W.drew none h ⟨rfl,rfl,rfl,Nat.le_refl _,fun _ _ _=>rfl⟩ (fun r e=>by cases e)) W h2' h3' h0
end Go.Proofs.Ytkafcpnahpfbfaa
end
section
namespace Go.Proofs.Ytkafcpnahpfbfaa
open Go Go.RowKit
set_option maxRecDepth 1000000
set_option maxHeartbeats 4000000
noncomputable def KX:Env:=f1 36 NY (e1 37 rV (e1 39 BG (e1 40 xU (e1 38 BH e0))))
theorem D8:aA Try.prog KX:=aA.f1 Uu (aA.e1 wB (aA.e1 Nv (aA.e1 JF (aA.e1 Nw aA.e0))))
def wJ (ps rs:List Pa):Prop:=∃ (es:List Ev) (d:Dep),ps=[eH es d]∧tu d es∧rs=[.one (.im (uT (bX d es)))]
theorem Df:Spec Try.prog 20 wJ:=by
 refine sp20 D8 ?_;rintro ps rs ⟨es,d,rfl,ok,rfl⟩;refine ⟨by simp,?_⟩;unfold pc20
 with_reducible refine aJ ?_
 have m1:(d.st.map aQ).length=d.st.length:=List.length_map ..;have m2:(es.map Ev.row).length=es.length:=List.length_map ..;have hel:=ok.el;have hdl:=ok.len;simp only [↓evP,evB,stB,Nat.reduceEqDiff,eH,dA,pr20];refine dP [1,3,4,5,6] [1,3,4] (fun S hs ho=>?_);simp only [stB,Nat.reduceEqDiff] at hs ho;obtain ⟨q1,q3,q4,q5,q6⟩:=hs;obtain ⟨⟨g1,o1⟩,⟨g3,o3⟩,g4,o4⟩:=ho;refine bH ms20_0 (49 :: os20_0) (fun m st=>∃ k:Nat,m=dL es - k∧k≤dL es∧st.sl 6=aI ((16 * k:Nat):Int)∧st.sl 5=aI ((bA (es.take (16 * k)) 0:Nat):Int)∧st.sl 3=.b (.one (.own 3 1 (uT ((List.range k).map (fV d es)))))∧st.gen 3=1∧st.ob 3=.row 31 1 k∧st.gen 4=1∧st.ob 4=.cells ((lst ev0 (es.take (16 * k))).row.map .d)) (dL es) ?_ ?_
 ·exact ⟨0,rfl,Nat.zero_le _,q6,q5,q3,g3,o3,g4,o4⟩
 rintro m z ⟨k,rfl,hk,h6,h5,h3,hg3,ho3,hg4,ho4⟩;simp only [stB,Nat.reduceBEq] at h6 h5 h3 hg3 ho3 hg4 ho4
 rcases Nat.lt_or_ge k (dL es) with hlt | hge
 ·have hkl:16 * k < es.length:=by unfold dL at hlt;omega
  have lt1:((16 * k:Nat):Int) < (es.length:Int):=by omega
  have w1:IntKind.i64.wrap (((16 * k:Nat):Int)+16)=((16 * k+16:Nat):Int):=by rw [bY (by omega) (by omega)];omega
  obtain ⟨c,hc⟩:∃ c,min (16 * k+16) es.length=16 * k+c:=⟨min (16 * k+16) es.length - 16 * k,by omega⟩
  have hmin:(if (es.length:Int) < ((16 * k+16:Nat):Int) then (es.length:Int) else ((16 * k+16:Nat):Int))=((16 * k+c:Nat):Int):=by split <;> omega
  have hc16:c≤16:=by omega
  have hcl:16 * k+c≤es.length:=by omega
  simp only [↓evP,evB,stB,reduceCtorEq,Nat.reduceEqDiff,Nat.reduceAdd,Nat.reduceLeDiff,Nat.reduceBEq,q1,g1,o1,h6,h5,m2,lt1,w1,List.foldl_cons,List.foldl_nil,hmin,decide_true]
  refine jm (fun st=>Within ms20_0 (49 :: os20_0) S st) (by repeat' (first | assumption | exact aV.mpr trivial | exact Within.refl _ _ _ | (refine bg ?_ rfl rfl) | (refine aW ?_ rfl))) [1,3,4,5,6,7,8,9] [1,3,4] (fun S3 hw3 hs3 ho3'=>?_);simp only [stB,Nat.reduceEqDiff,Nat.reduceBEq,q1,q4,g1,o1,h6,h5,h3,hg3,ho3,hg4,ho4] at hs3 ho3';obtain ⟨a1,a3,a4,a5,a6,a7,a8,a9⟩:=hs3;obtain ⟨⟨bg1,bo1⟩,⟨bg3,bo3⟩,bg4,bo4⟩:=ho3';have hn0:=ok.need (16 * k);refine bH ms20_1 os20_1 (fun m st=>∃ j:Nat,m=c - j∧j≤c∧st.sl 9=aI ((16 * k+j:Nat):Int)∧st.sl 8=aI ((bA (es.take (16 * k+j)) 0:Nat):Int)) c ?_ ?_
  ·exact ⟨0,rfl,Nat.zero_le _,a9,a8⟩
  rintro m2' z2 ⟨j,rfl,hj,h9,h8⟩;simp only [stB,Nat.reduceBEq] at h9 h8
  rcases Nat.lt_or_ge j c with hjc | hjc
  ·have hi:16 * k+j < es.length:=by omega
   have ge:es[16 * k+j]? = some (es[16 * k+j]):=List.getElem?_eq_getElem hi;generalize es[16 * k+j]=e at ge;have hev:=ok.ev e (List.mem_of_getElem? ge);have hst:=uF hev.1 e.stack (by simp [Ev.fl]);have lt2:((16 * k+j:Nat):Int) < ((16 * k+c:Nat):Int):=by omega
   have i0:(0:Int)≤((16 * k+j:Nat):Int):=by omega
   have w2:IntKind.i64.wrap (e.stack+1)=e.stack+1:=bY (by omega) (by omega);have w3:IntKind.i64.wrap (((16 * k+j:Nat):Int)+1)=((16 * k+(j+1):Nat):Int):=by rw [bY (by omega) (by omega)];omega
   have hne:bA (es.take (16 * k+(j+1))) 0=max (bA (es.take (16 * k+j)) 0) (e.stack+1).toNat:=by
    rw [show 16 * k+(j+1)=16 * k+j+1 from rfl,take_at ge,iA];rfl
   have hmax:(if e.stack+1 > ((bA (es.take (16 * k+j)) 0:Nat):Int) then e.stack+1 else ((bA (es.take (16 * k+j)) 0:Nat):Int))=((bA (es.take (16 * k+(j+1))) 0:Nat):Int):=by
    rw [hne];split <;> omega
   simp only [↓evP,evB,stB,reduceCtorEq,Nat.reduceEqDiff,Nat.reduceAdd,Nat.reduceLeDiff,Nat.reduceBEq,a1,a7,bg1,bo1,h9,h8,ge,lt2,i0,w2,List.foldl_cons,List.foldl_nil,hmax,Ev.row,decide_true]
   exact ⟨_,by omega,(by repeat' (first | assumption | exact aV.mpr trivial | exact Within.refl _ _ _ | (refine bg ?_ rfl rfl) | (refine aW ?_ rfl))),j+1,rfl,hjc,by simp only [stB,Nat.reduceEqDiff,Nat.reduceBEq,h9,w3],by simp only [stB,Nat.reduceEqDiff,Nat.reduceBEq];first | done | rw [hmax]⟩
  have hje:j=c:=by omega
  subst hje;have lt2:¬ ((16 * k+j:Nat):Int) < ((16 * k+j:Nat):Int):=by omega
  simp only [↓evP,evB,stB,reduceCtorEq,Nat.reduceEqDiff,Nat.reduceAdd,Nat.reduceLeDiff,Nat.reduceBEq,a1,a7,bg1,bo1,a5,h9,h8,lt2,decide_false];have hn1:=ok.need (16 * k+j)
  have hnn:bA (es.take (16 * k)) 0≤bA (es.take (16 * k+j)) 0:=by
   rw [←gV es (16 * k) j,iA];exact nX _ _
  refine kN (byR (mH d (bA (es.take (16 * k)) 0) (bA (es.take (16 * k+j)) 0))) (E:=5) (sz:=1) (by exact ⟨d,_,_,rfl,⟨ok.dk,hnn,hn1⟩,rfl,rfl,rfl⟩) ?_;obtain ⟨B0,hB0⟩:∃ B0,mH d (bA (es.take (16 * k)) 0) (bA (es.take (16 * k+j)) 0)=B0:=⟨_,rfl⟩
  have hB0l:B0.length≤27009:=by
   have:=jF d (bA (es.take (16 * k)) 0) (bA (es.take (16 * k+j)) 0);rw [hB0] at this;omega
  have cB0:=aY B0;have w4:IntKind.i64.wrap (((16 * k+j:Nat):Int) - ((16 * k:Nat):Int))=(j:Int):=by rw [bY (by omega) (by omega)];omega
  rw [hB0];simp only [↓evP,evB,stB,Nat.reduceEqDiff,Nat.reduceBEq,a6,a7,a8,h8,cB0,w4];refine aC [cu (bq j)] (by exact ⟨j,rfl,by omega,rfl⟩) ?_;have c1:=aY (bq j);have al1:=dZ (bq j);have l1:=bU j;have g5:B0.length+(bq j).length≤1000000:=by omega
  simp only [↓evP,evB,stB,Nat.reduceEqDiff,Nat.reduceLeDiff,Nat.reduceBEq,a6,cB0,cu,c1,al1,g5];obtain ⟨l,hl⟩:∃ l,lst ev0 (es.take (16 * k))=l:=⟨_,rfl⟩
  have hlg:evG l:=by rw [←hl];exact vV Ag fun e he=>(ok.ev e (lS he)).1
  rw [hl] at bo4;simp only [Ev.row,List.map_cons,List.map_nil] at bo4
  refine jm (fun st=>Within ms20_0 (49 :: os20_0) S st) (by repeat' (first | exact jq hw3 rfl rfl | (refine bg ?_ rfl rfl) | (refine aW ?_ rfl))) [1,3,4,5,6,7,10,11] [1,3,4,49] (fun S4 hw4 hs4 ho4'=>?_);simp only [stB,Nat.reduceEqDiff,Nat.reduceBEq,a1,a3,a4,a5,a6,a7,bg1,bo1,bg3,bo3,bg4,bo4] at hs4 ho4';clear hw3 a1 a3 a4 a5 a6 a7 a8 a9 h9 h8 bg1 bo1 bg3 bo3 bg4 bo4 h6 h5 h3 hg3 ho3 hg4 ho4;obtain ⟨a1,a3,a4,a5,a6,a7,a10,a11⟩:=hs4;obtain ⟨⟨bg1,bo1⟩,⟨bg3,bo3⟩,⟨bg4,bo4⟩,bg49,bo49⟩:=ho4';obtain ⟨G,hG⟩:∃ G,S3.gen 49+1=G:=⟨_,rfl⟩
  obtain ⟨B1,hB1⟩:∃ B1,B0 ++ bq j=B1:=⟨_,rfl⟩
  have hB1l:B1.length=B0.length+(bq j).length:=by rw [←hB1,List.length_append]
  rw [hG,iM,hB1] at a10;rw [hG] at bg49;rw [←hB1l] at bo49;refine bH ms20_2 (49 :: os20_2) (fun m st=>∃ i:Nat,m=j - i∧i≤j∧st.sl 11=aI ((16 * k+i:Nat):Int)∧st.sl 10=.b (.one (.own 49 G (byR (B1 ++ fC l (bV es (16 * k) i)))))∧st.gen 49=G∧st.ob 49=.row 5 1 (B1 ++ fC l (bV es (16 * k) i)).length∧st.gen 4=1∧st.ob 4=.cells ((lst l (bV es (16 * k) i)).row.map .d)) j ?_ ?_
  ·exact ⟨0,rfl,Nat.zero_le _,a11,by rw [a10,show fC l (bV es (16 * k) 0)=[] from rfl,List.append_nil],bg49,by rw [bo49,show fC l (bV es (16 * k) 0)=[] from rfl,List.append_nil],bg4,bo4⟩
  rintro m3' z3 ⟨i,rfl,hi,h11,h10,hg49,ho49,hg4,ho4⟩;simp only [stB,Nat.reduceBEq] at h11 h10 hg49 ho49 hg4 ho4
  rcases Nat.lt_or_ge i j with hij | hij
  ·have hil:16 * k+i < es.length:=by omega
   have ge:es[16 * k+i]? = some (es[16 * k+i]):=List.getElem?_eq_getElem hil;generalize es[16 * k+i]=e at ge;have hev:=(ok.ev e (List.mem_of_getElem? ge)).1;have heg:evG e:=uF hev
   have hx1:bV es (16 * k) (i+1)=bV es (16 * k) i ++ [e]:=by
    unfold bV;refine take_at ?_;rw [List.getElem?_drop];exact ge
   obtain ⟨l',hl'⟩:∃ l',lst l (bV es (16 * k) i)=l':=⟨_,rfl⟩
   have hlg':evG l':=by rw [←hl'];exact vV hlg fun e he=>(ok.ev e (oO he)).1
   have hx2:fC l (bV es (16 * k) (i+1))=fC l (bV es (16 * k) i) ++ pK l' e:=by
    rw [hx1,sJ,hl',yx]
   have hx3:lst l (bV es (16 * k) (i+1))=e:=by rw [hx1,pQ];rfl
   have hx4:=lG (bV es (16 * k) i) l;have hx5:=iy es (16 * k) i;rw [hl'] at ho4;simp only [Ev.row,List.map_cons,List.map_nil] at ho4;obtain ⟨B2,hB2⟩:∃ B2,B1 ++ fC l (bV es (16 * k) i)=B2:=⟨_,rfl⟩
   have hB2l:B2.length≤40000:=by rw [←hB2,List.length_append];omega
   rw [hB2] at h10 ho49;have lt3:((16 * k+i:Nat):Int) < ((16 * k+j:Nat):Int):=by omega
   have i0:(0:Int)≤((16 * k+i:Nat):Int):=by omega
   have w3:IntKind.i64.wrap (((16 * k+i:Nat):Int)+1)=((16 * k+(i+1):Nat):Int):=by rw [bY (by omega) (by omega)];omega
   simp only [↓evP,evB,stB,reduceCtorEq,Nat.reduceEqDiff,Nat.reduceAdd,Nat.reduceLeDiff,Nat.reduceBEq,a1,a7,bg1,bo1,h11,h10,ge,lt3,i0,Ev.row,decide_true];refine fP [.one (.im (inR e.fl))] (by exact ⟨e,rfl,rfl⟩) ?_;simp only [evB,stB,Nat.reduceEqDiff,Nat.reduceAdd,Nat.reduceLeDiff,Nat.reduceBEq,a4,hg4,ho4];refine fP [.one (.im (inR l'.fl))] (by exact ⟨l',rfl,rfl⟩) ?_;simp only [↓evP,evB,stB,Nat.reduceEqDiff,Nat.reduceBEq];refine ⟨(by unfold Drw;refine Eq.trans (b:=true) ?_ rfl;kernel_rfl),?_⟩
   refine jm (fun st=>Within ms20_2 (49 :: os20_2) S4 st) (by repeat' (first | assumption | exact aV.mpr trivial | exact Within.refl _ _ _ | (refine bg ?_ rfl rfl) | (refine aW ?_ rfl))) [1,4,7,10,11,12,13,14] [1,4,49] (fun S5 hw5 hs5 ho5=>?_);simp only [stB,Nat.reduceEqDiff,Nat.reduceBEq,a1,a4,a7,bg1,bo1,h11,h10,hg49,ho49,hg4,ho4] at hs5 ho5;obtain ⟨b1,b4,b7,b10,b11,b12,b13,b14⟩:=hs5;obtain ⟨⟨cg1,co1⟩,⟨cg4,co4⟩,cg49,co49⟩:=ho5;clear h11 h10 hg49 ho49 hg4 ho4;obtain ⟨V,hV⟩:∃ V,List.zipWith (fun x y=>x - y) e.fl l'.fl=V:=⟨_,rfl⟩
   have hVl:V.length=9:=by rw [←hV];simp [Ev.fl]
   have hevt:pK l' e=V.flatMap eG:=by unfold pK;rw [hV]
   have f1:=aY B2;have n1:(inR e.fl).length=9:=rfl;have n2:(inR l'.fl).length=9:=rfl;refine bH ms20_3 (49 :: os20_3) (fun m st=>∃ x:Nat,m=9 - x∧x≤9∧st.sl 14=aI (x:Int)∧st.sl 10=.b (.one (.own 49 G (byR (B2 ++ (V.take x).flatMap eG))))∧st.gen 49=G∧st.ob 49=.row 5 1 (B2 ++ (V.take x).flatMap eG).length) 9 ?_ ?_
   ·exact ⟨0,rfl,Nat.zero_le _,b14,by rw [b10];simp,cg49,by rw [co49];simp⟩
   rintro m4' z4 ⟨x,rfl,hx,h14,h10,hg49,ho49⟩;simp only [stB,Nat.reduceBEq] at h14 h10 hg49 ho49
   rcases Nat.lt_or_ge x 9 with hx9 | hx9
   ·obtain ⟨u,hu⟩:∃ u,e.fl[x]? = some u:=⟨_,List.getElem?_eq_getElem (by simp [Ev.fl];omega)⟩
    obtain ⟨v,hv⟩:∃ v,l'.fl[x]? = some v:=⟨_,List.getElem?_eq_getElem (by simp [Ev.fl];omega)⟩
    have hub:=heg u (List.mem_of_getElem? hu);have hvb:=hlg' v (List.mem_of_getElem? hv);have gu:(inR e.fl)[x]? = some [dI u]:=by unfold inR;rw [List.getElem?_map,hu];rfl
    have gv:(inR l'.fl)[x]? = some [dI v]:=by unfold inR;rw [List.getElem?_map,hv];rfl
    have hVx:V[x]? = some (u - v):=by rw [←hV,List.getElem?_zipWith,hu,hv]
    have hVs:(V.take (x+1)).flatMap eG=(V.take x).flatMap eG ++ eG (u - v):=by
     rw [take_at hVx,List.flatMap_append,List.flatMap_cons,List.flatMap_nil,List.append_nil]
    obtain ⟨B3,hB3⟩:∃ B3,B2 ++ (V.take x).flatMap eG=B3:=⟨_,rfl⟩
    have hB3l:B3.length≤50000:=by
     have:(V.take x).flatMap eG=pK l' e→True:=fun _=>trivial
     rw [←hB3,List.length_append]
     have hq:∀ (xs:List Int),(xs.flatMap eG).length≤9 * xs.length:=fun xs=>by
      induction xs with
      | nil=>exact Nat.le_refl _
      | cons x xs ih =>
        rw [List.flatMap_cons,List.length_append,List.length_cons];have:(eG x).length≤9:=bU _;omega
     have:=hq (V.take x);rw [List.length_take] at this;omega
    rw [hB3] at h10 ho49;have lt4:(x:Int) < 9:=by omega
    have x0:(0:Int)≤(x:Int):=by omega
    have w5:IntKind.i64.wrap (u - v)=u - v:=bY (by omega) (by omega);have w6:IntKind.i64.wrap ((x:Int)+1)=((x+1:Nat):Int):=by rw [bY (by omega) (by omega)];omega
    have f3:=aY B3;have dl:(eG (u - v)).length≤9:=bU _;have dl2:=aY (eG (u - v));have da:=dZ (eG (u - v));have g6:B3.length+(eG (u - v)).length≤1000000:=by omega
    have hl9:((9:Nat):Int)=9:=rfl;simp only [↓evP,evB,stB,reduceCtorEq,Nat.reduceEqDiff,Nat.reduceBEq,b12,b13,h14,h10,n1,hl9,lt4,x0,gu,gv,w5,decide_true];refine fP [cu (eG (u - v))] (by exact ⟨u - v,rfl,by omega,rfl⟩) ?_;simp only [↓evP,evB,stB,Nat.reduceEqDiff,Nat.reduceLeDiff,Nat.reduceBEq,h14,hg49,ho49,cu,f3,dl2,da,g6];refine ⟨(by unfold Drw;refine Eq.trans (b:=true) ?_ rfl;kernel_rfl),?_⟩
    exact ⟨_,by omega,(by repeat' (first | assumption | exact aV.mpr trivial | exact Within.refl _ _ _ | (refine bg ?_ rfl rfl) | (refine aW ?_ rfl))),x+1,rfl,hx9,by simp only [stB,Nat.reduceEqDiff,Nat.reduceBEq,h14,w6],by simp only [stB,Nat.reduceEqDiff,Nat.reduceBEq];rw [hVs,←List.append_assoc,hB3,iM],by simp only [stB,Nat.reduceBEq,hg49],by simp only [stB,Nat.reduceBEq,ho49];rw [hVs,←List.append_assoc,hB3,List.length_append]⟩
   ·have hxe:x=9:=by omega
    subst hxe;have hVt:V.take 9=V:=List.take_of_length_le (by omega);rw [hVt,←hevt] at h10 ho49;have lt4:((9:Int) < 9)=False:=by simp
    have hl9:((9:Nat):Int)=9:=rfl;simp only [↓evP,evB,stB,reduceCtorEq,Nat.reduceEqDiff,Nat.reduceAdd,Nat.reduceLeDiff,Nat.reduceSub,Nat.reduceBEq,b1,b4,b11,b12,h14,h10,n1,hl9,lt4,cg1,co1,cg4,co4,ge,i0,Ev.row,decide_false]
    refine ⟨_,by omega,(by repeat' (first | exact jq hw5 rfl rfl | (refine bg ?_ rfl rfl) | (refine aW ?_ rfl))),i+1,rfl,hij,?_,?_,?_,?_,?_,?_⟩
    ·simp only [stB,Nat.reduceEqDiff,Nat.reduceBEq,b11,w3]
    ·simp only [stB,Nat.reduceEqDiff,Nat.reduceBEq,h10];rw [hx2,←List.append_assoc,hB2]
    ·simp only [stB,Nat.reduceBEq,hg49]
    ·simp only [stB,Nat.reduceEqDiff,Nat.reduceBEq,ho49];rw [hx2,←List.append_assoc,hB2]
    ·simp only [stB,Nat.reduceBEq,cg4]
    ·simp only [stB,Nat.reduceBEq,co4,hx3];first | done | rfl
  ·have hie:i=j:=by omega
   subst hie;have lt3:¬ ((16 * k+i:Nat):Int) < ((16 * k+i:Nat):Int):=by omega
   have hev16:bV es (16 * k) 16=bV es (16 * k) i:=by
    unfold bV;rw [List.take_eq_take_iff,List.length_drop];omega
   have hevl:(bV es (16 * k) i).length=i:=by rw [iy];omega
   have htk:es.take (16 * k+16)=es.take (16 * k+i):=by
    rw [List.take_eq_take_iff];omega
   have hC:B1 ++ fC l (bV es (16 * k) i)=jZ d es k:=by
    unfold jZ;rw [hev16,hevl,htk,hl,←hB1,←hB0,List.append_assoc]
   have hlast:lst l (bV es (16 * k) i)=lst ev0 (es.take (16 * (k+1))):=by
    rw [←hl,←pQ,gV,show 16 * (k+1)=16 * k+16 from rfl,htk]
   rw [hC] at h10 ho49;rw [hlast] at ho4;have hbl:=oK ok k;have hby:=vH ok k;simp only [↓evP,evB,stB,reduceCtorEq,Nat.reduceEqDiff,Nat.reduceBEq,a1,a3,a7,h11,h10,lt3,decide_false];refine aC [cu (bM 66 (jZ d es k))] (by exact ⟨66,_,rfl,⟨by omega,by omega,hby⟩,rfl⟩) ?_;have r1:(uT ((List.range k).map (fV d es))).length=k:=by rw [qZ,List.length_map,List.length_range]
   have r2:k+1≤1000000:=by unfold dL at hk;omega
   have r3:(List.range (k+1)).map (fV d es)=(List.range k).map (fV d es) ++ [bM 66 (jZ d es k)]:=by
    rw [List.range_succ,List.map_append];rfl
   simp only [↓evP,evB,stB,Nat.reduceEqDiff,Nat.reduceLeDiff,Nat.reduceBEq,a6,bg3,bo3,cu,r1,r2]
   refine ⟨_,by omega,(by repeat' (first | exact jq hw4 rfl rfl | (refine bg ?_ rfl rfl) | (refine aW ?_ rfl))),k+1,rfl,hlt,?_,?_,?_,?_,?_,?_,?_⟩
   ·simp only [stB,Nat.reduceEqDiff,Nat.reduceBEq,a6,w1];first | done | rfl
   ·simp only [stB,Nat.reduceEqDiff,Nat.reduceBEq,a5];rw [show 16 * (k+1)=16 * k+16 from rfl,htk]
   ·simp only [stB,Nat.reduceEqDiff,Nat.reduceBEq,a3];rw [r3];unfold uT;rw [List.map_append];first | done | rfl
   ·simp only [stB,Nat.reduceEqDiff,Nat.reduceBEq,bg3]
   ·simp only [stB,Nat.reduceEqDiff,Nat.reduceBEq,bo3];first | done | rfl
   ·simp only [stB,Nat.reduceEqDiff,Nat.reduceBEq,hg4]
   ·simp only [stB,Nat.reduceEqDiff,Nat.reduceBEq,ho4]
 ·have hke:k=dL es:=by omega
  have htk:es.take (16 * k)=es:=List.take_of_length_le (by rw [hke];unfold dL;omega)
  have lt1:¬ ((16 * k:Nat):Int) < (es.length:Int):=by rw [hke];unfold dL;omega
  rw [htk] at h5;have hn0:=ok.need es.length;rw [List.take_length] at hn0;simp only [↓evP,evB,stB,reduceCtorEq,Nat.reduceEqDiff,Nat.reduceAdd,Nat.reduceLeDiff,Nat.reduceBEq,q1,g1,o1,h6,h5,m1,m2,lt1,decide_false];refine kN (byR (mH d (bA es 0) d.st.length)) (E:=5) (sz:=1) (by exact ⟨d,_,_,rfl,⟨ok.dk,hn0,Nat.le_refl _⟩,rfl,rfl,rfl⟩) ?_;have hB0l:=jF d (bA es 0) d.st.length;obtain ⟨B0,hB0⟩:∃ B0,mH d (bA es 0) d.st.length=B0:=⟨_,rfl⟩
  rw [hB0] at hB0l;have cB0:=aY B0;rw [hB0];simp only [↓evP,evB,stB,Nat.reduceEqDiff,Nat.reduceBEq,q1,g1,o1,h3,m2,cB0];refine aC [cu (bq es.length)] (by exact ⟨es.length,rfl,by omega,rfl⟩) ?_;have c1:=aY (bq es.length);have al1:=dZ (bq es.length);have l1:=bU es.length;have g5:B0.length+(bq es.length).length≤1000000:=by omega
  have hC:byR B0 ++ byR (bq es.length)=byR (jM d es):=by rw [iM];unfold jM;rw [hB0]
  simp only [evB,stB,Nat.reduceEqDiff,Nat.reduceLeDiff,Nat.reduceBEq,cB0,cu,c1,al1,g5,hC];have hbl:=nM ok;have hby:=sG ok;refine aC [cu (bM 69 (jM d es))] (by exact ⟨69,_,rfl,⟨by omega,by omega,hby⟩,rfl⟩) ?_;have r1:(uT ((List.range k).map (fV d es))).length=k:=by rw [qZ,List.length_map,List.length_range]
  have r2:k+1≤1000000:=by rw [hke];unfold dL;omega
  have r3:uT ((List.range k).map (fV d es)) ++ [[.im (byR (bM 69 (jM d es)))]]=uT (bX d es):=by
   unfold bX uT;rw [List.map_append,hke];rfl
  simp only [↓evP,evB,stB,reduceCtorEq,Nat.reduceEqDiff,Nat.reduceLeDiff,Nat.reduceBEq,hg3,ho3,cu,r1,r2,r3]
  first | done | rfl
end Go.Proofs.Ytkafcpnahpfbfaa
end
